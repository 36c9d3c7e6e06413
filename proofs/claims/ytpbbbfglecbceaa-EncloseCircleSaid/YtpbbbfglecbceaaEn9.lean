/- Package enclose: quotients. -/
import Derived.Test.YtpbbbfglecbceaaEn8
namespace Go.Proofs.Ytpbbbfglecbceaa
set_option linter.all false
open Go.RowKit

set_option maxHeartbeats 1000000 in
theorem quotient_any (x y : En.Rc) (hx : x.fit) (hy : y.fit) (w : World) : Calls Try.prog 77 #[rcV x, rcV y] w (Post rcV (En.quotient x y) w) := by
  go_enter Try.func77, Try.ntmps77
  go_wp2_with fail
  have HA : Hd (((w.alloc (.cells #[.int .i64 x.re.lo, .int .i64 x.re.hi, .int .i64 x.im.lo, .int .i64 x.im.hi] 25)).alloc (.cells #[.int .i64 y.re.lo, .int .i64 y.re.hi, .int .i64 y.im.lo, .int .i64 y.im.hi] 25)).alloc (.cells #[.int .i64 0, .int .i64 0, .int .i64 0, .int .i64 0] 25)) w.heap.size 25 #[.int .i64 x.re.lo, .int .i64 x.re.hi, .int .i64 x.im.lo, .int .i64 x.im.hi] := hdx
  have HB : Hd (((w.alloc (.cells #[.int .i64 x.re.lo, .int .i64 x.re.hi, .int .i64 x.im.lo, .int .i64 x.im.hi] 25)).alloc (.cells #[.int .i64 y.re.lo, .int .i64 y.re.hi, .int .i64 y.im.lo, .int .i64 y.im.hi] 25)).alloc (.cells #[.int .i64 0, .int .i64 0, .int .i64 0, .int .i64 0] 25)) (w.heap.size + 1) 25 #[.int .i64 y.re.lo, .int .i64 y.re.hi, .int .i64 y.im.lo, .int .i64 y.im.hi] := hdx
  have HC : Hd (((w.alloc (.cells #[.int .i64 x.re.lo, .int .i64 x.re.hi, .int .i64 x.im.lo, .int .i64 x.im.hi] 25)).alloc (.cells #[.int .i64 y.re.lo, .int .i64 y.re.hi, .int .i64 y.im.lo, .int .i64 y.im.hi] 25)).alloc (.cells #[.int .i64 0, .int .i64 0, .int .i64 0, .int .i64 0] 25)) (w.heap.size + 2) 25 #[.int .i64 0, .int .i64 0, .int .i64 0, .int .i64 0] := hdx
  have bw : Below w.heap.size w (((w.alloc (.cells #[.int .i64 x.re.lo, .int .i64 x.re.hi, .int .i64 x.im.lo, .int .i64 x.im.hi] 25)).alloc (.cells #[.int .i64 y.re.lo, .int .i64 y.re.hi, .int .i64 y.im.lo, .int .i64 y.im.hi] 25)).alloc (.cells #[.int .i64 0, .int .i64 0, .int .i64 0, .int .i64 0] 25)) := by go_grown
  refine (power_any y hy _).mono ?_
  intro e w1 hp
  obtain ⟨hb1, hcase⟩ := hp.cases
  clear hp
  replace bw : Below w.heap.size w w1 := below_next bw hb1
  replace HA := HA.call hb1
  replace HB := HB.call hb1
  replace HC := HC.call hb1
  have lw1 : w.heap.size ≤ w1.heap.size := bw.size
  clear hb1
  rcases hcase with ⟨s1, hs1, rfl⟩ | ⟨c1, hs1, rfl⟩
  rotate_left
  · exact ⟨rfl, post_err (by simp only [En.quotient, ebind_ok, ebind_err, epure, hs1]) bw⟩
  have hp1 := En.power_ok hs1
  by_cases hz : s1.lo ≤ 0
  · have hzh := Lib.hid hz
    go_wp2_with fail
    exact ⟨rfl, post_err (by simp only [En.quotient, hs1, ebind_ok]; exact if_pos hzh.out) (by go_grown)⟩
  have hzh : Hid (0 < s1.lo) := Lib.hid (by omega)
  go_wp2_with fail
  have ltAP : w.heap.size < w1.heap.size := HA.lt
  have ltBP : (w.heap.size + 1) < w1.heap.size := HB.lt
  have ltCP : (w.heap.size + 2) < w1.heap.size := HC.lt
  replace HA : Hd ((w1.alloc (.cells #[.int .i64 s1.lo, .int .i64 s1.hi] 23)).drew) w.heap.size 25 #[.int .i64 x.re.lo, .int .i64 x.re.hi, .int .i64 x.im.lo, .int .i64 x.im.hi] := hdx
  replace HB : Hd ((w1.alloc (.cells #[.int .i64 s1.lo, .int .i64 s1.hi] 23)).drew) (w.heap.size + 1) 25 #[.int .i64 y.re.lo, .int .i64 y.re.hi, .int .i64 y.im.lo, .int .i64 y.im.hi] := hdx
  replace HC : Hd ((w1.alloc (.cells #[.int .i64 s1.lo, .int .i64 s1.hi] 23)).drew) (w.heap.size + 2) 25 #[.int .i64 0, .int .i64 0, .int .i64 0, .int .i64 0] := hdx
  replace bw : Below w.heap.size w ((w1.alloc (.cells #[.int .i64 s1.lo, .int .i64 s1.hi] 23)).drew) := by go_grown
  have HP : Hd ((w1.alloc (.cells #[.int .i64 s1.lo, .int .i64 s1.hi] 23)).drew) w1.heap.size 23 #[.int .i64 s1.lo, .int .i64 s1.hi] := hdx
  (refine wp_region_fl (fun w' => Hd w' w.heap.size 25 #[.int .i64 x.re.lo, .int .i64 x.re.hi, .int .i64 x.im.lo, .int .i64 x.im.hi] ∧ Hd w' (w.heap.size + 1) 25 #[.int .i64 y.re.lo, .int .i64 y.re.hi, .int .i64 y.im.lo, .int .i64 y.im.hi] ∧ Below w.heap.size w w') 4 [(0, 0), (1, 0), (2, 2), (3, 2), (4, 1), (5, 1)] (by kernel_rfl) (by kernel_rfl) (fun c d v a w h => by cases d <;> exact h) ⟨HA, HB, bw⟩ ?_; simp only [List.map_cons, List.map_nil, List.getD_cons_zero, List.getD_cons_succ, flMark, Nat.reduceEqDiff, ↓reduceIte])
  repeat ((first | with_reducible apply fl_move | with_reducible apply fl_assign | ((with_reducible refine fl_soft (v := ?_) (fun w' hw' => ?_) ?_); rotate_left 1; (focus (obtain ⟨hA, hB, hBw⟩ := hw'; obtain ⟨hcA, hfA⟩ := hA.facts; obtain ⟨hcB, hfB⟩ := hB.facts; go_simp; (try with_reducible rfl); done)))); simp only [Act.put, Act.eval, qs])
  refine fl_both ?_ ?_
  · go_wp2_with fail
    refine (conj_any y hy _).mono ?_
    rintro e w2 ⟨rfl, hb2⟩
    replace bw : Below w.heap.size w w2 := below_next bw hb2
    replace HA := HA.call hb2
    replace HB := HB.call hb2
    replace HC := HC.call hb2
    replace HP := HP.call hb2
    have lw2 : w.heap.size ≤ w2.heap.size := bw.size
    clear hb2
    go_wp2_with fail
    refine ⟨⟨HA, HB, bw⟩, ?_⟩
    repeat ((first | with_reducible apply fl_move | with_reducible apply fl_assign | ((with_reducible refine fl_soft (v := ?_) (fun w' hw' => ?_) ?_); rotate_left 1; (focus (obtain ⟨hA, hB, hBw⟩ := hw'; obtain ⟨hcA, hfA⟩ := hA.facts; obtain ⟨hcB, hfB⟩ := hB.facts; go_simp; (try with_reducible rfl); done)))); simp only [Act.put, Act.eval, qs])
    refine fl_both ?_ ?_
    · go_wp2_with fail
      refine (times_any x (En.conj y) hx (En.conj_fit hy) _).mono ?_
      intro e w3 hp
      obtain ⟨hb3, hcase⟩ := hp.cases
      clear hp
      replace bw : Below w.heap.size w w3 := below_next bw hb3
      replace HA := HA.call hb3
      replace HB := HB.call hb3
      replace HC := HC.call hb3
      replace HP := HP.call hb3
      have lw3 : w.heap.size ≤ w3.heap.size := bw.size
      clear hb3
      rcases hcase with ⟨s3, hs3, rfl⟩ | ⟨c3, hs3, rfl⟩
      rotate_left
      · exact ⟨rfl, post_err (by simp only [En.quotient, ebind_ok, ebind_err, epure, hs1, if_neg (Int.not_le.mpr hzh.out), hs3]) bw⟩
      go_wp2_with fail
      refine ⟨⟨HA, HB, bw⟩, ?_⟩
      repeat ((first | with_reducible apply fl_move | with_reducible apply fl_assign | ((with_reducible refine fl_soft (v := ?_) (fun w' hw' => ?_) ?_); rotate_left 1; (focus (obtain ⟨hA, hB, hBw⟩ := hw'; obtain ⟨hcA, hfA⟩ := hA.facts; obtain ⟨hcB, hfB⟩ := hB.facts; go_simp; (try with_reducible rfl); done)))); simp only [Act.put, Act.eval, qs])
      refine fl_must ?_
      go_wp2_with fail
      have PA := HA
      have PB := HB
      have PC := HC
      have PP := HP
      have Pbw := bw
      have ltAO : w.heap.size < w3.heap.size := by (have := HA.lt; (try simp only [World.size_alloc, World.size_setCell, World.size_drew] at this); omega)
      have ltBO : (w.heap.size + 1) < w3.heap.size := by (have := HB.lt; (try simp only [World.size_alloc, World.size_setCell, World.size_drew] at this); omega)
      have ltCO : (w.heap.size + 2) < w3.heap.size := by (have := HC.lt; (try simp only [World.size_alloc, World.size_setCell, World.size_drew] at this); omega)
      have ltPO : w1.heap.size < w3.heap.size := by (have := HP.lt; (try simp only [World.size_alloc, World.size_setCell, World.size_drew] at this); omega)
      replace HA : Hd (w3.alloc (.cells #[.int .i64 0, .int .i64 0, .int .i64 0, .int .i64 0] 25)) w.heap.size 25 #[.int .i64 x.re.lo, .int .i64 x.re.hi, .int .i64 x.im.lo, .int .i64 x.im.hi] := hdx
      replace HB : Hd (w3.alloc (.cells #[.int .i64 0, .int .i64 0, .int .i64 0, .int .i64 0] 25)) (w.heap.size + 1) 25 #[.int .i64 y.re.lo, .int .i64 y.re.hi, .int .i64 y.im.lo, .int .i64 y.im.hi] := hdx
      replace HC : Hd (w3.alloc (.cells #[.int .i64 0, .int .i64 0, .int .i64 0, .int .i64 0] 25)) (w.heap.size + 2) 25 #[.int .i64 0, .int .i64 0, .int .i64 0, .int .i64 0] := hdx
      replace HP : Hd (w3.alloc (.cells #[.int .i64 0, .int .i64 0, .int .i64 0, .int .i64 0] 25)) w1.heap.size 23 #[.int .i64 s1.lo, .int .i64 s1.hi] := hdx
      replace bw : Below w.heap.size w (w3.alloc (.cells #[.int .i64 0, .int .i64 0, .int .i64 0, .int .i64 0] 25)) := by go_grown
      have HO : Hd (w3.alloc (.cells #[.int .i64 0, .int .i64 0, .int .i64 0, .int .i64 0] 25)) w3.heap.size 25 #[.int .i64 0, .int .i64 0, .int .i64 0, .int .i64 0] := hdx
      refine ⟨⟨HA, HB, bw⟩, ?_⟩
      repeat ((first | with_reducible apply fl_move | with_reducible apply fl_assign | ((with_reducible refine fl_soft (v := ?_) (fun w' hw' => ?_) ?_); rotate_left 1; (focus (obtain ⟨hA, hB, hBw⟩ := hw'; obtain ⟨hcA, hfA⟩ := hA.facts; obtain ⟨hcB, hfB⟩ := hB.facts; go_simp; (try with_reducible rfl); done)))); simp only [Act.put, Act.eval, qs])
      repeat ((first | with_reducible apply fl_move | with_reducible apply fl_assign | ((with_reducible refine fl_soft (v := ?_) (fun w' hw' => ?_) ?_); rotate_left 1; (focus (obtain ⟨hA, hB, hBw⟩ := hw'; obtain ⟨hcA, hfA⟩ := hA.facts; obtain ⟨hcB, hfB⟩ := hB.facts; go_simp; (try with_reducible rfl); done)))); simp only [Act.put, Act.eval, qs])
      refine fl_hard ?_
      obtain ⟨hcO, hfO⟩ := HO.facts
      go_wp2_with fail
      replace HA : Hd (w3.alloc (.cells #[.int .i64 s3.re.lo, .int .i64 s3.re.hi, .int .i64 s3.im.lo, .int .i64 s3.im.hi] 25)) w.heap.size 25 #[.int .i64 x.re.lo, .int .i64 x.re.hi, .int .i64 x.im.lo, .int .i64 x.im.hi] := hdx
      replace HB : Hd (w3.alloc (.cells #[.int .i64 s3.re.lo, .int .i64 s3.re.hi, .int .i64 s3.im.lo, .int .i64 s3.im.hi] 25)) (w.heap.size + 1) 25 #[.int .i64 y.re.lo, .int .i64 y.re.hi, .int .i64 y.im.lo, .int .i64 y.im.hi] := hdx
      replace HC : Hd (w3.alloc (.cells #[.int .i64 s3.re.lo, .int .i64 s3.re.hi, .int .i64 s3.im.lo, .int .i64 s3.im.hi] 25)) (w.heap.size + 2) 25 #[.int .i64 0, .int .i64 0, .int .i64 0, .int .i64 0] := hdx
      replace HP : Hd (w3.alloc (.cells #[.int .i64 s3.re.lo, .int .i64 s3.re.hi, .int .i64 s3.im.lo, .int .i64 s3.im.hi] 25)) w1.heap.size 23 #[.int .i64 s1.lo, .int .i64 s1.hi] := hdx
      replace HO : Hd (w3.alloc (.cells #[.int .i64 s3.re.lo, .int .i64 s3.re.hi, .int .i64 s3.im.lo, .int .i64 s3.im.hi] 25)) w3.heap.size 25 #[.int .i64 s3.re.lo, .int .i64 s3.re.hi, .int .i64 s3.im.lo, .int .i64 s3.im.hi] := hdx
      replace bw : Below w.heap.size w (w3.alloc (.cells #[.int .i64 s3.re.lo, .int .i64 s3.re.hi, .int .i64 s3.im.lo, .int .i64 s3.im.hi] 25)) := by go_grown
      refine ⟨⟨HA, HB, bw⟩, ?_⟩
      repeat ((first | with_reducible apply fl_move | with_reducible apply fl_assign | ((with_reducible refine fl_soft (v := ?_) (fun w' hw' => ?_) ?_); rotate_left 1; (focus (obtain ⟨hA, hB, hBw⟩ := hw'; obtain ⟨hcA, hfA⟩ := hA.facts; obtain ⟨hcB, hfB⟩ := hB.facts; go_simp; (try with_reducible rfl); done)))); simp only [Act.put, Act.eval, qs])
      refine fl_nil ?_
      generalize hW : w3.alloc (.cells #[.int .i64 s3.re.lo, .int .i64 s3.re.hi, .int .i64 s3.im.lo, .int .i64 s3.im.hi] 25) = w4 at HA HB HC HP HO bw ⊢
      clear hW
      have lw4 : w.heap.size ≤ w4.heap.size := bw.size
      have hzo := En.Rc.fit_of_ok (En.times_ok hs3)
      go_wp2_with fail
      replace HA : Hd (w4.drew) w.heap.size 25 #[.int .i64 x.re.lo, .int .i64 x.re.hi, .int .i64 x.im.lo, .int .i64 x.im.hi] := hdx
      replace HB : Hd (w4.drew) (w.heap.size + 1) 25 #[.int .i64 y.re.lo, .int .i64 y.re.hi, .int .i64 y.im.lo, .int .i64 y.im.hi] := hdx
      replace HC : Hd (w4.drew) (w.heap.size + 2) 25 #[.int .i64 0, .int .i64 0, .int .i64 0, .int .i64 0] := hdx
      replace HP : Hd (w4.drew) w1.heap.size 23 #[.int .i64 s1.lo, .int .i64 s1.hi] := hdx
      replace HO : Hd (w4.drew) w3.heap.size 25 #[.int .i64 s3.re.lo, .int .i64 s3.re.hi, .int .i64 s3.im.lo, .int .i64 s3.im.hi] := hdx
      replace bw : Below w.heap.size w (w4.drew) := by go_grown
      (refine wp_region_eag (fun w' => Hd w' w3.heap.size 25 #[.int .i64 s3.re.lo, .int .i64 s3.re.hi, .int .i64 s3.im.lo, .int .i64 s3.im.hi] ∧ Hd w' w1.heap.size 23 #[.int .i64 s1.lo, .int .i64 s1.hi] ∧ Below w.heap.size w w') [(0, true), (1, true), (2, true), (4, true), (5, true), (6, true), (3, false), (7, false), (8, true), (9, false)] (by kernel_rfl) (by kernel_rfl) (fun c d v a w h => by cases d <;> exact h) ⟨HO, HP, bw⟩ ?_; simp only [List.map_cons, List.map_nil, List.getD_cons_zero, List.getD_cons_succ, flMark, Nat.reduceEqDiff, ↓reduceIte])
      repeat ((first | with_reducible apply eag_move | with_reducible apply eag_assign | ((with_reducible refine eag_soft (v := ?_) (fun w' hw' => ?_) ?_); rotate_left 1; (focus (obtain ⟨hO, hP, hBw⟩ := hw'; obtain ⟨hcO, hfO⟩ := hO.facts; obtain ⟨hcP, hfP⟩ := hP.facts; go_simp; (try with_reducible rfl); done)))); simp only [Act.put, Act.eval, qs])
      refine eag_hard ?_
      go_wp2_with fail
      refine (div_any s3.re s1 hzo.re hp1 _).mono ?_
      intro e w5 hp
      obtain ⟨hb5, hcase⟩ := hp.cases
      clear hp
      replace bw : Below w.heap.size w w5 := below_next bw hb5
      replace HA := HA.call hb5
      replace HB := HB.call hb5
      replace HC := HC.call hb5
      replace HP := HP.call hb5
      replace HO := HO.call hb5
      have lw5 : w.heap.size ≤ w5.heap.size := bw.size
      clear hb5
      rcases hcase with ⟨s5, hs5, rfl⟩ | ⟨c5, hs5, rfl⟩
      rotate_left
      · exact ⟨rfl, post_err (by simp only [En.quotient, ebind_ok, ebind_err, epure, hs1, if_neg (Int.not_le.mpr hzh.out), hs3, hs5]) bw⟩
      go_wp2_with fail
      refine ⟨⟨HO, HP, bw⟩, ?_⟩
      repeat ((first | with_reducible apply eag_move | with_reducible apply eag_assign | ((with_reducible refine eag_soft (v := ?_) (fun w' hw' => ?_) ?_); rotate_left 1; (focus (obtain ⟨hO, hP, hBw⟩ := hw'; obtain ⟨hcO, hfO⟩ := hO.facts; obtain ⟨hcP, hfP⟩ := hP.facts; go_simp; (try with_reducible rfl); done)))); simp only [Act.put, Act.eval, qs])
      refine eag_hard ?_
      go_wp2_with fail
      refine (div_any s3.im s1 hzo.im hp1 _).mono ?_
      intro e w6 hp
      obtain ⟨hb6, hcase⟩ := hp.cases
      clear hp
      replace bw : Below w.heap.size w w6 := below_next bw hb6
      replace HA := HA.call hb6
      replace HB := HB.call hb6
      replace HC := HC.call hb6
      replace HP := HP.call hb6
      replace HO := HO.call hb6
      have lw6 : w.heap.size ≤ w6.heap.size := bw.size
      clear hb6
      rcases hcase with ⟨s6, hs6, rfl⟩ | ⟨c6, hs6, rfl⟩
      rotate_left
      · exact ⟨rfl, post_err (by simp only [En.quotient, ebind_ok, ebind_err, epure, hs1, if_neg (Int.not_le.mpr hzh.out), hs3, hs5, hs6]) bw⟩
      go_wp2_with fail
      refine ⟨⟨HO, HP, bw⟩, ?_⟩
      repeat ((first | with_reducible apply eag_move | with_reducible apply eag_assign | ((with_reducible refine eag_soft (v := ?_) (fun w' hw' => ?_) ?_); rotate_left 1; (focus (obtain ⟨hO, hP, hBw⟩ := hw'; obtain ⟨hcO, hfO⟩ := hO.facts; obtain ⟨hcP, hfP⟩ := hP.facts; go_simp; (try with_reducible rfl); done)))); simp only [Act.put, Act.eval, qs])
      obtain ⟨hcC, hfC⟩ := HC.facts
      refine eag_hard ?_
      go_wp2_with fail
      refine ⟨⟨by exact hdx, by exact hdx, by go_grown⟩, ?_⟩
      refine eag_nil ?_
      go_wp2
      refine bodyPost_ret (run_results1 rfl rfl (by (show Hd _ (w.heap.size + 2) 25 #[.int .i64 s5.lo, .int .i64 s5.hi, .int .i64 s6.lo, .int .i64 s6.hi]); exact hdx) Try.underlying25 rfl (by kernel_rfl)) rfl (post_ok (s := ⟨s5, s6⟩) (by simp only [En.quotient, ebind_ok, ebind_err, epure, hs1, if_neg (Int.not_le.mpr hzh.out), hs3, hs5, hs6]) (by go_grown))
    · go_wp2_with fail
      have PA := HA
      have PB := HB
      have PC := HC
      have PP := HP
      have Pbw := bw
      have ltAO : w.heap.size < w2.heap.size := by (have := HA.lt; (try simp only [World.size_alloc, World.size_setCell, World.size_drew] at this); omega)
      have ltBO : (w.heap.size + 1) < w2.heap.size := by (have := HB.lt; (try simp only [World.size_alloc, World.size_setCell, World.size_drew] at this); omega)
      have ltCO : (w.heap.size + 2) < w2.heap.size := by (have := HC.lt; (try simp only [World.size_alloc, World.size_setCell, World.size_drew] at this); omega)
      have ltPO : w1.heap.size < w2.heap.size := by (have := HP.lt; (try simp only [World.size_alloc, World.size_setCell, World.size_drew] at this); omega)
      replace HA : Hd (w2.alloc (.cells #[.int .i64 0, .int .i64 0, .int .i64 0, .int .i64 0] 25)) w.heap.size 25 #[.int .i64 x.re.lo, .int .i64 x.re.hi, .int .i64 x.im.lo, .int .i64 x.im.hi] := hdx
      replace HB : Hd (w2.alloc (.cells #[.int .i64 0, .int .i64 0, .int .i64 0, .int .i64 0] 25)) (w.heap.size + 1) 25 #[.int .i64 y.re.lo, .int .i64 y.re.hi, .int .i64 y.im.lo, .int .i64 y.im.hi] := hdx
      replace HC : Hd (w2.alloc (.cells #[.int .i64 0, .int .i64 0, .int .i64 0, .int .i64 0] 25)) (w.heap.size + 2) 25 #[.int .i64 0, .int .i64 0, .int .i64 0, .int .i64 0] := hdx
      replace HP : Hd (w2.alloc (.cells #[.int .i64 0, .int .i64 0, .int .i64 0, .int .i64 0] 25)) w1.heap.size 23 #[.int .i64 s1.lo, .int .i64 s1.hi] := hdx
      replace bw : Below w.heap.size w (w2.alloc (.cells #[.int .i64 0, .int .i64 0, .int .i64 0, .int .i64 0] 25)) := by go_grown
      have HO : Hd (w2.alloc (.cells #[.int .i64 0, .int .i64 0, .int .i64 0, .int .i64 0] 25)) w2.heap.size 25 #[.int .i64 0, .int .i64 0, .int .i64 0, .int .i64 0] := hdx
      refine ⟨⟨HA, HB, bw⟩, ?_⟩
      repeat ((first | with_reducible apply eag_move | with_reducible apply eag_assign | ((with_reducible refine eag_soft (v := ?_) (fun w' hw' => ?_) ?_); rotate_left 1; (focus (obtain ⟨hA, hB, hBw⟩ := hw'; obtain ⟨hcA, hfA⟩ := hA.facts; obtain ⟨hcB, hfB⟩ := hB.facts; go_simp; (try with_reducible rfl); done)))); simp only [Act.put, Act.eval, qs])
      repeat ((first | with_reducible apply eag_move | with_reducible apply eag_assign | ((with_reducible refine eag_soft (v := ?_) (fun w' hw' => ?_) ?_); rotate_left 1; (focus (obtain ⟨hA, hB, hBw⟩ := hw'; obtain ⟨hcA, hfA⟩ := hA.facts; obtain ⟨hcB, hfB⟩ := hB.facts; go_simp; (try with_reducible rfl); done)))); simp only [Act.put, Act.eval, qs])
      refine eag_hard ?_
      go_wp2_with fail
      refine (times_any x (En.conj y) hx (En.conj_fit hy) _).mono ?_
      intro e w3 hp
      obtain ⟨hb3, hcase⟩ := hp.cases
      clear hp
      replace bw : Below w.heap.size w w3 := below_next bw hb3
      replace HA := HA.call hb3
      replace HB := HB.call hb3
      replace HC := HC.call hb3
      replace HP := HP.call hb3
      replace HO := HO.call hb3
      have lw3 : w.heap.size ≤ w3.heap.size := bw.size
      clear hb3
      rcases hcase with ⟨s3, hs3, rfl⟩ | ⟨c3, hs3, rfl⟩
      rotate_left
      · exact ⟨rfl, post_err (by simp only [En.quotient, ebind_ok, ebind_err, epure, hs1, if_neg (Int.not_le.mpr hzh.out), hs3]) bw⟩
      go_wp2_with fail
      refine ⟨⟨HA, HB, bw⟩, ?_⟩
      repeat ((first | with_reducible apply eag_move | with_reducible apply eag_assign | ((with_reducible refine eag_soft (v := ?_) (fun w' hw' => ?_) ?_); rotate_left 1; (focus (obtain ⟨hA, hB, hBw⟩ := hw'; obtain ⟨hcA, hfA⟩ := hA.facts; obtain ⟨hcB, hfB⟩ := hB.facts; go_simp; (try with_reducible rfl); done)))); simp only [Act.put, Act.eval, qs])
      refine eag_hard ?_
      obtain ⟨hcO, hfO⟩ := HO.facts
      go_wp2_with fail
      replace HA : Hd ((((w3.setCell ⟨w2.heap.size, 0, none⟩ (.int .i64 s3.re.lo)).setCell ⟨w2.heap.size, 1, none⟩ (.int .i64 s3.re.hi)).setCell ⟨w2.heap.size, 2, none⟩ (.int .i64 s3.im.lo)).setCell ⟨w2.heap.size, 3, none⟩ (.int .i64 s3.im.hi)) w.heap.size 25 #[.int .i64 x.re.lo, .int .i64 x.re.hi, .int .i64 x.im.lo, .int .i64 x.im.hi] := hdx
      replace HB : Hd ((((w3.setCell ⟨w2.heap.size, 0, none⟩ (.int .i64 s3.re.lo)).setCell ⟨w2.heap.size, 1, none⟩ (.int .i64 s3.re.hi)).setCell ⟨w2.heap.size, 2, none⟩ (.int .i64 s3.im.lo)).setCell ⟨w2.heap.size, 3, none⟩ (.int .i64 s3.im.hi)) (w.heap.size + 1) 25 #[.int .i64 y.re.lo, .int .i64 y.re.hi, .int .i64 y.im.lo, .int .i64 y.im.hi] := hdx
      replace HC : Hd ((((w3.setCell ⟨w2.heap.size, 0, none⟩ (.int .i64 s3.re.lo)).setCell ⟨w2.heap.size, 1, none⟩ (.int .i64 s3.re.hi)).setCell ⟨w2.heap.size, 2, none⟩ (.int .i64 s3.im.lo)).setCell ⟨w2.heap.size, 3, none⟩ (.int .i64 s3.im.hi)) (w.heap.size + 2) 25 #[.int .i64 0, .int .i64 0, .int .i64 0, .int .i64 0] := hdx
      replace HP : Hd ((((w3.setCell ⟨w2.heap.size, 0, none⟩ (.int .i64 s3.re.lo)).setCell ⟨w2.heap.size, 1, none⟩ (.int .i64 s3.re.hi)).setCell ⟨w2.heap.size, 2, none⟩ (.int .i64 s3.im.lo)).setCell ⟨w2.heap.size, 3, none⟩ (.int .i64 s3.im.hi)) w1.heap.size 23 #[.int .i64 s1.lo, .int .i64 s1.hi] := hdx
      replace HO : Hd ((((w3.setCell ⟨w2.heap.size, 0, none⟩ (.int .i64 s3.re.lo)).setCell ⟨w2.heap.size, 1, none⟩ (.int .i64 s3.re.hi)).setCell ⟨w2.heap.size, 2, none⟩ (.int .i64 s3.im.lo)).setCell ⟨w2.heap.size, 3, none⟩ (.int .i64 s3.im.hi)) w2.heap.size 25 #[.int .i64 s3.re.lo, .int .i64 s3.re.hi, .int .i64 s3.im.lo, .int .i64 s3.im.hi] := hdx
      replace bw : Below w.heap.size w ((((w3.setCell ⟨w2.heap.size, 0, none⟩ (.int .i64 s3.re.lo)).setCell ⟨w2.heap.size, 1, none⟩ (.int .i64 s3.re.hi)).setCell ⟨w2.heap.size, 2, none⟩ (.int .i64 s3.im.lo)).setCell ⟨w2.heap.size, 3, none⟩ (.int .i64 s3.im.hi)) := by go_grown
      refine ⟨⟨HA, HB, bw⟩, ?_⟩
      repeat ((first | with_reducible apply eag_move | with_reducible apply eag_assign | ((with_reducible refine eag_soft (v := ?_) (fun w' hw' => ?_) ?_); rotate_left 1; (focus (obtain ⟨hA, hB, hBw⟩ := hw'; obtain ⟨hcA, hfA⟩ := hA.facts; obtain ⟨hcB, hfB⟩ := hB.facts; go_simp; (try with_reducible rfl); done)))); simp only [Act.put, Act.eval, qs])
      refine eag_nil ?_
      generalize hW : (((w3.setCell ⟨w2.heap.size, 0, none⟩ (.int .i64 s3.re.lo)).setCell ⟨w2.heap.size, 1, none⟩ (.int .i64 s3.re.hi)).setCell ⟨w2.heap.size, 2, none⟩ (.int .i64 s3.im.lo)).setCell ⟨w2.heap.size, 3, none⟩ (.int .i64 s3.im.hi) = w4 at HA HB HC HP HO bw ⊢
      clear hW
      have lw4 : w.heap.size ≤ w4.heap.size := bw.size
      have hzo := En.Rc.fit_of_ok (En.times_ok hs3)
      go_wp2_with fail
      replace HA : Hd (w4.drew) w.heap.size 25 #[.int .i64 x.re.lo, .int .i64 x.re.hi, .int .i64 x.im.lo, .int .i64 x.im.hi] := hdx
      replace HB : Hd (w4.drew) (w.heap.size + 1) 25 #[.int .i64 y.re.lo, .int .i64 y.re.hi, .int .i64 y.im.lo, .int .i64 y.im.hi] := hdx
      replace HC : Hd (w4.drew) (w.heap.size + 2) 25 #[.int .i64 0, .int .i64 0, .int .i64 0, .int .i64 0] := hdx
      replace HP : Hd (w4.drew) w1.heap.size 23 #[.int .i64 s1.lo, .int .i64 s1.hi] := hdx
      replace HO : Hd (w4.drew) w2.heap.size 25 #[.int .i64 s3.re.lo, .int .i64 s3.re.hi, .int .i64 s3.im.lo, .int .i64 s3.im.hi] := hdx
      replace bw : Below w.heap.size w (w4.drew) := by go_grown
      (refine wp_region_eag (fun w' => Hd w' w2.heap.size 25 #[.int .i64 s3.re.lo, .int .i64 s3.re.hi, .int .i64 s3.im.lo, .int .i64 s3.im.hi] ∧ Hd w' w1.heap.size 23 #[.int .i64 s1.lo, .int .i64 s1.hi] ∧ Below w.heap.size w w') [(0, true), (1, true), (2, true), (4, true), (5, true), (6, true), (3, false), (7, false), (8, true), (9, false)] (by kernel_rfl) (by kernel_rfl) (fun c d v a w h => by cases d <;> exact h) ⟨HO, HP, bw⟩ ?_; simp only [List.map_cons, List.map_nil, List.getD_cons_zero, List.getD_cons_succ, flMark, Nat.reduceEqDiff, ↓reduceIte])
      repeat ((first | with_reducible apply eag_move | with_reducible apply eag_assign | ((with_reducible refine eag_soft (v := ?_) (fun w' hw' => ?_) ?_); rotate_left 1; (focus (obtain ⟨hO, hP, hBw⟩ := hw'; obtain ⟨hcO, hfO⟩ := hO.facts; obtain ⟨hcP, hfP⟩ := hP.facts; go_simp; (try with_reducible rfl); done)))); simp only [Act.put, Act.eval, qs])
      refine eag_hard ?_
      go_wp2_with fail
      refine (div_any s3.re s1 hzo.re hp1 _).mono ?_
      intro e w5 hp
      obtain ⟨hb5, hcase⟩ := hp.cases
      clear hp
      replace bw : Below w.heap.size w w5 := below_next bw hb5
      replace HA := HA.call hb5
      replace HB := HB.call hb5
      replace HC := HC.call hb5
      replace HP := HP.call hb5
      replace HO := HO.call hb5
      have lw5 : w.heap.size ≤ w5.heap.size := bw.size
      clear hb5
      rcases hcase with ⟨s5, hs5, rfl⟩ | ⟨c5, hs5, rfl⟩
      rotate_left
      · exact ⟨rfl, post_err (by simp only [En.quotient, ebind_ok, ebind_err, epure, hs1, if_neg (Int.not_le.mpr hzh.out), hs3, hs5]) bw⟩
      go_wp2_with fail
      refine ⟨⟨HO, HP, bw⟩, ?_⟩
      repeat ((first | with_reducible apply eag_move | with_reducible apply eag_assign | ((with_reducible refine eag_soft (v := ?_) (fun w' hw' => ?_) ?_); rotate_left 1; (focus (obtain ⟨hO, hP, hBw⟩ := hw'; obtain ⟨hcO, hfO⟩ := hO.facts; obtain ⟨hcP, hfP⟩ := hP.facts; go_simp; (try with_reducible rfl); done)))); simp only [Act.put, Act.eval, qs])
      refine eag_hard ?_
      go_wp2_with fail
      refine (div_any s3.im s1 hzo.im hp1 _).mono ?_
      intro e w6 hp
      obtain ⟨hb6, hcase⟩ := hp.cases
      clear hp
      replace bw : Below w.heap.size w w6 := below_next bw hb6
      replace HA := HA.call hb6
      replace HB := HB.call hb6
      replace HC := HC.call hb6
      replace HP := HP.call hb6
      replace HO := HO.call hb6
      have lw6 : w.heap.size ≤ w6.heap.size := bw.size
      clear hb6
      rcases hcase with ⟨s6, hs6, rfl⟩ | ⟨c6, hs6, rfl⟩
      rotate_left
      · exact ⟨rfl, post_err (by simp only [En.quotient, ebind_ok, ebind_err, epure, hs1, if_neg (Int.not_le.mpr hzh.out), hs3, hs5, hs6]) bw⟩
      go_wp2_with fail
      refine ⟨⟨HO, HP, bw⟩, ?_⟩
      repeat ((first | with_reducible apply eag_move | with_reducible apply eag_assign | ((with_reducible refine eag_soft (v := ?_) (fun w' hw' => ?_) ?_); rotate_left 1; (focus (obtain ⟨hO, hP, hBw⟩ := hw'; obtain ⟨hcO, hfO⟩ := hO.facts; obtain ⟨hcP, hfP⟩ := hP.facts; go_simp; (try with_reducible rfl); done)))); simp only [Act.put, Act.eval, qs])
      obtain ⟨hcC, hfC⟩ := HC.facts
      refine eag_hard ?_
      go_wp2_with fail
      refine ⟨⟨by exact hdx, by exact hdx, by go_grown⟩, ?_⟩
      refine eag_nil ?_
      go_wp2
      refine bodyPost_ret (run_results1 rfl rfl (by (show Hd _ (w.heap.size + 2) 25 #[.int .i64 s5.lo, .int .i64 s5.hi, .int .i64 s6.lo, .int .i64 s6.hi]); exact hdx) Try.underlying25 rfl (by kernel_rfl)) rfl (post_ok (s := ⟨s5, s6⟩) (by simp only [En.quotient, ebind_ok, ebind_err, epure, hs1, if_neg (Int.not_le.mpr hzh.out), hs3, hs5, hs6]) (by go_grown))
  · go_wp2_with fail
    have PA := HA
    have PB := HB
    have PC := HC
    have PP := HP
    have Pbw := bw
    have ltAO : w.heap.size < (w1.heap.size + 1) := by (have := HA.lt; (try simp only [World.size_alloc, World.size_setCell, World.size_drew] at this); omega)
    have ltBO : (w.heap.size + 1) < (w1.heap.size + 1) := by (have := HB.lt; (try simp only [World.size_alloc, World.size_setCell, World.size_drew] at this); omega)
    have ltCO : (w.heap.size + 2) < (w1.heap.size + 1) := by (have := HC.lt; (try simp only [World.size_alloc, World.size_setCell, World.size_drew] at this); omega)
    have ltPO : w1.heap.size < (w1.heap.size + 1) := by (have := HP.lt; (try simp only [World.size_alloc, World.size_setCell, World.size_drew] at this); omega)
    replace HA : Hd (((w1.alloc (.cells #[.int .i64 s1.lo, .int .i64 s1.hi] 23)).drew).alloc (.cells #[.int .i64 0, .int .i64 0, .int .i64 0, .int .i64 0] 25)) w.heap.size 25 #[.int .i64 x.re.lo, .int .i64 x.re.hi, .int .i64 x.im.lo, .int .i64 x.im.hi] := hdx
    replace HB : Hd (((w1.alloc (.cells #[.int .i64 s1.lo, .int .i64 s1.hi] 23)).drew).alloc (.cells #[.int .i64 0, .int .i64 0, .int .i64 0, .int .i64 0] 25)) (w.heap.size + 1) 25 #[.int .i64 y.re.lo, .int .i64 y.re.hi, .int .i64 y.im.lo, .int .i64 y.im.hi] := hdx
    replace HC : Hd (((w1.alloc (.cells #[.int .i64 s1.lo, .int .i64 s1.hi] 23)).drew).alloc (.cells #[.int .i64 0, .int .i64 0, .int .i64 0, .int .i64 0] 25)) (w.heap.size + 2) 25 #[.int .i64 0, .int .i64 0, .int .i64 0, .int .i64 0] := hdx
    replace HP : Hd (((w1.alloc (.cells #[.int .i64 s1.lo, .int .i64 s1.hi] 23)).drew).alloc (.cells #[.int .i64 0, .int .i64 0, .int .i64 0, .int .i64 0] 25)) w1.heap.size 23 #[.int .i64 s1.lo, .int .i64 s1.hi] := hdx
    replace bw : Below w.heap.size w (((w1.alloc (.cells #[.int .i64 s1.lo, .int .i64 s1.hi] 23)).drew).alloc (.cells #[.int .i64 0, .int .i64 0, .int .i64 0, .int .i64 0] 25)) := by go_grown
    have HO : Hd (((w1.alloc (.cells #[.int .i64 s1.lo, .int .i64 s1.hi] 23)).drew).alloc (.cells #[.int .i64 0, .int .i64 0, .int .i64 0, .int .i64 0] 25)) (w1.heap.size + 1) 25 #[.int .i64 0, .int .i64 0, .int .i64 0, .int .i64 0] := hdx
    refine ⟨⟨HA, HB, bw⟩, ?_⟩
    repeat ((first | with_reducible apply eag_move | with_reducible apply eag_assign | ((with_reducible refine eag_soft (v := ?_) (fun w' hw' => ?_) ?_); rotate_left 1; (focus (obtain ⟨hA, hB, hBw⟩ := hw'; obtain ⟨hcA, hfA⟩ := hA.facts; obtain ⟨hcB, hfB⟩ := hB.facts; go_simp; (try with_reducible rfl); done)))); simp only [Act.put, Act.eval, qs])
    repeat ((first | with_reducible apply eag_move | with_reducible apply eag_assign | ((with_reducible refine eag_soft (v := ?_) (fun w' hw' => ?_) ?_); rotate_left 1; (focus (obtain ⟨hA, hB, hBw⟩ := hw'; obtain ⟨hcA, hfA⟩ := hA.facts; obtain ⟨hcB, hfB⟩ := hB.facts; go_simp; (try with_reducible rfl); done)))); simp only [Act.put, Act.eval, qs])
    refine eag_hard ?_
    go_wp2_with fail
    refine (conj_any y hy _).mono ?_
    rintro e w2 ⟨rfl, hb2⟩
    replace bw : Below w.heap.size w w2 := below_next bw hb2
    replace HA := HA.call hb2
    replace HB := HB.call hb2
    replace HC := HC.call hb2
    replace HP := HP.call hb2
    replace HO := HO.call hb2
    have lw2 : w.heap.size ≤ w2.heap.size := bw.size
    clear hb2
    go_wp2_with fail
    refine ⟨⟨HA, HB, bw⟩, ?_⟩
    repeat ((first | with_reducible apply eag_move | with_reducible apply eag_assign | ((with_reducible refine eag_soft (v := ?_) (fun w' hw' => ?_) ?_); rotate_left 1; (focus (obtain ⟨hA, hB, hBw⟩ := hw'; obtain ⟨hcA, hfA⟩ := hA.facts; obtain ⟨hcB, hfB⟩ := hB.facts; go_simp; (try with_reducible rfl); done)))); simp only [Act.put, Act.eval, qs])
    refine eag_hard ?_
    go_wp2_with fail
    refine (times_any x (En.conj y) hx (En.conj_fit hy) _).mono ?_
    intro e w3 hp
    obtain ⟨hb3, hcase⟩ := hp.cases
    clear hp
    replace bw : Below w.heap.size w w3 := below_next bw hb3
    replace HA := HA.call hb3
    replace HB := HB.call hb3
    replace HC := HC.call hb3
    replace HP := HP.call hb3
    replace HO := HO.call hb3
    have lw3 : w.heap.size ≤ w3.heap.size := bw.size
    clear hb3
    rcases hcase with ⟨s3, hs3, rfl⟩ | ⟨c3, hs3, rfl⟩
    rotate_left
    · exact ⟨rfl, post_err (by simp only [En.quotient, ebind_ok, ebind_err, epure, hs1, if_neg (Int.not_le.mpr hzh.out), hs3]) bw⟩
    go_wp2_with fail
    refine ⟨⟨HA, HB, bw⟩, ?_⟩
    repeat ((first | with_reducible apply eag_move | with_reducible apply eag_assign | ((with_reducible refine eag_soft (v := ?_) (fun w' hw' => ?_) ?_); rotate_left 1; (focus (obtain ⟨hA, hB, hBw⟩ := hw'; obtain ⟨hcA, hfA⟩ := hA.facts; obtain ⟨hcB, hfB⟩ := hB.facts; go_simp; (try with_reducible rfl); done)))); simp only [Act.put, Act.eval, qs])
    refine eag_hard ?_
    obtain ⟨hcO, hfO⟩ := HO.facts
    go_wp2_with fail
    replace HA : Hd ((((w3.setCell ⟨(w1.heap.size + 1), 0, none⟩ (.int .i64 s3.re.lo)).setCell ⟨(w1.heap.size + 1), 1, none⟩ (.int .i64 s3.re.hi)).setCell ⟨(w1.heap.size + 1), 2, none⟩ (.int .i64 s3.im.lo)).setCell ⟨(w1.heap.size + 1), 3, none⟩ (.int .i64 s3.im.hi)) w.heap.size 25 #[.int .i64 x.re.lo, .int .i64 x.re.hi, .int .i64 x.im.lo, .int .i64 x.im.hi] := hdx
    replace HB : Hd ((((w3.setCell ⟨(w1.heap.size + 1), 0, none⟩ (.int .i64 s3.re.lo)).setCell ⟨(w1.heap.size + 1), 1, none⟩ (.int .i64 s3.re.hi)).setCell ⟨(w1.heap.size + 1), 2, none⟩ (.int .i64 s3.im.lo)).setCell ⟨(w1.heap.size + 1), 3, none⟩ (.int .i64 s3.im.hi)) (w.heap.size + 1) 25 #[.int .i64 y.re.lo, .int .i64 y.re.hi, .int .i64 y.im.lo, .int .i64 y.im.hi] := hdx
    replace HC : Hd ((((w3.setCell ⟨(w1.heap.size + 1), 0, none⟩ (.int .i64 s3.re.lo)).setCell ⟨(w1.heap.size + 1), 1, none⟩ (.int .i64 s3.re.hi)).setCell ⟨(w1.heap.size + 1), 2, none⟩ (.int .i64 s3.im.lo)).setCell ⟨(w1.heap.size + 1), 3, none⟩ (.int .i64 s3.im.hi)) (w.heap.size + 2) 25 #[.int .i64 0, .int .i64 0, .int .i64 0, .int .i64 0] := hdx
    replace HP : Hd ((((w3.setCell ⟨(w1.heap.size + 1), 0, none⟩ (.int .i64 s3.re.lo)).setCell ⟨(w1.heap.size + 1), 1, none⟩ (.int .i64 s3.re.hi)).setCell ⟨(w1.heap.size + 1), 2, none⟩ (.int .i64 s3.im.lo)).setCell ⟨(w1.heap.size + 1), 3, none⟩ (.int .i64 s3.im.hi)) w1.heap.size 23 #[.int .i64 s1.lo, .int .i64 s1.hi] := hdx
    replace HO : Hd ((((w3.setCell ⟨(w1.heap.size + 1), 0, none⟩ (.int .i64 s3.re.lo)).setCell ⟨(w1.heap.size + 1), 1, none⟩ (.int .i64 s3.re.hi)).setCell ⟨(w1.heap.size + 1), 2, none⟩ (.int .i64 s3.im.lo)).setCell ⟨(w1.heap.size + 1), 3, none⟩ (.int .i64 s3.im.hi)) (w1.heap.size + 1) 25 #[.int .i64 s3.re.lo, .int .i64 s3.re.hi, .int .i64 s3.im.lo, .int .i64 s3.im.hi] := hdx
    replace bw : Below w.heap.size w ((((w3.setCell ⟨(w1.heap.size + 1), 0, none⟩ (.int .i64 s3.re.lo)).setCell ⟨(w1.heap.size + 1), 1, none⟩ (.int .i64 s3.re.hi)).setCell ⟨(w1.heap.size + 1), 2, none⟩ (.int .i64 s3.im.lo)).setCell ⟨(w1.heap.size + 1), 3, none⟩ (.int .i64 s3.im.hi)) := by go_grown
    refine ⟨⟨HA, HB, bw⟩, ?_⟩
    repeat ((first | with_reducible apply eag_move | with_reducible apply eag_assign | ((with_reducible refine eag_soft (v := ?_) (fun w' hw' => ?_) ?_); rotate_left 1; (focus (obtain ⟨hA, hB, hBw⟩ := hw'; obtain ⟨hcA, hfA⟩ := hA.facts; obtain ⟨hcB, hfB⟩ := hB.facts; go_simp; (try with_reducible rfl); done)))); simp only [Act.put, Act.eval, qs])
    refine eag_nil ?_
    generalize hW : (((w3.setCell ⟨(w1.heap.size + 1), 0, none⟩ (.int .i64 s3.re.lo)).setCell ⟨(w1.heap.size + 1), 1, none⟩ (.int .i64 s3.re.hi)).setCell ⟨(w1.heap.size + 1), 2, none⟩ (.int .i64 s3.im.lo)).setCell ⟨(w1.heap.size + 1), 3, none⟩ (.int .i64 s3.im.hi) = w4 at HA HB HC HP HO bw ⊢
    clear hW
    have lw4 : w.heap.size ≤ w4.heap.size := bw.size
    have hzo := En.Rc.fit_of_ok (En.times_ok hs3)
    go_wp2_with fail
    replace HA : Hd (w4.drew) w.heap.size 25 #[.int .i64 x.re.lo, .int .i64 x.re.hi, .int .i64 x.im.lo, .int .i64 x.im.hi] := hdx
    replace HB : Hd (w4.drew) (w.heap.size + 1) 25 #[.int .i64 y.re.lo, .int .i64 y.re.hi, .int .i64 y.im.lo, .int .i64 y.im.hi] := hdx
    replace HC : Hd (w4.drew) (w.heap.size + 2) 25 #[.int .i64 0, .int .i64 0, .int .i64 0, .int .i64 0] := hdx
    replace HP : Hd (w4.drew) w1.heap.size 23 #[.int .i64 s1.lo, .int .i64 s1.hi] := hdx
    replace HO : Hd (w4.drew) (w1.heap.size + 1) 25 #[.int .i64 s3.re.lo, .int .i64 s3.re.hi, .int .i64 s3.im.lo, .int .i64 s3.im.hi] := hdx
    replace bw : Below w.heap.size w (w4.drew) := by go_grown
    (refine wp_region_eag (fun w' => Hd w' (w1.heap.size + 1) 25 #[.int .i64 s3.re.lo, .int .i64 s3.re.hi, .int .i64 s3.im.lo, .int .i64 s3.im.hi] ∧ Hd w' w1.heap.size 23 #[.int .i64 s1.lo, .int .i64 s1.hi] ∧ Below w.heap.size w w') [(0, true), (1, true), (2, true), (4, true), (5, true), (6, true), (3, false), (7, false), (8, true), (9, false)] (by kernel_rfl) (by kernel_rfl) (fun c d v a w h => by cases d <;> exact h) ⟨HO, HP, bw⟩ ?_; simp only [List.map_cons, List.map_nil, List.getD_cons_zero, List.getD_cons_succ, flMark, Nat.reduceEqDiff, ↓reduceIte])
    repeat ((first | with_reducible apply eag_move | with_reducible apply eag_assign | ((with_reducible refine eag_soft (v := ?_) (fun w' hw' => ?_) ?_); rotate_left 1; (focus (obtain ⟨hO, hP, hBw⟩ := hw'; obtain ⟨hcO, hfO⟩ := hO.facts; obtain ⟨hcP, hfP⟩ := hP.facts; go_simp; (try with_reducible rfl); done)))); simp only [Act.put, Act.eval, qs])
    refine eag_hard ?_
    go_wp2_with fail
    refine (div_any s3.re s1 hzo.re hp1 _).mono ?_
    intro e w5 hp
    obtain ⟨hb5, hcase⟩ := hp.cases
    clear hp
    replace bw : Below w.heap.size w w5 := below_next bw hb5
    replace HA := HA.call hb5
    replace HB := HB.call hb5
    replace HC := HC.call hb5
    replace HP := HP.call hb5
    replace HO := HO.call hb5
    have lw5 : w.heap.size ≤ w5.heap.size := bw.size
    clear hb5
    rcases hcase with ⟨s5, hs5, rfl⟩ | ⟨c5, hs5, rfl⟩
    rotate_left
    · exact ⟨rfl, post_err (by simp only [En.quotient, ebind_ok, ebind_err, epure, hs1, if_neg (Int.not_le.mpr hzh.out), hs3, hs5]) bw⟩
    go_wp2_with fail
    refine ⟨⟨HO, HP, bw⟩, ?_⟩
    repeat ((first | with_reducible apply eag_move | with_reducible apply eag_assign | ((with_reducible refine eag_soft (v := ?_) (fun w' hw' => ?_) ?_); rotate_left 1; (focus (obtain ⟨hO, hP, hBw⟩ := hw'; obtain ⟨hcO, hfO⟩ := hO.facts; obtain ⟨hcP, hfP⟩ := hP.facts; go_simp; (try with_reducible rfl); done)))); simp only [Act.put, Act.eval, qs])
    refine eag_hard ?_
    go_wp2_with fail
    refine (div_any s3.im s1 hzo.im hp1 _).mono ?_
    intro e w6 hp
    obtain ⟨hb6, hcase⟩ := hp.cases
    clear hp
    replace bw : Below w.heap.size w w6 := below_next bw hb6
    replace HA := HA.call hb6
    replace HB := HB.call hb6
    replace HC := HC.call hb6
    replace HP := HP.call hb6
    replace HO := HO.call hb6
    have lw6 : w.heap.size ≤ w6.heap.size := bw.size
    clear hb6
    rcases hcase with ⟨s6, hs6, rfl⟩ | ⟨c6, hs6, rfl⟩
    rotate_left
    · exact ⟨rfl, post_err (by simp only [En.quotient, ebind_ok, ebind_err, epure, hs1, if_neg (Int.not_le.mpr hzh.out), hs3, hs5, hs6]) bw⟩
    go_wp2_with fail
    refine ⟨⟨HO, HP, bw⟩, ?_⟩
    repeat ((first | with_reducible apply eag_move | with_reducible apply eag_assign | ((with_reducible refine eag_soft (v := ?_) (fun w' hw' => ?_) ?_); rotate_left 1; (focus (obtain ⟨hO, hP, hBw⟩ := hw'; obtain ⟨hcO, hfO⟩ := hO.facts; obtain ⟨hcP, hfP⟩ := hP.facts; go_simp; (try with_reducible rfl); done)))); simp only [Act.put, Act.eval, qs])
    obtain ⟨hcC, hfC⟩ := HC.facts
    refine eag_hard ?_
    go_wp2_with fail
    refine ⟨⟨by exact hdx, by exact hdx, by go_grown⟩, ?_⟩
    refine eag_nil ?_
    go_wp2
    refine bodyPost_ret (run_results1 rfl rfl (by (show Hd _ (w.heap.size + 2) 25 #[.int .i64 s5.lo, .int .i64 s5.hi, .int .i64 s6.lo, .int .i64 s6.hi]); exact hdx) Try.underlying25 rfl (by kernel_rfl)) rfl (post_ok (s := ⟨s5, s6⟩) (by simp only [En.quotient, ebind_ok, ebind_err, epure, hs1, if_neg (Int.not_le.mpr hzh.out), hs3, hs5, hs6]) (by go_grown))

end Go.Proofs.Ytpbbbfglecbceaa
