/- Package enclose: squares. -/
import Derived.Test.YtpbbbfglecbceaaEn5
namespace Go.Proofs.Ytpbbbfglecbceaa
set_option linter.all false
open Go.RowKit

set_option maxHeartbeats 4000000 in
theorem square_any (s : En.Sp) (hs : s.fit) (w : World) : Calls Try.prog 123 #[spV s] w (Post spV (En.square s) w) := by
  obtain ⟨a, b⟩ := s
  obtain ⟨a1, a2, b1, b2⟩ := hs
  dsimp only at a1 a2 b1 b2
  go_enter Try.func123, Try.ntmps123
  go_wp2
  have HA : Hd (((w.alloc (.cells #[.int .i64 a, .int .i64 b] 23)).alloc (.cells #[.int .i64 0, .int .i64 0] 23)).drew) w.heap.size 23 #[.int .i64 a, .int .i64 b] := hdx
  have HC : Hd (((w.alloc (.cells #[.int .i64 a, .int .i64 b] 23)).alloc (.cells #[.int .i64 0, .int .i64 0] 23)).drew) (w.heap.size + 1) 23 #[.int .i64 0, .int .i64 0] := hdx
  have bw : Below w.heap.size w (((w.alloc (.cells #[.int .i64 a, .int .i64 b] 23)).alloc (.cells #[.int .i64 0, .int .i64 0] 23)).drew) := by go_grown
  (refine wp_region_fl (fun w' => Hd w' w.heap.size 23 #[.int .i64 a, .int .i64 b] ∧ Below w.heap.size w w') 12 [(0, 0), (1, 0), (2, 0), (3, 0), (5, 0), (6, 0), (7, 0), (8, 0), (4, 2), (9, 2), (10, 2), (11, 2), (12, 1), (13, 1)] (by kernel_rfl) (by kernel_rfl) (fun c d v a w h => by cases d <;> exact h) ⟨HA, bw⟩ ?_; simp only [List.map_cons, List.map_nil, List.getD_cons_zero, List.getD_cons_succ, flMark, Nat.reduceEqDiff, ↓reduceIte])
  repeat ((first | with_reducible apply fl_move | with_reducible apply fl_assign | ((with_reducible refine fl_soft (v := ?_) (fun w' hw' => ?_) ?_); rotate_left 1; (focus (obtain ⟨hA, hBw⟩ := hw'; obtain ⟨hcA, hfA⟩ := hA.facts; go_simp; (try with_reducible rfl); done)))); simp only [Act.put, Act.eval, qs])
  refine fl_both ?_ ?_
  · go_wp2_with fail
    refine (over_any a a 1073741824 (by omega) (by omega) (by omega) (by omega) (by omega) (by omega) _).mono ?_
    rintro e w1 ⟨rfl, hb1⟩
    replace bw : Below w.heap.size w w1 := below_next bw hb1
    replace HA := HA.call hb1
    replace HC := HC.call hb1
    have lw1 : w.heap.size ≤ w1.heap.size := bw.size
    clear hb1
    go_wp2_with fail
    refine ⟨⟨HA, bw⟩, ?_⟩
    repeat ((first | with_reducible apply fl_move | with_reducible apply fl_assign | ((with_reducible refine fl_soft (v := ?_) (fun w' hw' => ?_) ?_); rotate_left 1; (focus (obtain ⟨hA, hBw⟩ := hw'; obtain ⟨hcA, hfA⟩ := hA.facts; go_simp; (try with_reducible rfl); done)))); simp only [Act.put, Act.eval, qs])
    refine fl_both ?_ ?_
    · go_wp2_with fail
      refine (over_any b b 1073741824 (by omega) (by omega) (by omega) (by omega) (by omega) (by omega) _).mono ?_
      rintro e w2 ⟨rfl, hb2⟩
      replace bw : Below w.heap.size w w2 := below_next bw hb2
      replace HA := HA.call hb2
      replace HC := HC.call hb2
      have lw2 : w.heap.size ≤ w2.heap.size := bw.size
      clear hb2
      go_wp2_with fail
      refine ⟨⟨HA, bw⟩, ?_⟩
      repeat ((first | with_reducible apply fl_move | with_reducible apply fl_assign | ((with_reducible refine fl_soft (v := ?_) (fun w' hw' => ?_) ?_); rotate_left 1; (focus (obtain ⟨hA, hBw⟩ := hw'; obtain ⟨hcA, hfA⟩ := hA.facts; go_simp; (try with_reducible rfl); done)))); simp only [Act.put, Act.eval, qs])
      refine fl_both ?_ ?_
      · go_wp2_with fail
        have PA := HA
        have PC := HC
        have Pbw := bw
        have ltAF : w.heap.size < w2.heap.size := by (have := HA.lt; (try simp only [World.size_alloc, World.size_setCell, World.size_drew] at this); omega)
        have ltCF : (w.heap.size + 1) < w2.heap.size := by (have := HC.lt; (try simp only [World.size_alloc, World.size_setCell, World.size_drew] at this); omega)
        replace HA : Hd (w2.alloc (.cells #[.bool (En.over a a 1073741824).neg, .int .u64 (En.over a a 1073741824).hi, .int .u64 (En.over a a 1073741824).lo, .int .u64 (En.over a a 1073741824).c, .bool (En.over b b 1073741824).neg, .int .u64 (En.over b b 1073741824).hi, .int .u64 (En.over b b 1073741824).lo, .int .u64 (En.over b b 1073741824).c] 111)) w.heap.size 23 #[.int .i64 a, .int .i64 b] := hdx
        replace HC : Hd (w2.alloc (.cells #[.bool (En.over a a 1073741824).neg, .int .u64 (En.over a a 1073741824).hi, .int .u64 (En.over a a 1073741824).lo, .int .u64 (En.over a a 1073741824).c, .bool (En.over b b 1073741824).neg, .int .u64 (En.over b b 1073741824).hi, .int .u64 (En.over b b 1073741824).lo, .int .u64 (En.over b b 1073741824).c] 111)) (w.heap.size + 1) 23 #[.int .i64 0, .int .i64 0] := hdx
        replace bw : Below w.heap.size w (w2.alloc (.cells #[.bool (En.over a a 1073741824).neg, .int .u64 (En.over a a 1073741824).hi, .int .u64 (En.over a a 1073741824).lo, .int .u64 (En.over a a 1073741824).c, .bool (En.over b b 1073741824).neg, .int .u64 (En.over b b 1073741824).hi, .int .u64 (En.over b b 1073741824).lo, .int .u64 (En.over b b 1073741824).c] 111)) := by go_grown
        have HF : Hd (w2.alloc (.cells #[.bool (En.over a a 1073741824).neg, .int .u64 (En.over a a 1073741824).hi, .int .u64 (En.over a a 1073741824).lo, .int .u64 (En.over a a 1073741824).c, .bool (En.over b b 1073741824).neg, .int .u64 (En.over b b 1073741824).hi, .int .u64 (En.over b b 1073741824).lo, .int .u64 (En.over b b 1073741824).c] 111)) w2.heap.size 111 #[.bool (En.over a a 1073741824).neg, .int .u64 (En.over a a 1073741824).hi, .int .u64 (En.over a a 1073741824).lo, .int .u64 (En.over a a 1073741824).c, .bool (En.over b b 1073741824).neg, .int .u64 (En.over b b 1073741824).hi, .int .u64 (En.over b b 1073741824).lo, .int .u64 (En.over b b 1073741824).c] := hdx
        refine ⟨⟨HA, bw⟩, ?_⟩
        repeat ((first | with_reducible apply fl_move | with_reducible apply fl_assign | ((with_reducible refine fl_soft (v := ?_) (fun w' hw' => ?_) ?_); rotate_left 1; (focus (obtain ⟨hA, hBw⟩ := hw'; obtain ⟨hcA, hfA⟩ := hA.facts; go_simp; (try with_reducible rfl); done)))); simp only [Act.put, Act.eval, qs])
        refine fl_both ?_ ?_
        · go_wp2_with fail
          refine (show Calls _ _ _ _ (Post spV (En.squareOut ⟨a, b⟩) _) from around2_any (En.over a a 1073741824) (En.over b b 1073741824) (by apply En.over_wf <;> omega) (by apply En.over_wf <;> omega) _ _ _ HF).mono ?_
          intro e w3 hp
          obtain ⟨hb3, hcase⟩ := hp.cases
          clear hp
          replace bw : Below w.heap.size w w3 := below_next bw hb3
          replace HA := HA.call hb3
          replace HC := HC.call hb3
          replace HF := HF.call hb3
          have lw3 : w.heap.size ≤ w3.heap.size := bw.size
          clear hb3
          rcases hcase with ⟨s3, hs3, rfl⟩ | ⟨c3, hs3, rfl⟩
          rotate_left
          · exact ⟨rfl, post_err (by simp only [En.square, ebind_ok, ebind_err, epure, hs3]) bw⟩
          go_wp2_with fail
          refine ⟨⟨HA, bw⟩, ?_⟩
          repeat ((first | with_reducible apply fl_move | with_reducible apply fl_assign | ((with_reducible refine fl_soft (v := ?_) (fun w' hw' => ?_) ?_); rotate_left 1; (focus (obtain ⟨hA, hBw⟩ := hw'; obtain ⟨hcA, hfA⟩ := hA.facts; go_simp; (try with_reducible rfl); done)))); simp only [Act.put, Act.eval, qs])
          refine fl_must ?_
          go_wp2_with fail
          have PA := HA
          have PC := HC
          have PF := HF
          have Pbw := bw
          have ltAO : w.heap.size < w3.heap.size := by (have := HA.lt; (try simp only [World.size_alloc, World.size_setCell, World.size_drew] at this); omega)
          have ltCO : (w.heap.size + 1) < w3.heap.size := by (have := HC.lt; (try simp only [World.size_alloc, World.size_setCell, World.size_drew] at this); omega)
          have ltFO : w2.heap.size < w3.heap.size := by (have := HF.lt; (try simp only [World.size_alloc, World.size_setCell, World.size_drew] at this); omega)
          replace HA : Hd (w3.alloc (.cells #[.int .i64 0, .int .i64 0] 23)) w.heap.size 23 #[.int .i64 a, .int .i64 b] := hdx
          replace HC : Hd (w3.alloc (.cells #[.int .i64 0, .int .i64 0] 23)) (w.heap.size + 1) 23 #[.int .i64 0, .int .i64 0] := hdx
          replace HF : Hd (w3.alloc (.cells #[.int .i64 0, .int .i64 0] 23)) w2.heap.size 111 #[.bool (En.over a a 1073741824).neg, .int .u64 (En.over a a 1073741824).hi, .int .u64 (En.over a a 1073741824).lo, .int .u64 (En.over a a 1073741824).c, .bool (En.over b b 1073741824).neg, .int .u64 (En.over b b 1073741824).hi, .int .u64 (En.over b b 1073741824).lo, .int .u64 (En.over b b 1073741824).c] := hdx
          replace bw : Below w.heap.size w (w3.alloc (.cells #[.int .i64 0, .int .i64 0] 23)) := by go_grown
          have HO : Hd (w3.alloc (.cells #[.int .i64 0, .int .i64 0] 23)) w3.heap.size 23 #[.int .i64 0, .int .i64 0] := hdx
          refine ⟨⟨HA, bw⟩, ?_⟩
          repeat ((first | with_reducible apply fl_move | with_reducible apply fl_assign | ((with_reducible refine fl_soft (v := ?_) (fun w' hw' => ?_) ?_); rotate_left 1; (focus (obtain ⟨hA, hBw⟩ := hw'; obtain ⟨hcA, hfA⟩ := hA.facts; go_simp; (try with_reducible rfl); done)))); simp only [Act.put, Act.eval, qs])
          repeat ((first | with_reducible apply fl_move | with_reducible apply fl_assign | ((with_reducible refine fl_soft (v := ?_) (fun w' hw' => ?_) ?_); rotate_left 1; (focus (obtain ⟨hA, hBw⟩ := hw'; obtain ⟨hcA, hfA⟩ := hA.facts; go_simp; (try with_reducible rfl); done)))); simp only [Act.put, Act.eval, qs])
          refine fl_hard ?_
          obtain ⟨hcO, hfO⟩ := HO.facts
          go_wp2_with fail
          replace HA : Hd (w3.alloc (.cells #[.int .i64 s3.lo, .int .i64 s3.hi] 23)) w.heap.size 23 #[.int .i64 a, .int .i64 b] := hdx
          replace HC : Hd (w3.alloc (.cells #[.int .i64 s3.lo, .int .i64 s3.hi] 23)) (w.heap.size + 1) 23 #[.int .i64 0, .int .i64 0] := hdx
          replace HF : Hd (w3.alloc (.cells #[.int .i64 s3.lo, .int .i64 s3.hi] 23)) w2.heap.size 111 #[.bool (En.over a a 1073741824).neg, .int .u64 (En.over a a 1073741824).hi, .int .u64 (En.over a a 1073741824).lo, .int .u64 (En.over a a 1073741824).c, .bool (En.over b b 1073741824).neg, .int .u64 (En.over b b 1073741824).hi, .int .u64 (En.over b b 1073741824).lo, .int .u64 (En.over b b 1073741824).c] := hdx
          replace HO : Hd (w3.alloc (.cells #[.int .i64 s3.lo, .int .i64 s3.hi] 23)) w3.heap.size 23 #[.int .i64 s3.lo, .int .i64 s3.hi] := hdx
          replace bw : Below w.heap.size w (w3.alloc (.cells #[.int .i64 s3.lo, .int .i64 s3.hi] 23)) := by go_grown
          refine ⟨⟨HA, bw⟩, ?_⟩
          repeat ((first | with_reducible apply fl_move | with_reducible apply fl_assign | ((with_reducible refine fl_soft (v := ?_) (fun w' hw' => ?_) ?_); rotate_left 1; (focus (obtain ⟨hA, hBw⟩ := hw'; obtain ⟨hcA, hfA⟩ := hA.facts; go_simp; (try with_reducible rfl); done)))); simp only [Act.put, Act.eval, qs])
          refine fl_nil ?_
          generalize hW : w3.alloc (.cells #[.int .i64 s3.lo, .int .i64 s3.hi] 23) = w4 at HA HC HF HO bw ⊢
          clear hW
          have lw4 : w.heap.size ≤ w4.heap.size := bw.size
          obtain ⟨hcA, hfA⟩ := HA.facts
          obtain ⟨hcO, hfO⟩ := HO.facts
          obtain ⟨hcC, hfC⟩ := HC.facts
          by_cases hz : a ≤ 0
          · by_cases hz2 : 0 ≤ b
            · have hcd := Lib.hid (And.intro hz hz2)
              go_wp2
              refine bodyPost_ret (run_results1 rfl rfl (by (show Hd _ (w.heap.size + 1) 23 #[.int .i64 0, .int .i64 s3.hi]); exact hdx) Try.underlying23 rfl (by kernel_rfl)) rfl (post_ok (s := ⟨0, s3.hi⟩) (by simp only [En.square, ebind_ok, epure, hs3]; rw [if_pos hcd.out]) (by go_grown))
            · have hcd := Lib.hid (fun h : a ≤ 0 ∧ 0 ≤ b => hz2 h.2)
              go_wp2
              refine bodyPost_ret (run_results1 rfl rfl (by (show Hd _ (w.heap.size + 1) 23 #[.int .i64 s3.lo, .int .i64 s3.hi]); exact hdx) Try.underlying23 rfl (by kernel_rfl)) rfl (post_ok (s := ⟨s3.lo, s3.hi⟩) (by simp only [En.square, ebind_ok, epure, hs3]; rw [if_neg hcd.out]) (by go_grown))
          · have hcd := Lib.hid (fun h : a ≤ 0 ∧ 0 ≤ b => hz h.1)
            go_wp2
            refine bodyPost_ret (run_results1 rfl rfl (by (show Hd _ (w.heap.size + 1) 23 #[.int .i64 s3.lo, .int .i64 s3.hi]); exact hdx) Try.underlying23 rfl (by kernel_rfl)) rfl (post_ok (s := ⟨s3.lo, s3.hi⟩) (by simp only [En.square, ebind_ok, epure, hs3]; rw [if_neg hcd.out]) (by go_grown))
        · go_wp2_with fail
          have PA := HA
          have PC := HC
          have PF := HF
          have Pbw := bw
          have ltAO : w.heap.size < (w2.heap.size + 1) := by (have := HA.lt; (try simp only [World.size_alloc, World.size_setCell, World.size_drew] at this); omega)
          have ltCO : (w.heap.size + 1) < (w2.heap.size + 1) := by (have := HC.lt; (try simp only [World.size_alloc, World.size_setCell, World.size_drew] at this); omega)
          have ltFO : w2.heap.size < (w2.heap.size + 1) := by (have := HF.lt; (try simp only [World.size_alloc, World.size_setCell, World.size_drew] at this); omega)
          replace HA : Hd ((w2.alloc (.cells #[.bool (En.over a a 1073741824).neg, .int .u64 (En.over a a 1073741824).hi, .int .u64 (En.over a a 1073741824).lo, .int .u64 (En.over a a 1073741824).c, .bool (En.over b b 1073741824).neg, .int .u64 (En.over b b 1073741824).hi, .int .u64 (En.over b b 1073741824).lo, .int .u64 (En.over b b 1073741824).c] 111)).alloc (.cells #[.int .i64 0, .int .i64 0] 23)) w.heap.size 23 #[.int .i64 a, .int .i64 b] := hdx
          replace HC : Hd ((w2.alloc (.cells #[.bool (En.over a a 1073741824).neg, .int .u64 (En.over a a 1073741824).hi, .int .u64 (En.over a a 1073741824).lo, .int .u64 (En.over a a 1073741824).c, .bool (En.over b b 1073741824).neg, .int .u64 (En.over b b 1073741824).hi, .int .u64 (En.over b b 1073741824).lo, .int .u64 (En.over b b 1073741824).c] 111)).alloc (.cells #[.int .i64 0, .int .i64 0] 23)) (w.heap.size + 1) 23 #[.int .i64 0, .int .i64 0] := hdx
          replace HF : Hd ((w2.alloc (.cells #[.bool (En.over a a 1073741824).neg, .int .u64 (En.over a a 1073741824).hi, .int .u64 (En.over a a 1073741824).lo, .int .u64 (En.over a a 1073741824).c, .bool (En.over b b 1073741824).neg, .int .u64 (En.over b b 1073741824).hi, .int .u64 (En.over b b 1073741824).lo, .int .u64 (En.over b b 1073741824).c] 111)).alloc (.cells #[.int .i64 0, .int .i64 0] 23)) w2.heap.size 111 #[.bool (En.over a a 1073741824).neg, .int .u64 (En.over a a 1073741824).hi, .int .u64 (En.over a a 1073741824).lo, .int .u64 (En.over a a 1073741824).c, .bool (En.over b b 1073741824).neg, .int .u64 (En.over b b 1073741824).hi, .int .u64 (En.over b b 1073741824).lo, .int .u64 (En.over b b 1073741824).c] := hdx
          replace bw : Below w.heap.size w ((w2.alloc (.cells #[.bool (En.over a a 1073741824).neg, .int .u64 (En.over a a 1073741824).hi, .int .u64 (En.over a a 1073741824).lo, .int .u64 (En.over a a 1073741824).c, .bool (En.over b b 1073741824).neg, .int .u64 (En.over b b 1073741824).hi, .int .u64 (En.over b b 1073741824).lo, .int .u64 (En.over b b 1073741824).c] 111)).alloc (.cells #[.int .i64 0, .int .i64 0] 23)) := by go_grown
          have HO : Hd ((w2.alloc (.cells #[.bool (En.over a a 1073741824).neg, .int .u64 (En.over a a 1073741824).hi, .int .u64 (En.over a a 1073741824).lo, .int .u64 (En.over a a 1073741824).c, .bool (En.over b b 1073741824).neg, .int .u64 (En.over b b 1073741824).hi, .int .u64 (En.over b b 1073741824).lo, .int .u64 (En.over b b 1073741824).c] 111)).alloc (.cells #[.int .i64 0, .int .i64 0] 23)) (w2.heap.size + 1) 23 #[.int .i64 0, .int .i64 0] := hdx
          refine ⟨⟨HA, bw⟩, ?_⟩
          repeat ((first | with_reducible apply eag_move | with_reducible apply eag_assign | ((with_reducible refine eag_soft (v := ?_) (fun w' hw' => ?_) ?_); rotate_left 1; (focus (obtain ⟨hA, hBw⟩ := hw'; obtain ⟨hcA, hfA⟩ := hA.facts; go_simp; (try with_reducible rfl); done)))); simp only [Act.put, Act.eval, qs])
          repeat ((first | with_reducible apply eag_move | with_reducible apply eag_assign | ((with_reducible refine eag_soft (v := ?_) (fun w' hw' => ?_) ?_); rotate_left 1; (focus (obtain ⟨hA, hBw⟩ := hw'; obtain ⟨hcA, hfA⟩ := hA.facts; go_simp; (try with_reducible rfl); done)))); simp only [Act.put, Act.eval, qs])
          refine eag_hard ?_
          go_wp2_with fail
          refine (show Calls _ _ _ _ (Post spV (En.squareOut ⟨a, b⟩) _) from around2_any (En.over a a 1073741824) (En.over b b 1073741824) (by apply En.over_wf <;> omega) (by apply En.over_wf <;> omega) _ _ _ HF).mono ?_
          intro e w3 hp
          obtain ⟨hb3, hcase⟩ := hp.cases
          clear hp
          replace bw : Below w.heap.size w w3 := below_next bw hb3
          replace HA := HA.call hb3
          replace HC := HC.call hb3
          replace HF := HF.call hb3
          replace HO := HO.call hb3
          have lw3 : w.heap.size ≤ w3.heap.size := bw.size
          clear hb3
          rcases hcase with ⟨s3, hs3, rfl⟩ | ⟨c3, hs3, rfl⟩
          rotate_left
          · exact ⟨rfl, post_err (by simp only [En.square, ebind_ok, ebind_err, epure, hs3]) bw⟩
          go_wp2_with fail
          refine ⟨⟨HA, bw⟩, ?_⟩
          repeat ((first | with_reducible apply eag_move | with_reducible apply eag_assign | ((with_reducible refine eag_soft (v := ?_) (fun w' hw' => ?_) ?_); rotate_left 1; (focus (obtain ⟨hA, hBw⟩ := hw'; obtain ⟨hcA, hfA⟩ := hA.facts; go_simp; (try with_reducible rfl); done)))); simp only [Act.put, Act.eval, qs])
          refine eag_hard ?_
          obtain ⟨hcO, hfO⟩ := HO.facts
          go_wp2_with fail
          replace HA : Hd ((w3.setCell ⟨(w2.heap.size + 1), 0, none⟩ (.int .i64 s3.lo)).setCell ⟨(w2.heap.size + 1), 1, none⟩ (.int .i64 s3.hi)) w.heap.size 23 #[.int .i64 a, .int .i64 b] := hdx
          replace HC : Hd ((w3.setCell ⟨(w2.heap.size + 1), 0, none⟩ (.int .i64 s3.lo)).setCell ⟨(w2.heap.size + 1), 1, none⟩ (.int .i64 s3.hi)) (w.heap.size + 1) 23 #[.int .i64 0, .int .i64 0] := hdx
          replace HF : Hd ((w3.setCell ⟨(w2.heap.size + 1), 0, none⟩ (.int .i64 s3.lo)).setCell ⟨(w2.heap.size + 1), 1, none⟩ (.int .i64 s3.hi)) w2.heap.size 111 #[.bool (En.over a a 1073741824).neg, .int .u64 (En.over a a 1073741824).hi, .int .u64 (En.over a a 1073741824).lo, .int .u64 (En.over a a 1073741824).c, .bool (En.over b b 1073741824).neg, .int .u64 (En.over b b 1073741824).hi, .int .u64 (En.over b b 1073741824).lo, .int .u64 (En.over b b 1073741824).c] := hdx
          replace HO : Hd ((w3.setCell ⟨(w2.heap.size + 1), 0, none⟩ (.int .i64 s3.lo)).setCell ⟨(w2.heap.size + 1), 1, none⟩ (.int .i64 s3.hi)) (w2.heap.size + 1) 23 #[.int .i64 s3.lo, .int .i64 s3.hi] := hdx
          replace bw : Below w.heap.size w ((w3.setCell ⟨(w2.heap.size + 1), 0, none⟩ (.int .i64 s3.lo)).setCell ⟨(w2.heap.size + 1), 1, none⟩ (.int .i64 s3.hi)) := by go_grown
          refine ⟨⟨HA, bw⟩, ?_⟩
          repeat ((first | with_reducible apply eag_move | with_reducible apply eag_assign | ((with_reducible refine eag_soft (v := ?_) (fun w' hw' => ?_) ?_); rotate_left 1; (focus (obtain ⟨hA, hBw⟩ := hw'; obtain ⟨hcA, hfA⟩ := hA.facts; go_simp; (try with_reducible rfl); done)))); simp only [Act.put, Act.eval, qs])
          refine eag_nil ?_
          generalize hW : (w3.setCell ⟨(w2.heap.size + 1), 0, none⟩ (.int .i64 s3.lo)).setCell ⟨(w2.heap.size + 1), 1, none⟩ (.int .i64 s3.hi) = w4 at HA HC HF HO bw ⊢
          clear hW
          have lw4 : w.heap.size ≤ w4.heap.size := bw.size
          obtain ⟨hcA, hfA⟩ := HA.facts
          obtain ⟨hcO, hfO⟩ := HO.facts
          obtain ⟨hcC, hfC⟩ := HC.facts
          by_cases hz : a ≤ 0
          · by_cases hz2 : 0 ≤ b
            · have hcd := Lib.hid (And.intro hz hz2)
              go_wp2
              refine bodyPost_ret (run_results1 rfl rfl (by (show Hd _ (w.heap.size + 1) 23 #[.int .i64 0, .int .i64 s3.hi]); exact hdx) Try.underlying23 rfl (by kernel_rfl)) rfl (post_ok (s := ⟨0, s3.hi⟩) (by simp only [En.square, ebind_ok, epure, hs3]; rw [if_pos hcd.out]) (by go_grown))
            · have hcd := Lib.hid (fun h : a ≤ 0 ∧ 0 ≤ b => hz2 h.2)
              go_wp2
              refine bodyPost_ret (run_results1 rfl rfl (by (show Hd _ (w.heap.size + 1) 23 #[.int .i64 s3.lo, .int .i64 s3.hi]); exact hdx) Try.underlying23 rfl (by kernel_rfl)) rfl (post_ok (s := ⟨s3.lo, s3.hi⟩) (by simp only [En.square, ebind_ok, epure, hs3]; rw [if_neg hcd.out]) (by go_grown))
          · have hcd := Lib.hid (fun h : a ≤ 0 ∧ 0 ≤ b => hz h.1)
            go_wp2
            refine bodyPost_ret (run_results1 rfl rfl (by (show Hd _ (w.heap.size + 1) 23 #[.int .i64 s3.lo, .int .i64 s3.hi]); exact hdx) Try.underlying23 rfl (by kernel_rfl)) rfl (post_ok (s := ⟨s3.lo, s3.hi⟩) (by simp only [En.square, ebind_ok, epure, hs3]; rw [if_neg hcd.out]) (by go_grown))
      · go_wp2_with fail
        have PA := HA
        have PC := HC
        have Pbw := bw
        have ltAO : w.heap.size < w2.heap.size := by (have := HA.lt; (try simp only [World.size_alloc, World.size_setCell, World.size_drew] at this); omega)
        have ltCO : (w.heap.size + 1) < w2.heap.size := by (have := HC.lt; (try simp only [World.size_alloc, World.size_setCell, World.size_drew] at this); omega)
        replace HA : Hd (w2.alloc (.cells #[.int .i64 0, .int .i64 0] 23)) w.heap.size 23 #[.int .i64 a, .int .i64 b] := hdx
        replace HC : Hd (w2.alloc (.cells #[.int .i64 0, .int .i64 0] 23)) (w.heap.size + 1) 23 #[.int .i64 0, .int .i64 0] := hdx
        replace bw : Below w.heap.size w (w2.alloc (.cells #[.int .i64 0, .int .i64 0] 23)) := by go_grown
        have HO : Hd (w2.alloc (.cells #[.int .i64 0, .int .i64 0] 23)) w2.heap.size 23 #[.int .i64 0, .int .i64 0] := hdx
        refine ⟨⟨HA, bw⟩, ?_⟩
        repeat ((first | with_reducible apply eag_move | with_reducible apply eag_assign | ((with_reducible refine eag_soft (v := ?_) (fun w' hw' => ?_) ?_); rotate_left 1; (focus (obtain ⟨hA, hBw⟩ := hw'; obtain ⟨hcA, hfA⟩ := hA.facts; go_simp; (try with_reducible rfl); done)))); simp only [Act.put, Act.eval, qs])
        repeat ((first | with_reducible apply eag_move | with_reducible apply eag_assign | ((with_reducible refine eag_soft (v := ?_) (fun w' hw' => ?_) ?_); rotate_left 1; (focus (obtain ⟨hA, hBw⟩ := hw'; obtain ⟨hcA, hfA⟩ := hA.facts; go_simp; (try with_reducible rfl); done)))); simp only [Act.put, Act.eval, qs])
        refine eag_hard ?_
        go_wp2_with fail
        have PA := HA
        have PC := HC
        have PO := HO
        have Pbw := bw
        have ltAF : w.heap.size < (w2.heap.size + 1) := by (have := HA.lt; (try simp only [World.size_alloc, World.size_setCell, World.size_drew] at this); omega)
        have ltCF : (w.heap.size + 1) < (w2.heap.size + 1) := by (have := HC.lt; (try simp only [World.size_alloc, World.size_setCell, World.size_drew] at this); omega)
        have ltOF : w2.heap.size < (w2.heap.size + 1) := by (have := HO.lt; (try simp only [World.size_alloc, World.size_setCell, World.size_drew] at this); omega)
        replace HA : Hd ((w2.alloc (.cells #[.int .i64 0, .int .i64 0] 23)).alloc (.cells #[.bool (En.over a a 1073741824).neg, .int .u64 (En.over a a 1073741824).hi, .int .u64 (En.over a a 1073741824).lo, .int .u64 (En.over a a 1073741824).c, .bool (En.over b b 1073741824).neg, .int .u64 (En.over b b 1073741824).hi, .int .u64 (En.over b b 1073741824).lo, .int .u64 (En.over b b 1073741824).c] 111)) w.heap.size 23 #[.int .i64 a, .int .i64 b] := hdx
        replace HC : Hd ((w2.alloc (.cells #[.int .i64 0, .int .i64 0] 23)).alloc (.cells #[.bool (En.over a a 1073741824).neg, .int .u64 (En.over a a 1073741824).hi, .int .u64 (En.over a a 1073741824).lo, .int .u64 (En.over a a 1073741824).c, .bool (En.over b b 1073741824).neg, .int .u64 (En.over b b 1073741824).hi, .int .u64 (En.over b b 1073741824).lo, .int .u64 (En.over b b 1073741824).c] 111)) (w.heap.size + 1) 23 #[.int .i64 0, .int .i64 0] := hdx
        replace HO : Hd ((w2.alloc (.cells #[.int .i64 0, .int .i64 0] 23)).alloc (.cells #[.bool (En.over a a 1073741824).neg, .int .u64 (En.over a a 1073741824).hi, .int .u64 (En.over a a 1073741824).lo, .int .u64 (En.over a a 1073741824).c, .bool (En.over b b 1073741824).neg, .int .u64 (En.over b b 1073741824).hi, .int .u64 (En.over b b 1073741824).lo, .int .u64 (En.over b b 1073741824).c] 111)) w2.heap.size 23 #[.int .i64 0, .int .i64 0] := hdx
        replace bw : Below w.heap.size w ((w2.alloc (.cells #[.int .i64 0, .int .i64 0] 23)).alloc (.cells #[.bool (En.over a a 1073741824).neg, .int .u64 (En.over a a 1073741824).hi, .int .u64 (En.over a a 1073741824).lo, .int .u64 (En.over a a 1073741824).c, .bool (En.over b b 1073741824).neg, .int .u64 (En.over b b 1073741824).hi, .int .u64 (En.over b b 1073741824).lo, .int .u64 (En.over b b 1073741824).c] 111)) := by go_grown
        have HF : Hd ((w2.alloc (.cells #[.int .i64 0, .int .i64 0] 23)).alloc (.cells #[.bool (En.over a a 1073741824).neg, .int .u64 (En.over a a 1073741824).hi, .int .u64 (En.over a a 1073741824).lo, .int .u64 (En.over a a 1073741824).c, .bool (En.over b b 1073741824).neg, .int .u64 (En.over b b 1073741824).hi, .int .u64 (En.over b b 1073741824).lo, .int .u64 (En.over b b 1073741824).c] 111)) (w2.heap.size + 1) 111 #[.bool (En.over a a 1073741824).neg, .int .u64 (En.over a a 1073741824).hi, .int .u64 (En.over a a 1073741824).lo, .int .u64 (En.over a a 1073741824).c, .bool (En.over b b 1073741824).neg, .int .u64 (En.over b b 1073741824).hi, .int .u64 (En.over b b 1073741824).lo, .int .u64 (En.over b b 1073741824).c] := hdx
        refine ⟨⟨HA, bw⟩, ?_⟩
        repeat ((first | with_reducible apply eag_move | with_reducible apply eag_assign | ((with_reducible refine eag_soft (v := ?_) (fun w' hw' => ?_) ?_); rotate_left 1; (focus (obtain ⟨hA, hBw⟩ := hw'; obtain ⟨hcA, hfA⟩ := hA.facts; go_simp; (try with_reducible rfl); done)))); simp only [Act.put, Act.eval, qs])
        refine eag_hard ?_
        go_wp2_with fail
        refine (show Calls _ _ _ _ (Post spV (En.squareOut ⟨a, b⟩) _) from around2_any (En.over a a 1073741824) (En.over b b 1073741824) (by apply En.over_wf <;> omega) (by apply En.over_wf <;> omega) _ _ _ HF).mono ?_
        intro e w3 hp
        obtain ⟨hb3, hcase⟩ := hp.cases
        clear hp
        replace bw : Below w.heap.size w w3 := below_next bw hb3
        replace HA := HA.call hb3
        replace HC := HC.call hb3
        replace HO := HO.call hb3
        replace HF := HF.call hb3
        have lw3 : w.heap.size ≤ w3.heap.size := bw.size
        clear hb3
        rcases hcase with ⟨s3, hs3, rfl⟩ | ⟨c3, hs3, rfl⟩
        rotate_left
        · exact ⟨rfl, post_err (by simp only [En.square, ebind_ok, ebind_err, epure, hs3]) bw⟩
        go_wp2_with fail
        refine ⟨⟨HA, bw⟩, ?_⟩
        repeat ((first | with_reducible apply eag_move | with_reducible apply eag_assign | ((with_reducible refine eag_soft (v := ?_) (fun w' hw' => ?_) ?_); rotate_left 1; (focus (obtain ⟨hA, hBw⟩ := hw'; obtain ⟨hcA, hfA⟩ := hA.facts; go_simp; (try with_reducible rfl); done)))); simp only [Act.put, Act.eval, qs])
        refine eag_hard ?_
        obtain ⟨hcO, hfO⟩ := HO.facts
        go_wp2_with fail
        replace HA : Hd ((w3.setCell ⟨w2.heap.size, 0, none⟩ (.int .i64 s3.lo)).setCell ⟨w2.heap.size, 1, none⟩ (.int .i64 s3.hi)) w.heap.size 23 #[.int .i64 a, .int .i64 b] := hdx
        replace HC : Hd ((w3.setCell ⟨w2.heap.size, 0, none⟩ (.int .i64 s3.lo)).setCell ⟨w2.heap.size, 1, none⟩ (.int .i64 s3.hi)) (w.heap.size + 1) 23 #[.int .i64 0, .int .i64 0] := hdx
        replace HO : Hd ((w3.setCell ⟨w2.heap.size, 0, none⟩ (.int .i64 s3.lo)).setCell ⟨w2.heap.size, 1, none⟩ (.int .i64 s3.hi)) w2.heap.size 23 #[.int .i64 s3.lo, .int .i64 s3.hi] := hdx
        replace HF : Hd ((w3.setCell ⟨w2.heap.size, 0, none⟩ (.int .i64 s3.lo)).setCell ⟨w2.heap.size, 1, none⟩ (.int .i64 s3.hi)) (w2.heap.size + 1) 111 #[.bool (En.over a a 1073741824).neg, .int .u64 (En.over a a 1073741824).hi, .int .u64 (En.over a a 1073741824).lo, .int .u64 (En.over a a 1073741824).c, .bool (En.over b b 1073741824).neg, .int .u64 (En.over b b 1073741824).hi, .int .u64 (En.over b b 1073741824).lo, .int .u64 (En.over b b 1073741824).c] := hdx
        replace bw : Below w.heap.size w ((w3.setCell ⟨w2.heap.size, 0, none⟩ (.int .i64 s3.lo)).setCell ⟨w2.heap.size, 1, none⟩ (.int .i64 s3.hi)) := by go_grown
        refine ⟨⟨HA, bw⟩, ?_⟩
        repeat ((first | with_reducible apply eag_move | with_reducible apply eag_assign | ((with_reducible refine eag_soft (v := ?_) (fun w' hw' => ?_) ?_); rotate_left 1; (focus (obtain ⟨hA, hBw⟩ := hw'; obtain ⟨hcA, hfA⟩ := hA.facts; go_simp; (try with_reducible rfl); done)))); simp only [Act.put, Act.eval, qs])
        refine eag_nil ?_
        generalize hW : (w3.setCell ⟨w2.heap.size, 0, none⟩ (.int .i64 s3.lo)).setCell ⟨w2.heap.size, 1, none⟩ (.int .i64 s3.hi) = w4 at HA HC HO HF bw ⊢
        clear hW
        have lw4 : w.heap.size ≤ w4.heap.size := bw.size
        obtain ⟨hcA, hfA⟩ := HA.facts
        obtain ⟨hcO, hfO⟩ := HO.facts
        obtain ⟨hcC, hfC⟩ := HC.facts
        by_cases hz : a ≤ 0
        · by_cases hz2 : 0 ≤ b
          · have hcd := Lib.hid (And.intro hz hz2)
            go_wp2
            refine bodyPost_ret (run_results1 rfl rfl (by (show Hd _ (w.heap.size + 1) 23 #[.int .i64 0, .int .i64 s3.hi]); exact hdx) Try.underlying23 rfl (by kernel_rfl)) rfl (post_ok (s := ⟨0, s3.hi⟩) (by simp only [En.square, ebind_ok, epure, hs3]; rw [if_pos hcd.out]) (by go_grown))
          · have hcd := Lib.hid (fun h : a ≤ 0 ∧ 0 ≤ b => hz2 h.2)
            go_wp2
            refine bodyPost_ret (run_results1 rfl rfl (by (show Hd _ (w.heap.size + 1) 23 #[.int .i64 s3.lo, .int .i64 s3.hi]); exact hdx) Try.underlying23 rfl (by kernel_rfl)) rfl (post_ok (s := ⟨s3.lo, s3.hi⟩) (by simp only [En.square, ebind_ok, epure, hs3]; rw [if_neg hcd.out]) (by go_grown))
        · have hcd := Lib.hid (fun h : a ≤ 0 ∧ 0 ≤ b => hz h.1)
          go_wp2
          refine bodyPost_ret (run_results1 rfl rfl (by (show Hd _ (w.heap.size + 1) 23 #[.int .i64 s3.lo, .int .i64 s3.hi]); exact hdx) Try.underlying23 rfl (by kernel_rfl)) rfl (post_ok (s := ⟨s3.lo, s3.hi⟩) (by simp only [En.square, ebind_ok, epure, hs3]; rw [if_neg hcd.out]) (by go_grown))
    · go_wp2_with fail
      have PA := HA
      have PC := HC
      have Pbw := bw
      have ltAO : w.heap.size < w1.heap.size := by (have := HA.lt; (try simp only [World.size_alloc, World.size_setCell, World.size_drew] at this); omega)
      have ltCO : (w.heap.size + 1) < w1.heap.size := by (have := HC.lt; (try simp only [World.size_alloc, World.size_setCell, World.size_drew] at this); omega)
      replace HA : Hd (w1.alloc (.cells #[.int .i64 0, .int .i64 0] 23)) w.heap.size 23 #[.int .i64 a, .int .i64 b] := hdx
      replace HC : Hd (w1.alloc (.cells #[.int .i64 0, .int .i64 0] 23)) (w.heap.size + 1) 23 #[.int .i64 0, .int .i64 0] := hdx
      replace bw : Below w.heap.size w (w1.alloc (.cells #[.int .i64 0, .int .i64 0] 23)) := by go_grown
      have HO : Hd (w1.alloc (.cells #[.int .i64 0, .int .i64 0] 23)) w1.heap.size 23 #[.int .i64 0, .int .i64 0] := hdx
      refine ⟨⟨HA, bw⟩, ?_⟩
      repeat ((first | with_reducible apply eag_move | with_reducible apply eag_assign | ((with_reducible refine eag_soft (v := ?_) (fun w' hw' => ?_) ?_); rotate_left 1; (focus (obtain ⟨hA, hBw⟩ := hw'; obtain ⟨hcA, hfA⟩ := hA.facts; go_simp; (try with_reducible rfl); done)))); simp only [Act.put, Act.eval, qs])
      repeat ((first | with_reducible apply eag_move | with_reducible apply eag_assign | ((with_reducible refine eag_soft (v := ?_) (fun w' hw' => ?_) ?_); rotate_left 1; (focus (obtain ⟨hA, hBw⟩ := hw'; obtain ⟨hcA, hfA⟩ := hA.facts; go_simp; (try with_reducible rfl); done)))); simp only [Act.put, Act.eval, qs])
      refine eag_hard ?_
      go_wp2_with fail
      refine (over_any b b 1073741824 (by omega) (by omega) (by omega) (by omega) (by omega) (by omega) _).mono ?_
      rintro e w2 ⟨rfl, hb2⟩
      replace bw : Below w.heap.size w w2 := below_next bw hb2
      replace HA := HA.call hb2
      replace HC := HC.call hb2
      replace HO := HO.call hb2
      have lw2 : w.heap.size ≤ w2.heap.size := bw.size
      clear hb2
      go_wp2_with fail
      refine ⟨⟨HA, bw⟩, ?_⟩
      repeat ((first | with_reducible apply eag_move | with_reducible apply eag_assign | ((with_reducible refine eag_soft (v := ?_) (fun w' hw' => ?_) ?_); rotate_left 1; (focus (obtain ⟨hA, hBw⟩ := hw'; obtain ⟨hcA, hfA⟩ := hA.facts; go_simp; (try with_reducible rfl); done)))); simp only [Act.put, Act.eval, qs])
      refine eag_hard ?_
      go_wp2_with fail
      have PA := HA
      have PC := HC
      have PO := HO
      have Pbw := bw
      have ltAF : w.heap.size < w2.heap.size := by (have := HA.lt; (try simp only [World.size_alloc, World.size_setCell, World.size_drew] at this); omega)
      have ltCF : (w.heap.size + 1) < w2.heap.size := by (have := HC.lt; (try simp only [World.size_alloc, World.size_setCell, World.size_drew] at this); omega)
      have ltOF : w1.heap.size < w2.heap.size := by (have := HO.lt; (try simp only [World.size_alloc, World.size_setCell, World.size_drew] at this); omega)
      replace HA : Hd (w2.alloc (.cells #[.bool (En.over a a 1073741824).neg, .int .u64 (En.over a a 1073741824).hi, .int .u64 (En.over a a 1073741824).lo, .int .u64 (En.over a a 1073741824).c, .bool (En.over b b 1073741824).neg, .int .u64 (En.over b b 1073741824).hi, .int .u64 (En.over b b 1073741824).lo, .int .u64 (En.over b b 1073741824).c] 111)) w.heap.size 23 #[.int .i64 a, .int .i64 b] := hdx
      replace HC : Hd (w2.alloc (.cells #[.bool (En.over a a 1073741824).neg, .int .u64 (En.over a a 1073741824).hi, .int .u64 (En.over a a 1073741824).lo, .int .u64 (En.over a a 1073741824).c, .bool (En.over b b 1073741824).neg, .int .u64 (En.over b b 1073741824).hi, .int .u64 (En.over b b 1073741824).lo, .int .u64 (En.over b b 1073741824).c] 111)) (w.heap.size + 1) 23 #[.int .i64 0, .int .i64 0] := hdx
      replace HO : Hd (w2.alloc (.cells #[.bool (En.over a a 1073741824).neg, .int .u64 (En.over a a 1073741824).hi, .int .u64 (En.over a a 1073741824).lo, .int .u64 (En.over a a 1073741824).c, .bool (En.over b b 1073741824).neg, .int .u64 (En.over b b 1073741824).hi, .int .u64 (En.over b b 1073741824).lo, .int .u64 (En.over b b 1073741824).c] 111)) w1.heap.size 23 #[.int .i64 0, .int .i64 0] := hdx
      replace bw : Below w.heap.size w (w2.alloc (.cells #[.bool (En.over a a 1073741824).neg, .int .u64 (En.over a a 1073741824).hi, .int .u64 (En.over a a 1073741824).lo, .int .u64 (En.over a a 1073741824).c, .bool (En.over b b 1073741824).neg, .int .u64 (En.over b b 1073741824).hi, .int .u64 (En.over b b 1073741824).lo, .int .u64 (En.over b b 1073741824).c] 111)) := by go_grown
      have HF : Hd (w2.alloc (.cells #[.bool (En.over a a 1073741824).neg, .int .u64 (En.over a a 1073741824).hi, .int .u64 (En.over a a 1073741824).lo, .int .u64 (En.over a a 1073741824).c, .bool (En.over b b 1073741824).neg, .int .u64 (En.over b b 1073741824).hi, .int .u64 (En.over b b 1073741824).lo, .int .u64 (En.over b b 1073741824).c] 111)) w2.heap.size 111 #[.bool (En.over a a 1073741824).neg, .int .u64 (En.over a a 1073741824).hi, .int .u64 (En.over a a 1073741824).lo, .int .u64 (En.over a a 1073741824).c, .bool (En.over b b 1073741824).neg, .int .u64 (En.over b b 1073741824).hi, .int .u64 (En.over b b 1073741824).lo, .int .u64 (En.over b b 1073741824).c] := hdx
      refine ⟨⟨HA, bw⟩, ?_⟩
      repeat ((first | with_reducible apply eag_move | with_reducible apply eag_assign | ((with_reducible refine eag_soft (v := ?_) (fun w' hw' => ?_) ?_); rotate_left 1; (focus (obtain ⟨hA, hBw⟩ := hw'; obtain ⟨hcA, hfA⟩ := hA.facts; go_simp; (try with_reducible rfl); done)))); simp only [Act.put, Act.eval, qs])
      refine eag_hard ?_
      go_wp2_with fail
      refine (show Calls _ _ _ _ (Post spV (En.squareOut ⟨a, b⟩) _) from around2_any (En.over a a 1073741824) (En.over b b 1073741824) (by apply En.over_wf <;> omega) (by apply En.over_wf <;> omega) _ _ _ HF).mono ?_
      intro e w3 hp
      obtain ⟨hb3, hcase⟩ := hp.cases
      clear hp
      replace bw : Below w.heap.size w w3 := below_next bw hb3
      replace HA := HA.call hb3
      replace HC := HC.call hb3
      replace HO := HO.call hb3
      replace HF := HF.call hb3
      have lw3 : w.heap.size ≤ w3.heap.size := bw.size
      clear hb3
      rcases hcase with ⟨s3, hs3, rfl⟩ | ⟨c3, hs3, rfl⟩
      rotate_left
      · exact ⟨rfl, post_err (by simp only [En.square, ebind_ok, ebind_err, epure, hs3]) bw⟩
      go_wp2_with fail
      refine ⟨⟨HA, bw⟩, ?_⟩
      repeat ((first | with_reducible apply eag_move | with_reducible apply eag_assign | ((with_reducible refine eag_soft (v := ?_) (fun w' hw' => ?_) ?_); rotate_left 1; (focus (obtain ⟨hA, hBw⟩ := hw'; obtain ⟨hcA, hfA⟩ := hA.facts; go_simp; (try with_reducible rfl); done)))); simp only [Act.put, Act.eval, qs])
      refine eag_hard ?_
      obtain ⟨hcO, hfO⟩ := HO.facts
      go_wp2_with fail
      replace HA : Hd ((w3.setCell ⟨w1.heap.size, 0, none⟩ (.int .i64 s3.lo)).setCell ⟨w1.heap.size, 1, none⟩ (.int .i64 s3.hi)) w.heap.size 23 #[.int .i64 a, .int .i64 b] := hdx
      replace HC : Hd ((w3.setCell ⟨w1.heap.size, 0, none⟩ (.int .i64 s3.lo)).setCell ⟨w1.heap.size, 1, none⟩ (.int .i64 s3.hi)) (w.heap.size + 1) 23 #[.int .i64 0, .int .i64 0] := hdx
      replace HO : Hd ((w3.setCell ⟨w1.heap.size, 0, none⟩ (.int .i64 s3.lo)).setCell ⟨w1.heap.size, 1, none⟩ (.int .i64 s3.hi)) w1.heap.size 23 #[.int .i64 s3.lo, .int .i64 s3.hi] := hdx
      replace HF : Hd ((w3.setCell ⟨w1.heap.size, 0, none⟩ (.int .i64 s3.lo)).setCell ⟨w1.heap.size, 1, none⟩ (.int .i64 s3.hi)) w2.heap.size 111 #[.bool (En.over a a 1073741824).neg, .int .u64 (En.over a a 1073741824).hi, .int .u64 (En.over a a 1073741824).lo, .int .u64 (En.over a a 1073741824).c, .bool (En.over b b 1073741824).neg, .int .u64 (En.over b b 1073741824).hi, .int .u64 (En.over b b 1073741824).lo, .int .u64 (En.over b b 1073741824).c] := hdx
      replace bw : Below w.heap.size w ((w3.setCell ⟨w1.heap.size, 0, none⟩ (.int .i64 s3.lo)).setCell ⟨w1.heap.size, 1, none⟩ (.int .i64 s3.hi)) := by go_grown
      refine ⟨⟨HA, bw⟩, ?_⟩
      repeat ((first | with_reducible apply eag_move | with_reducible apply eag_assign | ((with_reducible refine eag_soft (v := ?_) (fun w' hw' => ?_) ?_); rotate_left 1; (focus (obtain ⟨hA, hBw⟩ := hw'; obtain ⟨hcA, hfA⟩ := hA.facts; go_simp; (try with_reducible rfl); done)))); simp only [Act.put, Act.eval, qs])
      refine eag_nil ?_
      generalize hW : (w3.setCell ⟨w1.heap.size, 0, none⟩ (.int .i64 s3.lo)).setCell ⟨w1.heap.size, 1, none⟩ (.int .i64 s3.hi) = w4 at HA HC HO HF bw ⊢
      clear hW
      have lw4 : w.heap.size ≤ w4.heap.size := bw.size
      obtain ⟨hcA, hfA⟩ := HA.facts
      obtain ⟨hcO, hfO⟩ := HO.facts
      obtain ⟨hcC, hfC⟩ := HC.facts
      by_cases hz : a ≤ 0
      · by_cases hz2 : 0 ≤ b
        · have hcd := Lib.hid (And.intro hz hz2)
          go_wp2
          refine bodyPost_ret (run_results1 rfl rfl (by (show Hd _ (w.heap.size + 1) 23 #[.int .i64 0, .int .i64 s3.hi]); exact hdx) Try.underlying23 rfl (by kernel_rfl)) rfl (post_ok (s := ⟨0, s3.hi⟩) (by simp only [En.square, ebind_ok, epure, hs3]; rw [if_pos hcd.out]) (by go_grown))
        · have hcd := Lib.hid (fun h : a ≤ 0 ∧ 0 ≤ b => hz2 h.2)
          go_wp2
          refine bodyPost_ret (run_results1 rfl rfl (by (show Hd _ (w.heap.size + 1) 23 #[.int .i64 s3.lo, .int .i64 s3.hi]); exact hdx) Try.underlying23 rfl (by kernel_rfl)) rfl (post_ok (s := ⟨s3.lo, s3.hi⟩) (by simp only [En.square, ebind_ok, epure, hs3]; rw [if_neg hcd.out]) (by go_grown))
      · have hcd := Lib.hid (fun h : a ≤ 0 ∧ 0 ≤ b => hz h.1)
        go_wp2
        refine bodyPost_ret (run_results1 rfl rfl (by (show Hd _ (w.heap.size + 1) 23 #[.int .i64 s3.lo, .int .i64 s3.hi]); exact hdx) Try.underlying23 rfl (by kernel_rfl)) rfl (post_ok (s := ⟨s3.lo, s3.hi⟩) (by simp only [En.square, ebind_ok, epure, hs3]; rw [if_neg hcd.out]) (by go_grown))
  · go_wp2_with fail
    have PA := HA
    have PC := HC
    have Pbw := bw
    have ltAO : w.heap.size < (w.heap.size + 2) := by (have := HA.lt; (try simp only [World.size_alloc, World.size_setCell, World.size_drew] at this); omega)
    have ltCO : (w.heap.size + 1) < (w.heap.size + 2) := by (have := HC.lt; (try simp only [World.size_alloc, World.size_setCell, World.size_drew] at this); omega)
    replace HA : Hd ((((w.alloc (.cells #[.int .i64 a, .int .i64 b] 23)).alloc (.cells #[.int .i64 0, .int .i64 0] 23)).drew).alloc (.cells #[.int .i64 0, .int .i64 0] 23)) w.heap.size 23 #[.int .i64 a, .int .i64 b] := hdx
    replace HC : Hd ((((w.alloc (.cells #[.int .i64 a, .int .i64 b] 23)).alloc (.cells #[.int .i64 0, .int .i64 0] 23)).drew).alloc (.cells #[.int .i64 0, .int .i64 0] 23)) (w.heap.size + 1) 23 #[.int .i64 0, .int .i64 0] := hdx
    replace bw : Below w.heap.size w ((((w.alloc (.cells #[.int .i64 a, .int .i64 b] 23)).alloc (.cells #[.int .i64 0, .int .i64 0] 23)).drew).alloc (.cells #[.int .i64 0, .int .i64 0] 23)) := by go_grown
    have HO : Hd ((((w.alloc (.cells #[.int .i64 a, .int .i64 b] 23)).alloc (.cells #[.int .i64 0, .int .i64 0] 23)).drew).alloc (.cells #[.int .i64 0, .int .i64 0] 23)) (w.heap.size + 2) 23 #[.int .i64 0, .int .i64 0] := hdx
    refine ⟨⟨HA, bw⟩, ?_⟩
    repeat ((first | with_reducible apply eag_move | with_reducible apply eag_assign | ((with_reducible refine eag_soft (v := ?_) (fun w' hw' => ?_) ?_); rotate_left 1; (focus (obtain ⟨hA, hBw⟩ := hw'; obtain ⟨hcA, hfA⟩ := hA.facts; go_simp; (try with_reducible rfl); done)))); simp only [Act.put, Act.eval, qs])
    repeat ((first | with_reducible apply eag_move | with_reducible apply eag_assign | ((with_reducible refine eag_soft (v := ?_) (fun w' hw' => ?_) ?_); rotate_left 1; (focus (obtain ⟨hA, hBw⟩ := hw'; obtain ⟨hcA, hfA⟩ := hA.facts; go_simp; (try with_reducible rfl); done)))); simp only [Act.put, Act.eval, qs])
    refine eag_hard ?_
    go_wp2_with fail
    refine (over_any a a 1073741824 (by omega) (by omega) (by omega) (by omega) (by omega) (by omega) _).mono ?_
    rintro e w1 ⟨rfl, hb1⟩
    replace bw : Below w.heap.size w w1 := below_next bw hb1
    replace HA := HA.call hb1
    replace HC := HC.call hb1
    replace HO := HO.call hb1
    have lw1 : w.heap.size ≤ w1.heap.size := bw.size
    clear hb1
    go_wp2_with fail
    refine ⟨⟨HA, bw⟩, ?_⟩
    repeat ((first | with_reducible apply eag_move | with_reducible apply eag_assign | ((with_reducible refine eag_soft (v := ?_) (fun w' hw' => ?_) ?_); rotate_left 1; (focus (obtain ⟨hA, hBw⟩ := hw'; obtain ⟨hcA, hfA⟩ := hA.facts; go_simp; (try with_reducible rfl); done)))); simp only [Act.put, Act.eval, qs])
    refine eag_hard ?_
    go_wp2_with fail
    refine (over_any b b 1073741824 (by omega) (by omega) (by omega) (by omega) (by omega) (by omega) _).mono ?_
    rintro e w2 ⟨rfl, hb2⟩
    replace bw : Below w.heap.size w w2 := below_next bw hb2
    replace HA := HA.call hb2
    replace HC := HC.call hb2
    replace HO := HO.call hb2
    have lw2 : w.heap.size ≤ w2.heap.size := bw.size
    clear hb2
    go_wp2_with fail
    refine ⟨⟨HA, bw⟩, ?_⟩
    repeat ((first | with_reducible apply eag_move | with_reducible apply eag_assign | ((with_reducible refine eag_soft (v := ?_) (fun w' hw' => ?_) ?_); rotate_left 1; (focus (obtain ⟨hA, hBw⟩ := hw'; obtain ⟨hcA, hfA⟩ := hA.facts; go_simp; (try with_reducible rfl); done)))); simp only [Act.put, Act.eval, qs])
    refine eag_hard ?_
    go_wp2_with fail
    have PA := HA
    have PC := HC
    have PO := HO
    have Pbw := bw
    have ltAF : w.heap.size < w2.heap.size := by (have := HA.lt; (try simp only [World.size_alloc, World.size_setCell, World.size_drew] at this); omega)
    have ltCF : (w.heap.size + 1) < w2.heap.size := by (have := HC.lt; (try simp only [World.size_alloc, World.size_setCell, World.size_drew] at this); omega)
    have ltOF : (w.heap.size + 2) < w2.heap.size := by (have := HO.lt; (try simp only [World.size_alloc, World.size_setCell, World.size_drew] at this); omega)
    replace HA : Hd (w2.alloc (.cells #[.bool (En.over a a 1073741824).neg, .int .u64 (En.over a a 1073741824).hi, .int .u64 (En.over a a 1073741824).lo, .int .u64 (En.over a a 1073741824).c, .bool (En.over b b 1073741824).neg, .int .u64 (En.over b b 1073741824).hi, .int .u64 (En.over b b 1073741824).lo, .int .u64 (En.over b b 1073741824).c] 111)) w.heap.size 23 #[.int .i64 a, .int .i64 b] := hdx
    replace HC : Hd (w2.alloc (.cells #[.bool (En.over a a 1073741824).neg, .int .u64 (En.over a a 1073741824).hi, .int .u64 (En.over a a 1073741824).lo, .int .u64 (En.over a a 1073741824).c, .bool (En.over b b 1073741824).neg, .int .u64 (En.over b b 1073741824).hi, .int .u64 (En.over b b 1073741824).lo, .int .u64 (En.over b b 1073741824).c] 111)) (w.heap.size + 1) 23 #[.int .i64 0, .int .i64 0] := hdx
    replace HO : Hd (w2.alloc (.cells #[.bool (En.over a a 1073741824).neg, .int .u64 (En.over a a 1073741824).hi, .int .u64 (En.over a a 1073741824).lo, .int .u64 (En.over a a 1073741824).c, .bool (En.over b b 1073741824).neg, .int .u64 (En.over b b 1073741824).hi, .int .u64 (En.over b b 1073741824).lo, .int .u64 (En.over b b 1073741824).c] 111)) (w.heap.size + 2) 23 #[.int .i64 0, .int .i64 0] := hdx
    replace bw : Below w.heap.size w (w2.alloc (.cells #[.bool (En.over a a 1073741824).neg, .int .u64 (En.over a a 1073741824).hi, .int .u64 (En.over a a 1073741824).lo, .int .u64 (En.over a a 1073741824).c, .bool (En.over b b 1073741824).neg, .int .u64 (En.over b b 1073741824).hi, .int .u64 (En.over b b 1073741824).lo, .int .u64 (En.over b b 1073741824).c] 111)) := by go_grown
    have HF : Hd (w2.alloc (.cells #[.bool (En.over a a 1073741824).neg, .int .u64 (En.over a a 1073741824).hi, .int .u64 (En.over a a 1073741824).lo, .int .u64 (En.over a a 1073741824).c, .bool (En.over b b 1073741824).neg, .int .u64 (En.over b b 1073741824).hi, .int .u64 (En.over b b 1073741824).lo, .int .u64 (En.over b b 1073741824).c] 111)) w2.heap.size 111 #[.bool (En.over a a 1073741824).neg, .int .u64 (En.over a a 1073741824).hi, .int .u64 (En.over a a 1073741824).lo, .int .u64 (En.over a a 1073741824).c, .bool (En.over b b 1073741824).neg, .int .u64 (En.over b b 1073741824).hi, .int .u64 (En.over b b 1073741824).lo, .int .u64 (En.over b b 1073741824).c] := hdx
    refine ⟨⟨HA, bw⟩, ?_⟩
    repeat ((first | with_reducible apply eag_move | with_reducible apply eag_assign | ((with_reducible refine eag_soft (v := ?_) (fun w' hw' => ?_) ?_); rotate_left 1; (focus (obtain ⟨hA, hBw⟩ := hw'; obtain ⟨hcA, hfA⟩ := hA.facts; go_simp; (try with_reducible rfl); done)))); simp only [Act.put, Act.eval, qs])
    refine eag_hard ?_
    go_wp2_with fail
    refine (show Calls _ _ _ _ (Post spV (En.squareOut ⟨a, b⟩) _) from around2_any (En.over a a 1073741824) (En.over b b 1073741824) (by apply En.over_wf <;> omega) (by apply En.over_wf <;> omega) _ _ _ HF).mono ?_
    intro e w3 hp
    obtain ⟨hb3, hcase⟩ := hp.cases
    clear hp
    replace bw : Below w.heap.size w w3 := below_next bw hb3
    replace HA := HA.call hb3
    replace HC := HC.call hb3
    replace HO := HO.call hb3
    replace HF := HF.call hb3
    have lw3 : w.heap.size ≤ w3.heap.size := bw.size
    clear hb3
    rcases hcase with ⟨s3, hs3, rfl⟩ | ⟨c3, hs3, rfl⟩
    rotate_left
    · exact ⟨rfl, post_err (by simp only [En.square, ebind_ok, ebind_err, epure, hs3]) bw⟩
    go_wp2_with fail
    refine ⟨⟨HA, bw⟩, ?_⟩
    repeat ((first | with_reducible apply eag_move | with_reducible apply eag_assign | ((with_reducible refine eag_soft (v := ?_) (fun w' hw' => ?_) ?_); rotate_left 1; (focus (obtain ⟨hA, hBw⟩ := hw'; obtain ⟨hcA, hfA⟩ := hA.facts; go_simp; (try with_reducible rfl); done)))); simp only [Act.put, Act.eval, qs])
    refine eag_hard ?_
    obtain ⟨hcO, hfO⟩ := HO.facts
    go_wp2_with fail
    replace HA : Hd ((w3.setCell ⟨(w.heap.size + 2), 0, none⟩ (.int .i64 s3.lo)).setCell ⟨(w.heap.size + 2), 1, none⟩ (.int .i64 s3.hi)) w.heap.size 23 #[.int .i64 a, .int .i64 b] := hdx
    replace HC : Hd ((w3.setCell ⟨(w.heap.size + 2), 0, none⟩ (.int .i64 s3.lo)).setCell ⟨(w.heap.size + 2), 1, none⟩ (.int .i64 s3.hi)) (w.heap.size + 1) 23 #[.int .i64 0, .int .i64 0] := hdx
    replace HO : Hd ((w3.setCell ⟨(w.heap.size + 2), 0, none⟩ (.int .i64 s3.lo)).setCell ⟨(w.heap.size + 2), 1, none⟩ (.int .i64 s3.hi)) (w.heap.size + 2) 23 #[.int .i64 s3.lo, .int .i64 s3.hi] := hdx
    replace HF : Hd ((w3.setCell ⟨(w.heap.size + 2), 0, none⟩ (.int .i64 s3.lo)).setCell ⟨(w.heap.size + 2), 1, none⟩ (.int .i64 s3.hi)) w2.heap.size 111 #[.bool (En.over a a 1073741824).neg, .int .u64 (En.over a a 1073741824).hi, .int .u64 (En.over a a 1073741824).lo, .int .u64 (En.over a a 1073741824).c, .bool (En.over b b 1073741824).neg, .int .u64 (En.over b b 1073741824).hi, .int .u64 (En.over b b 1073741824).lo, .int .u64 (En.over b b 1073741824).c] := hdx
    replace bw : Below w.heap.size w ((w3.setCell ⟨(w.heap.size + 2), 0, none⟩ (.int .i64 s3.lo)).setCell ⟨(w.heap.size + 2), 1, none⟩ (.int .i64 s3.hi)) := by go_grown
    refine ⟨⟨HA, bw⟩, ?_⟩
    repeat ((first | with_reducible apply eag_move | with_reducible apply eag_assign | ((with_reducible refine eag_soft (v := ?_) (fun w' hw' => ?_) ?_); rotate_left 1; (focus (obtain ⟨hA, hBw⟩ := hw'; obtain ⟨hcA, hfA⟩ := hA.facts; go_simp; (try with_reducible rfl); done)))); simp only [Act.put, Act.eval, qs])
    refine eag_nil ?_
    generalize hW : (w3.setCell ⟨(w.heap.size + 2), 0, none⟩ (.int .i64 s3.lo)).setCell ⟨(w.heap.size + 2), 1, none⟩ (.int .i64 s3.hi) = w4 at HA HC HO HF bw ⊢
    clear hW
    have lw4 : w.heap.size ≤ w4.heap.size := bw.size
    obtain ⟨hcA, hfA⟩ := HA.facts
    obtain ⟨hcO, hfO⟩ := HO.facts
    obtain ⟨hcC, hfC⟩ := HC.facts
    by_cases hz : a ≤ 0
    · by_cases hz2 : 0 ≤ b
      · have hcd := Lib.hid (And.intro hz hz2)
        go_wp2
        refine bodyPost_ret (run_results1 rfl rfl (by (show Hd _ (w.heap.size + 1) 23 #[.int .i64 0, .int .i64 s3.hi]); exact hdx) Try.underlying23 rfl (by kernel_rfl)) rfl (post_ok (s := ⟨0, s3.hi⟩) (by simp only [En.square, ebind_ok, epure, hs3]; rw [if_pos hcd.out]) (by go_grown))
      · have hcd := Lib.hid (fun h : a ≤ 0 ∧ 0 ≤ b => hz2 h.2)
        go_wp2
        refine bodyPost_ret (run_results1 rfl rfl (by (show Hd _ (w.heap.size + 1) 23 #[.int .i64 s3.lo, .int .i64 s3.hi]); exact hdx) Try.underlying23 rfl (by kernel_rfl)) rfl (post_ok (s := ⟨s3.lo, s3.hi⟩) (by simp only [En.square, ebind_ok, epure, hs3]; rw [if_neg hcd.out]) (by go_grown))
    · have hcd := Lib.hid (fun h : a ≤ 0 ∧ 0 ≤ b => hz h.1)
      go_wp2
      refine bodyPost_ret (run_results1 rfl rfl (by (show Hd _ (w.heap.size + 1) 23 #[.int .i64 s3.lo, .int .i64 s3.hi]); exact hdx) Try.underlying23 rfl (by kernel_rfl)) rfl (post_ok (s := ⟨s3.lo, s3.hi⟩) (by simp only [En.square, ebind_ok, epure, hs3]; rw [if_neg hcd.out]) (by go_grown))

theorem power_any (x : En.Rc) (hx : x.fit) (w : World) : Calls Try.prog 81 #[rcV x] w (Post spV (En.power x) w) := by
  go_enter Try.func81, Try.ntmps81
  go_wp2
  have HA : Hd (((w.alloc (.cells #[.int .i64 x.re.lo, .int .i64 x.re.hi, .int .i64 x.im.lo, .int .i64 x.im.hi] 25)).alloc (.cells #[.int .i64 0, .int .i64 0] 23)).drew) w.heap.size 25 #[.int .i64 x.re.lo, .int .i64 x.re.hi, .int .i64 x.im.lo, .int .i64 x.im.hi] := hdx
  have HC : Hd (((w.alloc (.cells #[.int .i64 x.re.lo, .int .i64 x.re.hi, .int .i64 x.im.lo, .int .i64 x.im.hi] 25)).alloc (.cells #[.int .i64 0, .int .i64 0] 23)).drew) (w.heap.size + 1) 23 #[.int .i64 0, .int .i64 0] := hdx
  have bw : Below w.heap.size w (((w.alloc (.cells #[.int .i64 x.re.lo, .int .i64 x.re.hi, .int .i64 x.im.lo, .int .i64 x.im.hi] 25)).alloc (.cells #[.int .i64 0, .int .i64 0] 23)).drew) := by go_grown
  (refine wp_region_eag (fun w' => Hd w' w.heap.size 25 #[.int .i64 x.re.lo, .int .i64 x.re.hi, .int .i64 x.im.lo, .int .i64 x.im.hi] ∧ Below w.heap.size w w') [(0, true), (1, true), (3, true), (4, true), (2, false), (5, false), (6, false), (7, false)] (by kernel_rfl) (by kernel_rfl) (fun c d v a w h => by cases d <;> exact h) ⟨HA, bw⟩ ?_; simp only [List.map_cons, List.map_nil, List.getD_cons_zero, List.getD_cons_succ, flMark, Nat.reduceEqDiff, ↓reduceIte])
  repeat ((first | with_reducible apply eag_move | with_reducible apply eag_assign | ((with_reducible refine eag_soft (v := ?_) (fun w' hw' => ?_) ?_); rotate_left 1; (focus (obtain ⟨hA, hBw⟩ := hw'; obtain ⟨hcA, hfA⟩ := hA.facts; go_simp; (try with_reducible rfl); done)))); simp only [Act.put, Act.eval, qs])
  refine eag_hard ?_
  go_wp2_with fail
  refine (square_any x.re hx.re _).mono ?_
  intro e w1 hp
  obtain ⟨hb1, hcase⟩ := hp.cases
  clear hp
  replace bw : Below w.heap.size w w1 := below_next bw hb1
  replace HA := HA.call hb1
  replace HC := HC.call hb1
  have lw1 : w.heap.size ≤ w1.heap.size := bw.size
  clear hb1
  rcases hcase with ⟨s1, hs1, rfl⟩ | ⟨c1, hs1, rfl⟩
  rotate_left
  · exact ⟨rfl, post_err (by simp only [En.power, ebind_ok, ebind_err, epure, hs1]) bw⟩
  go_wp2_with fail
  refine ⟨⟨HA, bw⟩, ?_⟩
  repeat ((first | with_reducible apply eag_move | with_reducible apply eag_assign | ((with_reducible refine eag_soft (v := ?_) (fun w' hw' => ?_) ?_); rotate_left 1; (focus (obtain ⟨hA, hBw⟩ := hw'; obtain ⟨hcA, hfA⟩ := hA.facts; go_simp; (try with_reducible rfl); done)))); simp only [Act.put, Act.eval, qs])
  refine eag_hard ?_
  go_wp2_with fail
  refine (square_any x.im hx.im _).mono ?_
  intro e w2 hp
  obtain ⟨hb2, hcase⟩ := hp.cases
  clear hp
  replace bw : Below w.heap.size w w2 := below_next bw hb2
  replace HA := HA.call hb2
  replace HC := HC.call hb2
  have lw2 : w.heap.size ≤ w2.heap.size := bw.size
  clear hb2
  rcases hcase with ⟨s2, hs2, rfl⟩ | ⟨c2, hs2, rfl⟩
  rotate_left
  · exact ⟨rfl, post_err (by simp only [En.power, ebind_ok, ebind_err, epure, hs1, hs2]) bw⟩
  go_wp2_with fail
  refine ⟨⟨HA, bw⟩, ?_⟩
  repeat ((first | with_reducible apply eag_move | with_reducible apply eag_assign | ((with_reducible refine eag_soft (v := ?_) (fun w' hw' => ?_) ?_); rotate_left 1; (focus (obtain ⟨hA, hBw⟩ := hw'; obtain ⟨hcA, hfA⟩ := hA.facts; go_simp; (try with_reducible rfl); done)))); simp only [Act.put, Act.eval, qs])
  refine eag_hard ?_
  go_wp2_with fail
  refine (add_any s1 s2 (En.Sp.fit_of_ok (En.square_ok hs1)) (En.Sp.fit_of_ok (En.square_ok hs2)) _).mono ?_
  intro e w3 hp
  obtain ⟨hb3, hcase⟩ := hp.cases
  clear hp
  replace bw : Below w.heap.size w w3 := below_next bw hb3
  replace HA := HA.call hb3
  replace HC := HC.call hb3
  have lw3 : w.heap.size ≤ w3.heap.size := bw.size
  clear hb3
  rcases hcase with ⟨s3, hs3, rfl⟩ | ⟨c3, hs3, rfl⟩
  rotate_left
  · exact ⟨rfl, post_err (by simp only [En.power, ebind_ok, ebind_err, epure, hs1, hs2, hs3]) bw⟩
  go_wp2_with fail
  refine ⟨⟨HA, bw⟩, ?_⟩
  repeat ((first | with_reducible apply eag_move | with_reducible apply eag_assign | ((with_reducible refine eag_soft (v := ?_) (fun w' hw' => ?_) ?_); rotate_left 1; (focus (obtain ⟨hA, hBw⟩ := hw'; obtain ⟨hcA, hfA⟩ := hA.facts; go_simp; (try with_reducible rfl); done)))); simp only [Act.put, Act.eval, qs])
  obtain ⟨hcC, hfC⟩ := HC.facts
  refine eag_hard ?_
  go_wp2_with fail
  refine ⟨⟨by exact hdx, by go_grown⟩, ?_⟩
  refine eag_nil ?_
  go_wp2
  refine bodyPost_ret (run_results1 rfl rfl (by (show Hd _ (w.heap.size + 1) 23 #[.int .i64 s3.lo, .int .i64 s3.hi]); exact hdx) Try.underlying23 rfl (by kernel_rfl)) rfl (post_ok (by simp only [En.power, ebind_ok, ebind_err, epure, hs1, hs2, hs3]) (by go_grown))

end Go.Proofs.Ytpbbbfglecbceaa
