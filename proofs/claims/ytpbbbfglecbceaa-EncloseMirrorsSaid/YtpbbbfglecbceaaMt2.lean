/- Several texts in one. -/
import Derived.Test.YtpbbbfglecbceaaMt1
import Derived.Defers
import Derived.Recover
/- Package enclose: squares. -/
namespace Go.Proofs.Ytpbbbfglecbceaa
set_option linter.all false
open Go.RowKit

set_option maxHeartbeats 4000000 in
theorem square_any (s : En.Sp) (hs : s.fit) (w : World) : Calls Try.prog 123 #[spV s] w (Post spV (En.square s) w) := by
  obtain ⟨a, b⟩ := s
  obtain ⟨a1, a2, b1, b2⟩ := hs
  dsimp only at a1 a2 b1 b2
  go_enter Try.func123, Try.ntmps123
  go_wp2
  have HA : Hd (((w.alloc (.cells #[.int .i64 a, .int .i64 b] 23)).alloc (.cells #[.int .i64 0, .int .i64 0] 23)).drew) w.heap.size 23 #[.int .i64 a, .int .i64 b] := hdx
  have HC : Hd (((w.alloc (.cells #[.int .i64 a, .int .i64 b] 23)).alloc (.cells #[.int .i64 0, .int .i64 0] 23)).drew) (w.heap.size + 1) 23 #[.int .i64 0, .int .i64 0] := hdx
  have bw : Below w.heap.size w (((w.alloc (.cells #[.int .i64 a, .int .i64 b] 23)).alloc (.cells #[.int .i64 0, .int .i64 0] 23)).drew) := by go_grown
  (refine wp_region_fl (fun w' => Hd w' w.heap.size 23 #[.int .i64 a, .int .i64 b] ∧ Below w.heap.size w w') 12 [(0, 0), (1, 0), (2, 0), (3, 0), (5, 0), (6, 0), (7, 0), (8, 0), (4, 2), (9, 2), (10, 2), (11, 2), (12, 1), (13, 1)] (by kernel_rfl) (by kernel_rfl) (fun c d v a w h => by cases d <;> exact h) ⟨HA, bw⟩ ?_; simp only [List.map_cons, List.map_nil, List.getD_cons_zero, List.getD_cons_succ, flMark, Nat.reduceEqDiff, ↓reduceIte])
  repeat ((first | with_reducible apply fl_move | with_reducible apply fl_assign | ((with_reducible refine fl_soft (v := ?_) (fun w' hw' => ?_) ?_); rotate_left 1; (focus (obtain ⟨hA, hBw⟩ := hw'; obtain ⟨hcA, hfA⟩ := hA.facts; go_simp; (try with_reducible rfl); done)))); simp only [Act.put, Act.eval, qs])
  refine fl_both ?_ ?_
  · go_wp2_with fail
    refine (over_any a a 1073741824 (by omega) (by omega) (by omega) (by omega) (by omega) (by omega) _).mono ?_
    rintro e w1 ⟨rfl, hb1⟩
    replace bw : Below w.heap.size w w1 := below_next bw hb1
    replace HA := HA.call hb1
    replace HC := HC.call hb1
    have lw1 : w.heap.size ≤ w1.heap.size := bw.size
    clear hb1
    go_wp2_with fail
    refine ⟨⟨HA, bw⟩, ?_⟩
    repeat ((first | with_reducible apply fl_move | with_reducible apply fl_assign | ((with_reducible refine fl_soft (v := ?_) (fun w' hw' => ?_) ?_); rotate_left 1; (focus (obtain ⟨hA, hBw⟩ := hw'; obtain ⟨hcA, hfA⟩ := hA.facts; go_simp; (try with_reducible rfl); done)))); simp only [Act.put, Act.eval, qs])
    refine fl_both ?_ ?_
    · go_wp2_with fail
      refine (over_any b b 1073741824 (by omega) (by omega) (by omega) (by omega) (by omega) (by omega) _).mono ?_
      rintro e w2 ⟨rfl, hb2⟩
      replace bw : Below w.heap.size w w2 := below_next bw hb2
      replace HA := HA.call hb2
      replace HC := HC.call hb2
      have lw2 : w.heap.size ≤ w2.heap.size := bw.size
      clear hb2
      go_wp2_with fail
      refine ⟨⟨HA, bw⟩, ?_⟩
      repeat ((first | with_reducible apply fl_move | with_reducible apply fl_assign | ((with_reducible refine fl_soft (v := ?_) (fun w' hw' => ?_) ?_); rotate_left 1; (focus (obtain ⟨hA, hBw⟩ := hw'; obtain ⟨hcA, hfA⟩ := hA.facts; go_simp; (try with_reducible rfl); done)))); simp only [Act.put, Act.eval, qs])
      refine fl_both ?_ ?_
      · go_wp2_with fail
        have PA := HA
        have PC := HC
        have Pbw := bw
        have ltAF : w.heap.size < w2.heap.size := by (have := HA.lt; (try simp only [World.size_alloc, World.size_setCell, World.size_drew] at this); omega)
        have ltCF : (w.heap.size + 1) < w2.heap.size := by (have := HC.lt; (try simp only [World.size_alloc, World.size_setCell, World.size_drew] at this); omega)
        replace HA : Hd (w2.alloc (.cells #[.bool (En.over a a 1073741824).neg, .int .u64 (En.over a a 1073741824).hi, .int .u64 (En.over a a 1073741824).lo, .int .u64 (En.over a a 1073741824).c, .bool (En.over b b 1073741824).neg, .int .u64 (En.over b b 1073741824).hi, .int .u64 (En.over b b 1073741824).lo, .int .u64 (En.over b b 1073741824).c] 111)) w.heap.size 23 #[.int .i64 a, .int .i64 b] := hdx
        replace HC : Hd (w2.alloc (.cells #[.bool (En.over a a 1073741824).neg, .int .u64 (En.over a a 1073741824).hi, .int .u64 (En.over a a 1073741824).lo, .int .u64 (En.over a a 1073741824).c, .bool (En.over b b 1073741824).neg, .int .u64 (En.over b b 1073741824).hi, .int .u64 (En.over b b 1073741824).lo, .int .u64 (En.over b b 1073741824).c] 111)) (w.heap.size + 1) 23 #[.int .i64 0, .int .i64 0] := hdx
        replace bw : Below w.heap.size w (w2.alloc (.cells #[.bool (En.over a a 1073741824).neg, .int .u64 (En.over a a 1073741824).hi, .int .u64 (En.over a a 1073741824).lo, .int .u64 (En.over a a 1073741824).c, .bool (En.over b b 1073741824).neg, .int .u64 (En.over b b 1073741824).hi, .int .u64 (En.over b b 1073741824).lo, .int .u64 (En.over b b 1073741824).c] 111)) := by go_grown
        have HF : Hd (w2.alloc (.cells #[.bool (En.over a a 1073741824).neg, .int .u64 (En.over a a 1073741824).hi, .int .u64 (En.over a a 1073741824).lo, .int .u64 (En.over a a 1073741824).c, .bool (En.over b b 1073741824).neg, .int .u64 (En.over b b 1073741824).hi, .int .u64 (En.over b b 1073741824).lo, .int .u64 (En.over b b 1073741824).c] 111)) w2.heap.size 111 #[.bool (En.over a a 1073741824).neg, .int .u64 (En.over a a 1073741824).hi, .int .u64 (En.over a a 1073741824).lo, .int .u64 (En.over a a 1073741824).c, .bool (En.over b b 1073741824).neg, .int .u64 (En.over b b 1073741824).hi, .int .u64 (En.over b b 1073741824).lo, .int .u64 (En.over b b 1073741824).c] := hdx
        refine ⟨⟨HA, bw⟩, ?_⟩
        repeat ((first | with_reducible apply fl_move | with_reducible apply fl_assign | ((with_reducible refine fl_soft (v := ?_) (fun w' hw' => ?_) ?_); rotate_left 1; (focus (obtain ⟨hA, hBw⟩ := hw'; obtain ⟨hcA, hfA⟩ := hA.facts; go_simp; (try with_reducible rfl); done)))); simp only [Act.put, Act.eval, qs])
        refine fl_both ?_ ?_
        · go_wp2_with fail
          refine (show Calls _ _ _ _ (Post spV (En.squareOut ⟨a, b⟩) _) from around2_any (En.over a a 1073741824) (En.over b b 1073741824) (by apply En.over_wf <;> omega) (by apply En.over_wf <;> omega) _ _ _ HF).mono ?_
          intro e w3 hp
          obtain ⟨hb3, hcase⟩ := hp.cases
          clear hp
          replace bw : Below w.heap.size w w3 := below_next bw hb3
          replace HA := HA.call hb3
          replace HC := HC.call hb3
          replace HF := HF.call hb3
          have lw3 : w.heap.size ≤ w3.heap.size := bw.size
          clear hb3
          rcases hcase with ⟨s3, hs3, rfl⟩ | ⟨c3, hs3, rfl⟩
          rotate_left
          · exact ⟨rfl, post_err (by simp only [En.square, ebind_ok, ebind_err, epure, hs3]) bw⟩
          go_wp2_with fail
          refine ⟨⟨HA, bw⟩, ?_⟩
          repeat ((first | with_reducible apply fl_move | with_reducible apply fl_assign | ((with_reducible refine fl_soft (v := ?_) (fun w' hw' => ?_) ?_); rotate_left 1; (focus (obtain ⟨hA, hBw⟩ := hw'; obtain ⟨hcA, hfA⟩ := hA.facts; go_simp; (try with_reducible rfl); done)))); simp only [Act.put, Act.eval, qs])
          refine fl_must ?_
          go_wp2_with fail
          have PA := HA
          have PC := HC
          have PF := HF
          have Pbw := bw
          have ltAO : w.heap.size < w3.heap.size := by (have := HA.lt; (try simp only [World.size_alloc, World.size_setCell, World.size_drew] at this); omega)
          have ltCO : (w.heap.size + 1) < w3.heap.size := by (have := HC.lt; (try simp only [World.size_alloc, World.size_setCell, World.size_drew] at this); omega)
          have ltFO : w2.heap.size < w3.heap.size := by (have := HF.lt; (try simp only [World.size_alloc, World.size_setCell, World.size_drew] at this); omega)
          replace HA : Hd (w3.alloc (.cells #[.int .i64 0, .int .i64 0] 23)) w.heap.size 23 #[.int .i64 a, .int .i64 b] := hdx
          replace HC : Hd (w3.alloc (.cells #[.int .i64 0, .int .i64 0] 23)) (w.heap.size + 1) 23 #[.int .i64 0, .int .i64 0] := hdx
          replace HF : Hd (w3.alloc (.cells #[.int .i64 0, .int .i64 0] 23)) w2.heap.size 111 #[.bool (En.over a a 1073741824).neg, .int .u64 (En.over a a 1073741824).hi, .int .u64 (En.over a a 1073741824).lo, .int .u64 (En.over a a 1073741824).c, .bool (En.over b b 1073741824).neg, .int .u64 (En.over b b 1073741824).hi, .int .u64 (En.over b b 1073741824).lo, .int .u64 (En.over b b 1073741824).c] := hdx
          replace bw : Below w.heap.size w (w3.alloc (.cells #[.int .i64 0, .int .i64 0] 23)) := by go_grown
          have HO : Hd (w3.alloc (.cells #[.int .i64 0, .int .i64 0] 23)) w3.heap.size 23 #[.int .i64 0, .int .i64 0] := hdx
          refine ⟨⟨HA, bw⟩, ?_⟩
          repeat ((first | with_reducible apply fl_move | with_reducible apply fl_assign | ((with_reducible refine fl_soft (v := ?_) (fun w' hw' => ?_) ?_); rotate_left 1; (focus (obtain ⟨hA, hBw⟩ := hw'; obtain ⟨hcA, hfA⟩ := hA.facts; go_simp; (try with_reducible rfl); done)))); simp only [Act.put, Act.eval, qs])
          repeat ((first | with_reducible apply fl_move | with_reducible apply fl_assign | ((with_reducible refine fl_soft (v := ?_) (fun w' hw' => ?_) ?_); rotate_left 1; (focus (obtain ⟨hA, hBw⟩ := hw'; obtain ⟨hcA, hfA⟩ := hA.facts; go_simp; (try with_reducible rfl); done)))); simp only [Act.put, Act.eval, qs])
          refine fl_hard ?_
          obtain ⟨hcO, hfO⟩ := HO.facts
          go_wp2_with fail
          replace HA : Hd (w3.alloc (.cells #[.int .i64 s3.lo, .int .i64 s3.hi] 23)) w.heap.size 23 #[.int .i64 a, .int .i64 b] := hdx
          replace HC : Hd (w3.alloc (.cells #[.int .i64 s3.lo, .int .i64 s3.hi] 23)) (w.heap.size + 1) 23 #[.int .i64 0, .int .i64 0] := hdx
          replace HF : Hd (w3.alloc (.cells #[.int .i64 s3.lo, .int .i64 s3.hi] 23)) w2.heap.size 111 #[.bool (En.over a a 1073741824).neg, .int .u64 (En.over a a 1073741824).hi, .int .u64 (En.over a a 1073741824).lo, .int .u64 (En.over a a 1073741824).c, .bool (En.over b b 1073741824).neg, .int .u64 (En.over b b 1073741824).hi, .int .u64 (En.over b b 1073741824).lo, .int .u64 (En.over b b 1073741824).c] := hdx
          replace HO : Hd (w3.alloc (.cells #[.int .i64 s3.lo, .int .i64 s3.hi] 23)) w3.heap.size 23 #[.int .i64 s3.lo, .int .i64 s3.hi] := hdx
          replace bw : Below w.heap.size w (w3.alloc (.cells #[.int .i64 s3.lo, .int .i64 s3.hi] 23)) := by go_grown
          refine ⟨⟨HA, bw⟩, ?_⟩
          repeat ((first | with_reducible apply fl_move | with_reducible apply fl_assign | ((with_reducible refine fl_soft (v := ?_) (fun w' hw' => ?_) ?_); rotate_left 1; (focus (obtain ⟨hA, hBw⟩ := hw'; obtain ⟨hcA, hfA⟩ := hA.facts; go_simp; (try with_reducible rfl); done)))); simp only [Act.put, Act.eval, qs])
          refine fl_nil ?_
          generalize hW : w3.alloc (.cells #[.int .i64 s3.lo, .int .i64 s3.hi] 23) = w4 at HA HC HF HO bw ⊢
          clear hW
          have lw4 : w.heap.size ≤ w4.heap.size := bw.size
          obtain ⟨hcA, hfA⟩ := HA.facts
          obtain ⟨hcO, hfO⟩ := HO.facts
          obtain ⟨hcC, hfC⟩ := HC.facts
          by_cases hz : a ≤ 0
          · by_cases hz2 : 0 ≤ b
            · have hcd := Lib.hid (And.intro hz hz2)
              go_wp2
              refine bodyPost_ret (run_results1 rfl rfl (by (show Hd _ (w.heap.size + 1) 23 #[.int .i64 0, .int .i64 s3.hi]); exact hdx) Try.underlying23 rfl (by kernel_rfl)) rfl (post_ok (s := ⟨0, s3.hi⟩) (by simp only [En.square, ebind_ok, epure, hs3]; rw [if_pos hcd.out]) (by go_grown))
            · have hcd := Lib.hid (fun h : a ≤ 0 ∧ 0 ≤ b => hz2 h.2)
              go_wp2
              refine bodyPost_ret (run_results1 rfl rfl (by (show Hd _ (w.heap.size + 1) 23 #[.int .i64 s3.lo, .int .i64 s3.hi]); exact hdx) Try.underlying23 rfl (by kernel_rfl)) rfl (post_ok (s := ⟨s3.lo, s3.hi⟩) (by simp only [En.square, ebind_ok, epure, hs3]; rw [if_neg hcd.out]) (by go_grown))
          · have hcd := Lib.hid (fun h : a ≤ 0 ∧ 0 ≤ b => hz h.1)
            go_wp2
            refine bodyPost_ret (run_results1 rfl rfl (by (show Hd _ (w.heap.size + 1) 23 #[.int .i64 s3.lo, .int .i64 s3.hi]); exact hdx) Try.underlying23 rfl (by kernel_rfl)) rfl (post_ok (s := ⟨s3.lo, s3.hi⟩) (by simp only [En.square, ebind_ok, epure, hs3]; rw [if_neg hcd.out]) (by go_grown))
        · go_wp2_with fail
          have PA := HA
          have PC := HC
          have PF := HF
          have Pbw := bw
          have ltAO : w.heap.size < (w2.heap.size + 1) := by (have := HA.lt; (try simp only [World.size_alloc, World.size_setCell, World.size_drew] at this); omega)
          have ltCO : (w.heap.size + 1) < (w2.heap.size + 1) := by (have := HC.lt; (try simp only [World.size_alloc, World.size_setCell, World.size_drew] at this); omega)
          have ltFO : w2.heap.size < (w2.heap.size + 1) := by (have := HF.lt; (try simp only [World.size_alloc, World.size_setCell, World.size_drew] at this); omega)
          replace HA : Hd ((w2.alloc (.cells #[.bool (En.over a a 1073741824).neg, .int .u64 (En.over a a 1073741824).hi, .int .u64 (En.over a a 1073741824).lo, .int .u64 (En.over a a 1073741824).c, .bool (En.over b b 1073741824).neg, .int .u64 (En.over b b 1073741824).hi, .int .u64 (En.over b b 1073741824).lo, .int .u64 (En.over b b 1073741824).c] 111)).alloc (.cells #[.int .i64 0, .int .i64 0] 23)) w.heap.size 23 #[.int .i64 a, .int .i64 b] := hdx
          replace HC : Hd ((w2.alloc (.cells #[.bool (En.over a a 1073741824).neg, .int .u64 (En.over a a 1073741824).hi, .int .u64 (En.over a a 1073741824).lo, .int .u64 (En.over a a 1073741824).c, .bool (En.over b b 1073741824).neg, .int .u64 (En.over b b 1073741824).hi, .int .u64 (En.over b b 1073741824).lo, .int .u64 (En.over b b 1073741824).c] 111)).alloc (.cells #[.int .i64 0, .int .i64 0] 23)) (w.heap.size + 1) 23 #[.int .i64 0, .int .i64 0] := hdx
          replace HF : Hd ((w2.alloc (.cells #[.bool (En.over a a 1073741824).neg, .int .u64 (En.over a a 1073741824).hi, .int .u64 (En.over a a 1073741824).lo, .int .u64 (En.over a a 1073741824).c, .bool (En.over b b 1073741824).neg, .int .u64 (En.over b b 1073741824).hi, .int .u64 (En.over b b 1073741824).lo, .int .u64 (En.over b b 1073741824).c] 111)).alloc (.cells #[.int .i64 0, .int .i64 0] 23)) w2.heap.size 111 #[.bool (En.over a a 1073741824).neg, .int .u64 (En.over a a 1073741824).hi, .int .u64 (En.over a a 1073741824).lo, .int .u64 (En.over a a 1073741824).c, .bool (En.over b b 1073741824).neg, .int .u64 (En.over b b 1073741824).hi, .int .u64 (En.over b b 1073741824).lo, .int .u64 (En.over b b 1073741824).c] := hdx
          replace bw : Below w.heap.size w ((w2.alloc (.cells #[.bool (En.over a a 1073741824).neg, .int .u64 (En.over a a 1073741824).hi, .int .u64 (En.over a a 1073741824).lo, .int .u64 (En.over a a 1073741824).c, .bool (En.over b b 1073741824).neg, .int .u64 (En.over b b 1073741824).hi, .int .u64 (En.over b b 1073741824).lo, .int .u64 (En.over b b 1073741824).c] 111)).alloc (.cells #[.int .i64 0, .int .i64 0] 23)) := by go_grown
          have HO : Hd ((w2.alloc (.cells #[.bool (En.over a a 1073741824).neg, .int .u64 (En.over a a 1073741824).hi, .int .u64 (En.over a a 1073741824).lo, .int .u64 (En.over a a 1073741824).c, .bool (En.over b b 1073741824).neg, .int .u64 (En.over b b 1073741824).hi, .int .u64 (En.over b b 1073741824).lo, .int .u64 (En.over b b 1073741824).c] 111)).alloc (.cells #[.int .i64 0, .int .i64 0] 23)) (w2.heap.size + 1) 23 #[.int .i64 0, .int .i64 0] := hdx
          refine ⟨⟨HA, bw⟩, ?_⟩
          repeat ((first | with_reducible apply eag_move | with_reducible apply eag_assign | ((with_reducible refine eag_soft (v := ?_) (fun w' hw' => ?_) ?_); rotate_left 1; (focus (obtain ⟨hA, hBw⟩ := hw'; obtain ⟨hcA, hfA⟩ := hA.facts; go_simp; (try with_reducible rfl); done)))); simp only [Act.put, Act.eval, qs])
          repeat ((first | with_reducible apply eag_move | with_reducible apply eag_assign | ((with_reducible refine eag_soft (v := ?_) (fun w' hw' => ?_) ?_); rotate_left 1; (focus (obtain ⟨hA, hBw⟩ := hw'; obtain ⟨hcA, hfA⟩ := hA.facts; go_simp; (try with_reducible rfl); done)))); simp only [Act.put, Act.eval, qs])
          refine eag_hard ?_
          go_wp2_with fail
          refine (show Calls _ _ _ _ (Post spV (En.squareOut ⟨a, b⟩) _) from around2_any (En.over a a 1073741824) (En.over b b 1073741824) (by apply En.over_wf <;> omega) (by apply En.over_wf <;> omega) _ _ _ HF).mono ?_
          intro e w3 hp
          obtain ⟨hb3, hcase⟩ := hp.cases
          clear hp
          replace bw : Below w.heap.size w w3 := below_next bw hb3
          replace HA := HA.call hb3
          replace HC := HC.call hb3
          replace HF := HF.call hb3
          replace HO := HO.call hb3
          have lw3 : w.heap.size ≤ w3.heap.size := bw.size
          clear hb3
          rcases hcase with ⟨s3, hs3, rfl⟩ | ⟨c3, hs3, rfl⟩
          rotate_left
          · exact ⟨rfl, post_err (by simp only [En.square, ebind_ok, ebind_err, epure, hs3]) bw⟩
          go_wp2_with fail
          refine ⟨⟨HA, bw⟩, ?_⟩
          repeat ((first | with_reducible apply eag_move | with_reducible apply eag_assign | ((with_reducible refine eag_soft (v := ?_) (fun w' hw' => ?_) ?_); rotate_left 1; (focus (obtain ⟨hA, hBw⟩ := hw'; obtain ⟨hcA, hfA⟩ := hA.facts; go_simp; (try with_reducible rfl); done)))); simp only [Act.put, Act.eval, qs])
          refine eag_hard ?_
          obtain ⟨hcO, hfO⟩ := HO.facts
          go_wp2_with fail
          replace HA : Hd ((w3.setCell ⟨(w2.heap.size + 1), 0, none⟩ (.int .i64 s3.lo)).setCell ⟨(w2.heap.size + 1), 1, none⟩ (.int .i64 s3.hi)) w.heap.size 23 #[.int .i64 a, .int .i64 b] := hdx
          replace HC : Hd ((w3.setCell ⟨(w2.heap.size + 1), 0, none⟩ (.int .i64 s3.lo)).setCell ⟨(w2.heap.size + 1), 1, none⟩ (.int .i64 s3.hi)) (w.heap.size + 1) 23 #[.int .i64 0, .int .i64 0] := hdx
          replace HF : Hd ((w3.setCell ⟨(w2.heap.size + 1), 0, none⟩ (.int .i64 s3.lo)).setCell ⟨(w2.heap.size + 1), 1, none⟩ (.int .i64 s3.hi)) w2.heap.size 111 #[.bool (En.over a a 1073741824).neg, .int .u64 (En.over a a 1073741824).hi, .int .u64 (En.over a a 1073741824).lo, .int .u64 (En.over a a 1073741824).c, .bool (En.over b b 1073741824).neg, .int .u64 (En.over b b 1073741824).hi, .int .u64 (En.over b b 1073741824).lo, .int .u64 (En.over b b 1073741824).c] := hdx
          replace HO : Hd ((w3.setCell ⟨(w2.heap.size + 1), 0, none⟩ (.int .i64 s3.lo)).setCell ⟨(w2.heap.size + 1), 1, none⟩ (.int .i64 s3.hi)) (w2.heap.size + 1) 23 #[.int .i64 s3.lo, .int .i64 s3.hi] := hdx
          replace bw : Below w.heap.size w ((w3.setCell ⟨(w2.heap.size + 1), 0, none⟩ (.int .i64 s3.lo)).setCell ⟨(w2.heap.size + 1), 1, none⟩ (.int .i64 s3.hi)) := by go_grown
          refine ⟨⟨HA, bw⟩, ?_⟩
          repeat ((first | with_reducible apply eag_move | with_reducible apply eag_assign | ((with_reducible refine eag_soft (v := ?_) (fun w' hw' => ?_) ?_); rotate_left 1; (focus (obtain ⟨hA, hBw⟩ := hw'; obtain ⟨hcA, hfA⟩ := hA.facts; go_simp; (try with_reducible rfl); done)))); simp only [Act.put, Act.eval, qs])
          refine eag_nil ?_
          generalize hW : (w3.setCell ⟨(w2.heap.size + 1), 0, none⟩ (.int .i64 s3.lo)).setCell ⟨(w2.heap.size + 1), 1, none⟩ (.int .i64 s3.hi) = w4 at HA HC HF HO bw ⊢
          clear hW
          have lw4 : w.heap.size ≤ w4.heap.size := bw.size
          obtain ⟨hcA, hfA⟩ := HA.facts
          obtain ⟨hcO, hfO⟩ := HO.facts
          obtain ⟨hcC, hfC⟩ := HC.facts
          by_cases hz : a ≤ 0
          · by_cases hz2 : 0 ≤ b
            · have hcd := Lib.hid (And.intro hz hz2)
              go_wp2
              refine bodyPost_ret (run_results1 rfl rfl (by (show Hd _ (w.heap.size + 1) 23 #[.int .i64 0, .int .i64 s3.hi]); exact hdx) Try.underlying23 rfl (by kernel_rfl)) rfl (post_ok (s := ⟨0, s3.hi⟩) (by simp only [En.square, ebind_ok, epure, hs3]; rw [if_pos hcd.out]) (by go_grown))
            · have hcd := Lib.hid (fun h : a ≤ 0 ∧ 0 ≤ b => hz2 h.2)
              go_wp2
              refine bodyPost_ret (run_results1 rfl rfl (by (show Hd _ (w.heap.size + 1) 23 #[.int .i64 s3.lo, .int .i64 s3.hi]); exact hdx) Try.underlying23 rfl (by kernel_rfl)) rfl (post_ok (s := ⟨s3.lo, s3.hi⟩) (by simp only [En.square, ebind_ok, epure, hs3]; rw [if_neg hcd.out]) (by go_grown))
          · have hcd := Lib.hid (fun h : a ≤ 0 ∧ 0 ≤ b => hz h.1)
            go_wp2
            refine bodyPost_ret (run_results1 rfl rfl (by (show Hd _ (w.heap.size + 1) 23 #[.int .i64 s3.lo, .int .i64 s3.hi]); exact hdx) Try.underlying23 rfl (by kernel_rfl)) rfl (post_ok (s := ⟨s3.lo, s3.hi⟩) (by simp only [En.square, ebind_ok, epure, hs3]; rw [if_neg hcd.out]) (by go_grown))
      · go_wp2_with fail
        have PA := HA
        have PC := HC
        have Pbw := bw
        have ltAO : w.heap.size < w2.heap.size := by (have := HA.lt; (try simp only [World.size_alloc, World.size_setCell, World.size_drew] at this); omega)
        have ltCO : (w.heap.size + 1) < w2.heap.size := by (have := HC.lt; (try simp only [World.size_alloc, World.size_setCell, World.size_drew] at this); omega)
        replace HA : Hd (w2.alloc (.cells #[.int .i64 0, .int .i64 0] 23)) w.heap.size 23 #[.int .i64 a, .int .i64 b] := hdx
        replace HC : Hd (w2.alloc (.cells #[.int .i64 0, .int .i64 0] 23)) (w.heap.size + 1) 23 #[.int .i64 0, .int .i64 0] := hdx
        replace bw : Below w.heap.size w (w2.alloc (.cells #[.int .i64 0, .int .i64 0] 23)) := by go_grown
        have HO : Hd (w2.alloc (.cells #[.int .i64 0, .int .i64 0] 23)) w2.heap.size 23 #[.int .i64 0, .int .i64 0] := hdx
        refine ⟨⟨HA, bw⟩, ?_⟩
        repeat ((first | with_reducible apply eag_move | with_reducible apply eag_assign | ((with_reducible refine eag_soft (v := ?_) (fun w' hw' => ?_) ?_); rotate_left 1; (focus (obtain ⟨hA, hBw⟩ := hw'; obtain ⟨hcA, hfA⟩ := hA.facts; go_simp; (try with_reducible rfl); done)))); simp only [Act.put, Act.eval, qs])
        repeat ((first | with_reducible apply eag_move | with_reducible apply eag_assign | ((with_reducible refine eag_soft (v := ?_) (fun w' hw' => ?_) ?_); rotate_left 1; (focus (obtain ⟨hA, hBw⟩ := hw'; obtain ⟨hcA, hfA⟩ := hA.facts; go_simp; (try with_reducible rfl); done)))); simp only [Act.put, Act.eval, qs])
        refine eag_hard ?_
        go_wp2_with fail
        have PA := HA
        have PC := HC
        have PO := HO
        have Pbw := bw
        have ltAF : w.heap.size < (w2.heap.size + 1) := by (have := HA.lt; (try simp only [World.size_alloc, World.size_setCell, World.size_drew] at this); omega)
        have ltCF : (w.heap.size + 1) < (w2.heap.size + 1) := by (have := HC.lt; (try simp only [World.size_alloc, World.size_setCell, World.size_drew] at this); omega)
        have ltOF : w2.heap.size < (w2.heap.size + 1) := by (have := HO.lt; (try simp only [World.size_alloc, World.size_setCell, World.size_drew] at this); omega)
        replace HA : Hd ((w2.alloc (.cells #[.int .i64 0, .int .i64 0] 23)).alloc (.cells #[.bool (En.over a a 1073741824).neg, .int .u64 (En.over a a 1073741824).hi, .int .u64 (En.over a a 1073741824).lo, .int .u64 (En.over a a 1073741824).c, .bool (En.over b b 1073741824).neg, .int .u64 (En.over b b 1073741824).hi, .int .u64 (En.over b b 1073741824).lo, .int .u64 (En.over b b 1073741824).c] 111)) w.heap.size 23 #[.int .i64 a, .int .i64 b] := hdx
        replace HC : Hd ((w2.alloc (.cells #[.int .i64 0, .int .i64 0] 23)).alloc (.cells #[.bool (En.over a a 1073741824).neg, .int .u64 (En.over a a 1073741824).hi, .int .u64 (En.over a a 1073741824).lo, .int .u64 (En.over a a 1073741824).c, .bool (En.over b b 1073741824).neg, .int .u64 (En.over b b 1073741824).hi, .int .u64 (En.over b b 1073741824).lo, .int .u64 (En.over b b 1073741824).c] 111)) (w.heap.size + 1) 23 #[.int .i64 0, .int .i64 0] := hdx
        replace HO : Hd ((w2.alloc (.cells #[.int .i64 0, .int .i64 0] 23)).alloc (.cells #[.bool (En.over a a 1073741824).neg, .int .u64 (En.over a a 1073741824).hi, .int .u64 (En.over a a 1073741824).lo, .int .u64 (En.over a a 1073741824).c, .bool (En.over b b 1073741824).neg, .int .u64 (En.over b b 1073741824).hi, .int .u64 (En.over b b 1073741824).lo, .int .u64 (En.over b b 1073741824).c] 111)) w2.heap.size 23 #[.int .i64 0, .int .i64 0] := hdx
        replace bw : Below w.heap.size w ((w2.alloc (.cells #[.int .i64 0, .int .i64 0] 23)).alloc (.cells #[.bool (En.over a a 1073741824).neg, .int .u64 (En.over a a 1073741824).hi, .int .u64 (En.over a a 1073741824).lo, .int .u64 (En.over a a 1073741824).c, .bool (En.over b b 1073741824).neg, .int .u64 (En.over b b 1073741824).hi, .int .u64 (En.over b b 1073741824).lo, .int .u64 (En.over b b 1073741824).c] 111)) := by go_grown
        have HF : Hd ((w2.alloc (.cells #[.int .i64 0, .int .i64 0] 23)).alloc (.cells #[.bool (En.over a a 1073741824).neg, .int .u64 (En.over a a 1073741824).hi, .int .u64 (En.over a a 1073741824).lo, .int .u64 (En.over a a 1073741824).c, .bool (En.over b b 1073741824).neg, .int .u64 (En.over b b 1073741824).hi, .int .u64 (En.over b b 1073741824).lo, .int .u64 (En.over b b 1073741824).c] 111)) (w2.heap.size + 1) 111 #[.bool (En.over a a 1073741824).neg, .int .u64 (En.over a a 1073741824).hi, .int .u64 (En.over a a 1073741824).lo, .int .u64 (En.over a a 1073741824).c, .bool (En.over b b 1073741824).neg, .int .u64 (En.over b b 1073741824).hi, .int .u64 (En.over b b 1073741824).lo, .int .u64 (En.over b b 1073741824).c] := hdx
        refine ⟨⟨HA, bw⟩, ?_⟩
        repeat ((first | with_reducible apply eag_move | with_reducible apply eag_assign | ((with_reducible refine eag_soft (v := ?_) (fun w' hw' => ?_) ?_); rotate_left 1; (focus (obtain ⟨hA, hBw⟩ := hw'; obtain ⟨hcA, hfA⟩ := hA.facts; go_simp; (try with_reducible rfl); done)))); simp only [Act.put, Act.eval, qs])
        refine eag_hard ?_
        go_wp2_with fail
        refine (show Calls _ _ _ _ (Post spV (En.squareOut ⟨a, b⟩) _) from around2_any (En.over a a 1073741824) (En.over b b 1073741824) (by apply En.over_wf <;> omega) (by apply En.over_wf <;> omega) _ _ _ HF).mono ?_
        intro e w3 hp
        obtain ⟨hb3, hcase⟩ := hp.cases
        clear hp
        replace bw : Below w.heap.size w w3 := below_next bw hb3
        replace HA := HA.call hb3
        replace HC := HC.call hb3
        replace HO := HO.call hb3
        replace HF := HF.call hb3
        have lw3 : w.heap.size ≤ w3.heap.size := bw.size
        clear hb3
        rcases hcase with ⟨s3, hs3, rfl⟩ | ⟨c3, hs3, rfl⟩
        rotate_left
        · exact ⟨rfl, post_err (by simp only [En.square, ebind_ok, ebind_err, epure, hs3]) bw⟩
        go_wp2_with fail
        refine ⟨⟨HA, bw⟩, ?_⟩
        repeat ((first | with_reducible apply eag_move | with_reducible apply eag_assign | ((with_reducible refine eag_soft (v := ?_) (fun w' hw' => ?_) ?_); rotate_left 1; (focus (obtain ⟨hA, hBw⟩ := hw'; obtain ⟨hcA, hfA⟩ := hA.facts; go_simp; (try with_reducible rfl); done)))); simp only [Act.put, Act.eval, qs])
        refine eag_hard ?_
        obtain ⟨hcO, hfO⟩ := HO.facts
        go_wp2_with fail
        replace HA : Hd ((w3.setCell ⟨w2.heap.size, 0, none⟩ (.int .i64 s3.lo)).setCell ⟨w2.heap.size, 1, none⟩ (.int .i64 s3.hi)) w.heap.size 23 #[.int .i64 a, .int .i64 b] := hdx
        replace HC : Hd ((w3.setCell ⟨w2.heap.size, 0, none⟩ (.int .i64 s3.lo)).setCell ⟨w2.heap.size, 1, none⟩ (.int .i64 s3.hi)) (w.heap.size + 1) 23 #[.int .i64 0, .int .i64 0] := hdx
        replace HO : Hd ((w3.setCell ⟨w2.heap.size, 0, none⟩ (.int .i64 s3.lo)).setCell ⟨w2.heap.size, 1, none⟩ (.int .i64 s3.hi)) w2.heap.size 23 #[.int .i64 s3.lo, .int .i64 s3.hi] := hdx
        replace HF : Hd ((w3.setCell ⟨w2.heap.size, 0, none⟩ (.int .i64 s3.lo)).setCell ⟨w2.heap.size, 1, none⟩ (.int .i64 s3.hi)) (w2.heap.size + 1) 111 #[.bool (En.over a a 1073741824).neg, .int .u64 (En.over a a 1073741824).hi, .int .u64 (En.over a a 1073741824).lo, .int .u64 (En.over a a 1073741824).c, .bool (En.over b b 1073741824).neg, .int .u64 (En.over b b 1073741824).hi, .int .u64 (En.over b b 1073741824).lo, .int .u64 (En.over b b 1073741824).c] := hdx
        replace bw : Below w.heap.size w ((w3.setCell ⟨w2.heap.size, 0, none⟩ (.int .i64 s3.lo)).setCell ⟨w2.heap.size, 1, none⟩ (.int .i64 s3.hi)) := by go_grown
        refine ⟨⟨HA, bw⟩, ?_⟩
        repeat ((first | with_reducible apply eag_move | with_reducible apply eag_assign | ((with_reducible refine eag_soft (v := ?_) (fun w' hw' => ?_) ?_); rotate_left 1; (focus (obtain ⟨hA, hBw⟩ := hw'; obtain ⟨hcA, hfA⟩ := hA.facts; go_simp; (try with_reducible rfl); done)))); simp only [Act.put, Act.eval, qs])
        refine eag_nil ?_
        generalize hW : (w3.setCell ⟨w2.heap.size, 0, none⟩ (.int .i64 s3.lo)).setCell ⟨w2.heap.size, 1, none⟩ (.int .i64 s3.hi) = w4 at HA HC HO HF bw ⊢
        clear hW
        have lw4 : w.heap.size ≤ w4.heap.size := bw.size
        obtain ⟨hcA, hfA⟩ := HA.facts
        obtain ⟨hcO, hfO⟩ := HO.facts
        obtain ⟨hcC, hfC⟩ := HC.facts
        by_cases hz : a ≤ 0
        · by_cases hz2 : 0 ≤ b
          · have hcd := Lib.hid (And.intro hz hz2)
            go_wp2
            refine bodyPost_ret (run_results1 rfl rfl (by (show Hd _ (w.heap.size + 1) 23 #[.int .i64 0, .int .i64 s3.hi]); exact hdx) Try.underlying23 rfl (by kernel_rfl)) rfl (post_ok (s := ⟨0, s3.hi⟩) (by simp only [En.square, ebind_ok, epure, hs3]; rw [if_pos hcd.out]) (by go_grown))
          · have hcd := Lib.hid (fun h : a ≤ 0 ∧ 0 ≤ b => hz2 h.2)
            go_wp2
            refine bodyPost_ret (run_results1 rfl rfl (by (show Hd _ (w.heap.size + 1) 23 #[.int .i64 s3.lo, .int .i64 s3.hi]); exact hdx) Try.underlying23 rfl (by kernel_rfl)) rfl (post_ok (s := ⟨s3.lo, s3.hi⟩) (by simp only [En.square, ebind_ok, epure, hs3]; rw [if_neg hcd.out]) (by go_grown))
        · have hcd := Lib.hid (fun h : a ≤ 0 ∧ 0 ≤ b => hz h.1)
          go_wp2
          refine bodyPost_ret (run_results1 rfl rfl (by (show Hd _ (w.heap.size + 1) 23 #[.int .i64 s3.lo, .int .i64 s3.hi]); exact hdx) Try.underlying23 rfl (by kernel_rfl)) rfl (post_ok (s := ⟨s3.lo, s3.hi⟩) (by simp only [En.square, ebind_ok, epure, hs3]; rw [if_neg hcd.out]) (by go_grown))
    · go_wp2_with fail
      have PA := HA
      have PC := HC
      have Pbw := bw
      have ltAO : w.heap.size < w1.heap.size := by (have := HA.lt; (try simp only [World.size_alloc, World.size_setCell, World.size_drew] at this); omega)
      have ltCO : (w.heap.size + 1) < w1.heap.size := by (have := HC.lt; (try simp only [World.size_alloc, World.size_setCell, World.size_drew] at this); omega)
      replace HA : Hd (w1.alloc (.cells #[.int .i64 0, .int .i64 0] 23)) w.heap.size 23 #[.int .i64 a, .int .i64 b] := hdx
      replace HC : Hd (w1.alloc (.cells #[.int .i64 0, .int .i64 0] 23)) (w.heap.size + 1) 23 #[.int .i64 0, .int .i64 0] := hdx
      replace bw : Below w.heap.size w (w1.alloc (.cells #[.int .i64 0, .int .i64 0] 23)) := by go_grown
      have HO : Hd (w1.alloc (.cells #[.int .i64 0, .int .i64 0] 23)) w1.heap.size 23 #[.int .i64 0, .int .i64 0] := hdx
      refine ⟨⟨HA, bw⟩, ?_⟩
      repeat ((first | with_reducible apply eag_move | with_reducible apply eag_assign | ((with_reducible refine eag_soft (v := ?_) (fun w' hw' => ?_) ?_); rotate_left 1; (focus (obtain ⟨hA, hBw⟩ := hw'; obtain ⟨hcA, hfA⟩ := hA.facts; go_simp; (try with_reducible rfl); done)))); simp only [Act.put, Act.eval, qs])
      repeat ((first | with_reducible apply eag_move | with_reducible apply eag_assign | ((with_reducible refine eag_soft (v := ?_) (fun w' hw' => ?_) ?_); rotate_left 1; (focus (obtain ⟨hA, hBw⟩ := hw'; obtain ⟨hcA, hfA⟩ := hA.facts; go_simp; (try with_reducible rfl); done)))); simp only [Act.put, Act.eval, qs])
      refine eag_hard ?_
      go_wp2_with fail
      refine (over_any b b 1073741824 (by omega) (by omega) (by omega) (by omega) (by omega) (by omega) _).mono ?_
      rintro e w2 ⟨rfl, hb2⟩
      replace bw : Below w.heap.size w w2 := below_next bw hb2
      replace HA := HA.call hb2
      replace HC := HC.call hb2
      replace HO := HO.call hb2
      have lw2 : w.heap.size ≤ w2.heap.size := bw.size
      clear hb2
      go_wp2_with fail
      refine ⟨⟨HA, bw⟩, ?_⟩
      repeat ((first | with_reducible apply eag_move | with_reducible apply eag_assign | ((with_reducible refine eag_soft (v := ?_) (fun w' hw' => ?_) ?_); rotate_left 1; (focus (obtain ⟨hA, hBw⟩ := hw'; obtain ⟨hcA, hfA⟩ := hA.facts; go_simp; (try with_reducible rfl); done)))); simp only [Act.put, Act.eval, qs])
      refine eag_hard ?_
      go_wp2_with fail
      have PA := HA
      have PC := HC
      have PO := HO
      have Pbw := bw
      have ltAF : w.heap.size < w2.heap.size := by (have := HA.lt; (try simp only [World.size_alloc, World.size_setCell, World.size_drew] at this); omega)
      have ltCF : (w.heap.size + 1) < w2.heap.size := by (have := HC.lt; (try simp only [World.size_alloc, World.size_setCell, World.size_drew] at this); omega)
      have ltOF : w1.heap.size < w2.heap.size := by (have := HO.lt; (try simp only [World.size_alloc, World.size_setCell, World.size_drew] at this); omega)
      replace HA : Hd (w2.alloc (.cells #[.bool (En.over a a 1073741824).neg, .int .u64 (En.over a a 1073741824).hi, .int .u64 (En.over a a 1073741824).lo, .int .u64 (En.over a a 1073741824).c, .bool (En.over b b 1073741824).neg, .int .u64 (En.over b b 1073741824).hi, .int .u64 (En.over b b 1073741824).lo, .int .u64 (En.over b b 1073741824).c] 111)) w.heap.size 23 #[.int .i64 a, .int .i64 b] := hdx
      replace HC : Hd (w2.alloc (.cells #[.bool (En.over a a 1073741824).neg, .int .u64 (En.over a a 1073741824).hi, .int .u64 (En.over a a 1073741824).lo, .int .u64 (En.over a a 1073741824).c, .bool (En.over b b 1073741824).neg, .int .u64 (En.over b b 1073741824).hi, .int .u64 (En.over b b 1073741824).lo, .int .u64 (En.over b b 1073741824).c] 111)) (w.heap.size + 1) 23 #[.int .i64 0, .int .i64 0] := hdx
      replace HO : Hd (w2.alloc (.cells #[.bool (En.over a a 1073741824).neg, .int .u64 (En.over a a 1073741824).hi, .int .u64 (En.over a a 1073741824).lo, .int .u64 (En.over a a 1073741824).c, .bool (En.over b b 1073741824).neg, .int .u64 (En.over b b 1073741824).hi, .int .u64 (En.over b b 1073741824).lo, .int .u64 (En.over b b 1073741824).c] 111)) w1.heap.size 23 #[.int .i64 0, .int .i64 0] := hdx
      replace bw : Below w.heap.size w (w2.alloc (.cells #[.bool (En.over a a 1073741824).neg, .int .u64 (En.over a a 1073741824).hi, .int .u64 (En.over a a 1073741824).lo, .int .u64 (En.over a a 1073741824).c, .bool (En.over b b 1073741824).neg, .int .u64 (En.over b b 1073741824).hi, .int .u64 (En.over b b 1073741824).lo, .int .u64 (En.over b b 1073741824).c] 111)) := by go_grown
      have HF : Hd (w2.alloc (.cells #[.bool (En.over a a 1073741824).neg, .int .u64 (En.over a a 1073741824).hi, .int .u64 (En.over a a 1073741824).lo, .int .u64 (En.over a a 1073741824).c, .bool (En.over b b 1073741824).neg, .int .u64 (En.over b b 1073741824).hi, .int .u64 (En.over b b 1073741824).lo, .int .u64 (En.over b b 1073741824).c] 111)) w2.heap.size 111 #[.bool (En.over a a 1073741824).neg, .int .u64 (En.over a a 1073741824).hi, .int .u64 (En.over a a 1073741824).lo, .int .u64 (En.over a a 1073741824).c, .bool (En.over b b 1073741824).neg, .int .u64 (En.over b b 1073741824).hi, .int .u64 (En.over b b 1073741824).lo, .int .u64 (En.over b b 1073741824).c] := hdx
      refine ⟨⟨HA, bw⟩, ?_⟩
      repeat ((first | with_reducible apply eag_move | with_reducible apply eag_assign | ((with_reducible refine eag_soft (v := ?_) (fun w' hw' => ?_) ?_); rotate_left 1; (focus (obtain ⟨hA, hBw⟩ := hw'; obtain ⟨hcA, hfA⟩ := hA.facts; go_simp; (try with_reducible rfl); done)))); simp only [Act.put, Act.eval, qs])
      refine eag_hard ?_
      go_wp2_with fail
      refine (show Calls _ _ _ _ (Post spV (En.squareOut ⟨a, b⟩) _) from around2_any (En.over a a 1073741824) (En.over b b 1073741824) (by apply En.over_wf <;> omega) (by apply En.over_wf <;> omega) _ _ _ HF).mono ?_
      intro e w3 hp
      obtain ⟨hb3, hcase⟩ := hp.cases
      clear hp
      replace bw : Below w.heap.size w w3 := below_next bw hb3
      replace HA := HA.call hb3
      replace HC := HC.call hb3
      replace HO := HO.call hb3
      replace HF := HF.call hb3
      have lw3 : w.heap.size ≤ w3.heap.size := bw.size
      clear hb3
      rcases hcase with ⟨s3, hs3, rfl⟩ | ⟨c3, hs3, rfl⟩
      rotate_left
      · exact ⟨rfl, post_err (by simp only [En.square, ebind_ok, ebind_err, epure, hs3]) bw⟩
      go_wp2_with fail
      refine ⟨⟨HA, bw⟩, ?_⟩
      repeat ((first | with_reducible apply eag_move | with_reducible apply eag_assign | ((with_reducible refine eag_soft (v := ?_) (fun w' hw' => ?_) ?_); rotate_left 1; (focus (obtain ⟨hA, hBw⟩ := hw'; obtain ⟨hcA, hfA⟩ := hA.facts; go_simp; (try with_reducible rfl); done)))); simp only [Act.put, Act.eval, qs])
      refine eag_hard ?_
      obtain ⟨hcO, hfO⟩ := HO.facts
      go_wp2_with fail
      replace HA : Hd ((w3.setCell ⟨w1.heap.size, 0, none⟩ (.int .i64 s3.lo)).setCell ⟨w1.heap.size, 1, none⟩ (.int .i64 s3.hi)) w.heap.size 23 #[.int .i64 a, .int .i64 b] := hdx
      replace HC : Hd ((w3.setCell ⟨w1.heap.size, 0, none⟩ (.int .i64 s3.lo)).setCell ⟨w1.heap.size, 1, none⟩ (.int .i64 s3.hi)) (w.heap.size + 1) 23 #[.int .i64 0, .int .i64 0] := hdx
      replace HO : Hd ((w3.setCell ⟨w1.heap.size, 0, none⟩ (.int .i64 s3.lo)).setCell ⟨w1.heap.size, 1, none⟩ (.int .i64 s3.hi)) w1.heap.size 23 #[.int .i64 s3.lo, .int .i64 s3.hi] := hdx
      replace HF : Hd ((w3.setCell ⟨w1.heap.size, 0, none⟩ (.int .i64 s3.lo)).setCell ⟨w1.heap.size, 1, none⟩ (.int .i64 s3.hi)) w2.heap.size 111 #[.bool (En.over a a 1073741824).neg, .int .u64 (En.over a a 1073741824).hi, .int .u64 (En.over a a 1073741824).lo, .int .u64 (En.over a a 1073741824).c, .bool (En.over b b 1073741824).neg, .int .u64 (En.over b b 1073741824).hi, .int .u64 (En.over b b 1073741824).lo, .int .u64 (En.over b b 1073741824).c] := hdx
      replace bw : Below w.heap.size w ((w3.setCell ⟨w1.heap.size, 0, none⟩ (.int .i64 s3.lo)).setCell ⟨w1.heap.size, 1, none⟩ (.int .i64 s3.hi)) := by go_grown
      refine ⟨⟨HA, bw⟩, ?_⟩
      repeat ((first | with_reducible apply eag_move | with_reducible apply eag_assign | ((with_reducible refine eag_soft (v := ?_) (fun w' hw' => ?_) ?_); rotate_left 1; (focus (obtain ⟨hA, hBw⟩ := hw'; obtain ⟨hcA, hfA⟩ := hA.facts; go_simp; (try with_reducible rfl); done)))); simp only [Act.put, Act.eval, qs])
      refine eag_nil ?_
      generalize hW : (w3.setCell ⟨w1.heap.size, 0, none⟩ (.int .i64 s3.lo)).setCell ⟨w1.heap.size, 1, none⟩ (.int .i64 s3.hi) = w4 at HA HC HO HF bw ⊢
      clear hW
      have lw4 : w.heap.size ≤ w4.heap.size := bw.size
      obtain ⟨hcA, hfA⟩ := HA.facts
      obtain ⟨hcO, hfO⟩ := HO.facts
      obtain ⟨hcC, hfC⟩ := HC.facts
      by_cases hz : a ≤ 0
      · by_cases hz2 : 0 ≤ b
        · have hcd := Lib.hid (And.intro hz hz2)
          go_wp2
          refine bodyPost_ret (run_results1 rfl rfl (by (show Hd _ (w.heap.size + 1) 23 #[.int .i64 0, .int .i64 s3.hi]); exact hdx) Try.underlying23 rfl (by kernel_rfl)) rfl (post_ok (s := ⟨0, s3.hi⟩) (by simp only [En.square, ebind_ok, epure, hs3]; rw [if_pos hcd.out]) (by go_grown))
        · have hcd := Lib.hid (fun h : a ≤ 0 ∧ 0 ≤ b => hz2 h.2)
          go_wp2
          refine bodyPost_ret (run_results1 rfl rfl (by (show Hd _ (w.heap.size + 1) 23 #[.int .i64 s3.lo, .int .i64 s3.hi]); exact hdx) Try.underlying23 rfl (by kernel_rfl)) rfl (post_ok (s := ⟨s3.lo, s3.hi⟩) (by simp only [En.square, ebind_ok, epure, hs3]; rw [if_neg hcd.out]) (by go_grown))
      · have hcd := Lib.hid (fun h : a ≤ 0 ∧ 0 ≤ b => hz h.1)
        go_wp2
        refine bodyPost_ret (run_results1 rfl rfl (by (show Hd _ (w.heap.size + 1) 23 #[.int .i64 s3.lo, .int .i64 s3.hi]); exact hdx) Try.underlying23 rfl (by kernel_rfl)) rfl (post_ok (s := ⟨s3.lo, s3.hi⟩) (by simp only [En.square, ebind_ok, epure, hs3]; rw [if_neg hcd.out]) (by go_grown))
  · go_wp2_with fail
    have PA := HA
    have PC := HC
    have Pbw := bw
    have ltAO : w.heap.size < (w.heap.size + 2) := by (have := HA.lt; (try simp only [World.size_alloc, World.size_setCell, World.size_drew] at this); omega)
    have ltCO : (w.heap.size + 1) < (w.heap.size + 2) := by (have := HC.lt; (try simp only [World.size_alloc, World.size_setCell, World.size_drew] at this); omega)
    replace HA : Hd ((((w.alloc (.cells #[.int .i64 a, .int .i64 b] 23)).alloc (.cells #[.int .i64 0, .int .i64 0] 23)).drew).alloc (.cells #[.int .i64 0, .int .i64 0] 23)) w.heap.size 23 #[.int .i64 a, .int .i64 b] := hdx
    replace HC : Hd ((((w.alloc (.cells #[.int .i64 a, .int .i64 b] 23)).alloc (.cells #[.int .i64 0, .int .i64 0] 23)).drew).alloc (.cells #[.int .i64 0, .int .i64 0] 23)) (w.heap.size + 1) 23 #[.int .i64 0, .int .i64 0] := hdx
    replace bw : Below w.heap.size w ((((w.alloc (.cells #[.int .i64 a, .int .i64 b] 23)).alloc (.cells #[.int .i64 0, .int .i64 0] 23)).drew).alloc (.cells #[.int .i64 0, .int .i64 0] 23)) := by go_grown
    have HO : Hd ((((w.alloc (.cells #[.int .i64 a, .int .i64 b] 23)).alloc (.cells #[.int .i64 0, .int .i64 0] 23)).drew).alloc (.cells #[.int .i64 0, .int .i64 0] 23)) (w.heap.size + 2) 23 #[.int .i64 0, .int .i64 0] := hdx
    refine ⟨⟨HA, bw⟩, ?_⟩
    repeat ((first | with_reducible apply eag_move | with_reducible apply eag_assign | ((with_reducible refine eag_soft (v := ?_) (fun w' hw' => ?_) ?_); rotate_left 1; (focus (obtain ⟨hA, hBw⟩ := hw'; obtain ⟨hcA, hfA⟩ := hA.facts; go_simp; (try with_reducible rfl); done)))); simp only [Act.put, Act.eval, qs])
    repeat ((first | with_reducible apply eag_move | with_reducible apply eag_assign | ((with_reducible refine eag_soft (v := ?_) (fun w' hw' => ?_) ?_); rotate_left 1; (focus (obtain ⟨hA, hBw⟩ := hw'; obtain ⟨hcA, hfA⟩ := hA.facts; go_simp; (try with_reducible rfl); done)))); simp only [Act.put, Act.eval, qs])
    refine eag_hard ?_
    go_wp2_with fail
    refine (over_any a a 1073741824 (by omega) (by omega) (by omega) (by omega) (by omega) (by omega) _).mono ?_
    rintro e w1 ⟨rfl, hb1⟩
    replace bw : Below w.heap.size w w1 := below_next bw hb1
    replace HA := HA.call hb1
    replace HC := HC.call hb1
    replace HO := HO.call hb1
    have lw1 : w.heap.size ≤ w1.heap.size := bw.size
    clear hb1
    go_wp2_with fail
    refine ⟨⟨HA, bw⟩, ?_⟩
    repeat ((first | with_reducible apply eag_move | with_reducible apply eag_assign | ((with_reducible refine eag_soft (v := ?_) (fun w' hw' => ?_) ?_); rotate_left 1; (focus (obtain ⟨hA, hBw⟩ := hw'; obtain ⟨hcA, hfA⟩ := hA.facts; go_simp; (try with_reducible rfl); done)))); simp only [Act.put, Act.eval, qs])
    refine eag_hard ?_
    go_wp2_with fail
    refine (over_any b b 1073741824 (by omega) (by omega) (by omega) (by omega) (by omega) (by omega) _).mono ?_
    rintro e w2 ⟨rfl, hb2⟩
    replace bw : Below w.heap.size w w2 := below_next bw hb2
    replace HA := HA.call hb2
    replace HC := HC.call hb2
    replace HO := HO.call hb2
    have lw2 : w.heap.size ≤ w2.heap.size := bw.size
    clear hb2
    go_wp2_with fail
    refine ⟨⟨HA, bw⟩, ?_⟩
    repeat ((first | with_reducible apply eag_move | with_reducible apply eag_assign | ((with_reducible refine eag_soft (v := ?_) (fun w' hw' => ?_) ?_); rotate_left 1; (focus (obtain ⟨hA, hBw⟩ := hw'; obtain ⟨hcA, hfA⟩ := hA.facts; go_simp; (try with_reducible rfl); done)))); simp only [Act.put, Act.eval, qs])
    refine eag_hard ?_
    go_wp2_with fail
    have PA := HA
    have PC := HC
    have PO := HO
    have Pbw := bw
    have ltAF : w.heap.size < w2.heap.size := by (have := HA.lt; (try simp only [World.size_alloc, World.size_setCell, World.size_drew] at this); omega)
    have ltCF : (w.heap.size + 1) < w2.heap.size := by (have := HC.lt; (try simp only [World.size_alloc, World.size_setCell, World.size_drew] at this); omega)
    have ltOF : (w.heap.size + 2) < w2.heap.size := by (have := HO.lt; (try simp only [World.size_alloc, World.size_setCell, World.size_drew] at this); omega)
    replace HA : Hd (w2.alloc (.cells #[.bool (En.over a a 1073741824).neg, .int .u64 (En.over a a 1073741824).hi, .int .u64 (En.over a a 1073741824).lo, .int .u64 (En.over a a 1073741824).c, .bool (En.over b b 1073741824).neg, .int .u64 (En.over b b 1073741824).hi, .int .u64 (En.over b b 1073741824).lo, .int .u64 (En.over b b 1073741824).c] 111)) w.heap.size 23 #[.int .i64 a, .int .i64 b] := hdx
    replace HC : Hd (w2.alloc (.cells #[.bool (En.over a a 1073741824).neg, .int .u64 (En.over a a 1073741824).hi, .int .u64 (En.over a a 1073741824).lo, .int .u64 (En.over a a 1073741824).c, .bool (En.over b b 1073741824).neg, .int .u64 (En.over b b 1073741824).hi, .int .u64 (En.over b b 1073741824).lo, .int .u64 (En.over b b 1073741824).c] 111)) (w.heap.size + 1) 23 #[.int .i64 0, .int .i64 0] := hdx
    replace HO : Hd (w2.alloc (.cells #[.bool (En.over a a 1073741824).neg, .int .u64 (En.over a a 1073741824).hi, .int .u64 (En.over a a 1073741824).lo, .int .u64 (En.over a a 1073741824).c, .bool (En.over b b 1073741824).neg, .int .u64 (En.over b b 1073741824).hi, .int .u64 (En.over b b 1073741824).lo, .int .u64 (En.over b b 1073741824).c] 111)) (w.heap.size + 2) 23 #[.int .i64 0, .int .i64 0] := hdx
    replace bw : Below w.heap.size w (w2.alloc (.cells #[.bool (En.over a a 1073741824).neg, .int .u64 (En.over a a 1073741824).hi, .int .u64 (En.over a a 1073741824).lo, .int .u64 (En.over a a 1073741824).c, .bool (En.over b b 1073741824).neg, .int .u64 (En.over b b 1073741824).hi, .int .u64 (En.over b b 1073741824).lo, .int .u64 (En.over b b 1073741824).c] 111)) := by go_grown
    have HF : Hd (w2.alloc (.cells #[.bool (En.over a a 1073741824).neg, .int .u64 (En.over a a 1073741824).hi, .int .u64 (En.over a a 1073741824).lo, .int .u64 (En.over a a 1073741824).c, .bool (En.over b b 1073741824).neg, .int .u64 (En.over b b 1073741824).hi, .int .u64 (En.over b b 1073741824).lo, .int .u64 (En.over b b 1073741824).c] 111)) w2.heap.size 111 #[.bool (En.over a a 1073741824).neg, .int .u64 (En.over a a 1073741824).hi, .int .u64 (En.over a a 1073741824).lo, .int .u64 (En.over a a 1073741824).c, .bool (En.over b b 1073741824).neg, .int .u64 (En.over b b 1073741824).hi, .int .u64 (En.over b b 1073741824).lo, .int .u64 (En.over b b 1073741824).c] := hdx
    refine ⟨⟨HA, bw⟩, ?_⟩
    repeat ((first | with_reducible apply eag_move | with_reducible apply eag_assign | ((with_reducible refine eag_soft (v := ?_) (fun w' hw' => ?_) ?_); rotate_left 1; (focus (obtain ⟨hA, hBw⟩ := hw'; obtain ⟨hcA, hfA⟩ := hA.facts; go_simp; (try with_reducible rfl); done)))); simp only [Act.put, Act.eval, qs])
    refine eag_hard ?_
    go_wp2_with fail
    refine (show Calls _ _ _ _ (Post spV (En.squareOut ⟨a, b⟩) _) from around2_any (En.over a a 1073741824) (En.over b b 1073741824) (by apply En.over_wf <;> omega) (by apply En.over_wf <;> omega) _ _ _ HF).mono ?_
    intro e w3 hp
    obtain ⟨hb3, hcase⟩ := hp.cases
    clear hp
    replace bw : Below w.heap.size w w3 := below_next bw hb3
    replace HA := HA.call hb3
    replace HC := HC.call hb3
    replace HO := HO.call hb3
    replace HF := HF.call hb3
    have lw3 : w.heap.size ≤ w3.heap.size := bw.size
    clear hb3
    rcases hcase with ⟨s3, hs3, rfl⟩ | ⟨c3, hs3, rfl⟩
    rotate_left
    · exact ⟨rfl, post_err (by simp only [En.square, ebind_ok, ebind_err, epure, hs3]) bw⟩
    go_wp2_with fail
    refine ⟨⟨HA, bw⟩, ?_⟩
    repeat ((first | with_reducible apply eag_move | with_reducible apply eag_assign | ((with_reducible refine eag_soft (v := ?_) (fun w' hw' => ?_) ?_); rotate_left 1; (focus (obtain ⟨hA, hBw⟩ := hw'; obtain ⟨hcA, hfA⟩ := hA.facts; go_simp; (try with_reducible rfl); done)))); simp only [Act.put, Act.eval, qs])
    refine eag_hard ?_
    obtain ⟨hcO, hfO⟩ := HO.facts
    go_wp2_with fail
    replace HA : Hd ((w3.setCell ⟨(w.heap.size + 2), 0, none⟩ (.int .i64 s3.lo)).setCell ⟨(w.heap.size + 2), 1, none⟩ (.int .i64 s3.hi)) w.heap.size 23 #[.int .i64 a, .int .i64 b] := hdx
    replace HC : Hd ((w3.setCell ⟨(w.heap.size + 2), 0, none⟩ (.int .i64 s3.lo)).setCell ⟨(w.heap.size + 2), 1, none⟩ (.int .i64 s3.hi)) (w.heap.size + 1) 23 #[.int .i64 0, .int .i64 0] := hdx
    replace HO : Hd ((w3.setCell ⟨(w.heap.size + 2), 0, none⟩ (.int .i64 s3.lo)).setCell ⟨(w.heap.size + 2), 1, none⟩ (.int .i64 s3.hi)) (w.heap.size + 2) 23 #[.int .i64 s3.lo, .int .i64 s3.hi] := hdx
    replace HF : Hd ((w3.setCell ⟨(w.heap.size + 2), 0, none⟩ (.int .i64 s3.lo)).setCell ⟨(w.heap.size + 2), 1, none⟩ (.int .i64 s3.hi)) w2.heap.size 111 #[.bool (En.over a a 1073741824).neg, .int .u64 (En.over a a 1073741824).hi, .int .u64 (En.over a a 1073741824).lo, .int .u64 (En.over a a 1073741824).c, .bool (En.over b b 1073741824).neg, .int .u64 (En.over b b 1073741824).hi, .int .u64 (En.over b b 1073741824).lo, .int .u64 (En.over b b 1073741824).c] := hdx
    replace bw : Below w.heap.size w ((w3.setCell ⟨(w.heap.size + 2), 0, none⟩ (.int .i64 s3.lo)).setCell ⟨(w.heap.size + 2), 1, none⟩ (.int .i64 s3.hi)) := by go_grown
    refine ⟨⟨HA, bw⟩, ?_⟩
    repeat ((first | with_reducible apply eag_move | with_reducible apply eag_assign | ((with_reducible refine eag_soft (v := ?_) (fun w' hw' => ?_) ?_); rotate_left 1; (focus (obtain ⟨hA, hBw⟩ := hw'; obtain ⟨hcA, hfA⟩ := hA.facts; go_simp; (try with_reducible rfl); done)))); simp only [Act.put, Act.eval, qs])
    refine eag_nil ?_
    generalize hW : (w3.setCell ⟨(w.heap.size + 2), 0, none⟩ (.int .i64 s3.lo)).setCell ⟨(w.heap.size + 2), 1, none⟩ (.int .i64 s3.hi) = w4 at HA HC HO HF bw ⊢
    clear hW
    have lw4 : w.heap.size ≤ w4.heap.size := bw.size
    obtain ⟨hcA, hfA⟩ := HA.facts
    obtain ⟨hcO, hfO⟩ := HO.facts
    obtain ⟨hcC, hfC⟩ := HC.facts
    by_cases hz : a ≤ 0
    · by_cases hz2 : 0 ≤ b
      · have hcd := Lib.hid (And.intro hz hz2)
        go_wp2
        refine bodyPost_ret (run_results1 rfl rfl (by (show Hd _ (w.heap.size + 1) 23 #[.int .i64 0, .int .i64 s3.hi]); exact hdx) Try.underlying23 rfl (by kernel_rfl)) rfl (post_ok (s := ⟨0, s3.hi⟩) (by simp only [En.square, ebind_ok, epure, hs3]; rw [if_pos hcd.out]) (by go_grown))
      · have hcd := Lib.hid (fun h : a ≤ 0 ∧ 0 ≤ b => hz2 h.2)
        go_wp2
        refine bodyPost_ret (run_results1 rfl rfl (by (show Hd _ (w.heap.size + 1) 23 #[.int .i64 s3.lo, .int .i64 s3.hi]); exact hdx) Try.underlying23 rfl (by kernel_rfl)) rfl (post_ok (s := ⟨s3.lo, s3.hi⟩) (by simp only [En.square, ebind_ok, epure, hs3]; rw [if_neg hcd.out]) (by go_grown))
    · have hcd := Lib.hid (fun h : a ≤ 0 ∧ 0 ≤ b => hz h.1)
      go_wp2
      refine bodyPost_ret (run_results1 rfl rfl (by (show Hd _ (w.heap.size + 1) 23 #[.int .i64 s3.lo, .int .i64 s3.hi]); exact hdx) Try.underlying23 rfl (by kernel_rfl)) rfl (post_ok (s := ⟨s3.lo, s3.hi⟩) (by simp only [En.square, ebind_ok, epure, hs3]; rw [if_neg hcd.out]) (by go_grown))

theorem power_any (x : En.Rc) (hx : x.fit) (w : World) : Calls Try.prog 81 #[rcV x] w (Post spV (En.power x) w) := by
  go_enter Try.func81, Try.ntmps81
  go_wp2
  have HA : Hd (((w.alloc (.cells #[.int .i64 x.re.lo, .int .i64 x.re.hi, .int .i64 x.im.lo, .int .i64 x.im.hi] 25)).alloc (.cells #[.int .i64 0, .int .i64 0] 23)).drew) w.heap.size 25 #[.int .i64 x.re.lo, .int .i64 x.re.hi, .int .i64 x.im.lo, .int .i64 x.im.hi] := hdx
  have HC : Hd (((w.alloc (.cells #[.int .i64 x.re.lo, .int .i64 x.re.hi, .int .i64 x.im.lo, .int .i64 x.im.hi] 25)).alloc (.cells #[.int .i64 0, .int .i64 0] 23)).drew) (w.heap.size + 1) 23 #[.int .i64 0, .int .i64 0] := hdx
  have bw : Below w.heap.size w (((w.alloc (.cells #[.int .i64 x.re.lo, .int .i64 x.re.hi, .int .i64 x.im.lo, .int .i64 x.im.hi] 25)).alloc (.cells #[.int .i64 0, .int .i64 0] 23)).drew) := by go_grown
  (refine wp_region_eag (fun w' => Hd w' w.heap.size 25 #[.int .i64 x.re.lo, .int .i64 x.re.hi, .int .i64 x.im.lo, .int .i64 x.im.hi] ∧ Below w.heap.size w w') [(0, true), (1, true), (3, true), (4, true), (2, false), (5, false), (6, false), (7, false)] (by kernel_rfl) (by kernel_rfl) (fun c d v a w h => by cases d <;> exact h) ⟨HA, bw⟩ ?_; simp only [List.map_cons, List.map_nil, List.getD_cons_zero, List.getD_cons_succ, flMark, Nat.reduceEqDiff, ↓reduceIte])
  repeat ((first | with_reducible apply eag_move | with_reducible apply eag_assign | ((with_reducible refine eag_soft (v := ?_) (fun w' hw' => ?_) ?_); rotate_left 1; (focus (obtain ⟨hA, hBw⟩ := hw'; obtain ⟨hcA, hfA⟩ := hA.facts; go_simp; (try with_reducible rfl); done)))); simp only [Act.put, Act.eval, qs])
  refine eag_hard ?_
  go_wp2_with fail
  refine (square_any x.re hx.re _).mono ?_
  intro e w1 hp
  obtain ⟨hb1, hcase⟩ := hp.cases
  clear hp
  replace bw : Below w.heap.size w w1 := below_next bw hb1
  replace HA := HA.call hb1
  replace HC := HC.call hb1
  have lw1 : w.heap.size ≤ w1.heap.size := bw.size
  clear hb1
  rcases hcase with ⟨s1, hs1, rfl⟩ | ⟨c1, hs1, rfl⟩
  rotate_left
  · exact ⟨rfl, post_err (by simp only [En.power, ebind_ok, ebind_err, epure, hs1]) bw⟩
  go_wp2_with fail
  refine ⟨⟨HA, bw⟩, ?_⟩
  repeat ((first | with_reducible apply eag_move | with_reducible apply eag_assign | ((with_reducible refine eag_soft (v := ?_) (fun w' hw' => ?_) ?_); rotate_left 1; (focus (obtain ⟨hA, hBw⟩ := hw'; obtain ⟨hcA, hfA⟩ := hA.facts; go_simp; (try with_reducible rfl); done)))); simp only [Act.put, Act.eval, qs])
  refine eag_hard ?_
  go_wp2_with fail
  refine (square_any x.im hx.im _).mono ?_
  intro e w2 hp
  obtain ⟨hb2, hcase⟩ := hp.cases
  clear hp
  replace bw : Below w.heap.size w w2 := below_next bw hb2
  replace HA := HA.call hb2
  replace HC := HC.call hb2
  have lw2 : w.heap.size ≤ w2.heap.size := bw.size
  clear hb2
  rcases hcase with ⟨s2, hs2, rfl⟩ | ⟨c2, hs2, rfl⟩
  rotate_left
  · exact ⟨rfl, post_err (by simp only [En.power, ebind_ok, ebind_err, epure, hs1, hs2]) bw⟩
  go_wp2_with fail
  refine ⟨⟨HA, bw⟩, ?_⟩
  repeat ((first | with_reducible apply eag_move | with_reducible apply eag_assign | ((with_reducible refine eag_soft (v := ?_) (fun w' hw' => ?_) ?_); rotate_left 1; (focus (obtain ⟨hA, hBw⟩ := hw'; obtain ⟨hcA, hfA⟩ := hA.facts; go_simp; (try with_reducible rfl); done)))); simp only [Act.put, Act.eval, qs])
  refine eag_hard ?_
  go_wp2_with fail
  refine (add_any s1 s2 (En.Sp.fit_of_ok (En.square_ok hs1)) (En.Sp.fit_of_ok (En.square_ok hs2)) _).mono ?_
  intro e w3 hp
  obtain ⟨hb3, hcase⟩ := hp.cases
  clear hp
  replace bw : Below w.heap.size w w3 := below_next bw hb3
  replace HA := HA.call hb3
  replace HC := HC.call hb3
  have lw3 : w.heap.size ≤ w3.heap.size := bw.size
  clear hb3
  rcases hcase with ⟨s3, hs3, rfl⟩ | ⟨c3, hs3, rfl⟩
  rotate_left
  · exact ⟨rfl, post_err (by simp only [En.power, ebind_ok, ebind_err, epure, hs1, hs2, hs3]) bw⟩
  go_wp2_with fail
  refine ⟨⟨HA, bw⟩, ?_⟩
  repeat ((first | with_reducible apply eag_move | with_reducible apply eag_assign | ((with_reducible refine eag_soft (v := ?_) (fun w' hw' => ?_) ?_); rotate_left 1; (focus (obtain ⟨hA, hBw⟩ := hw'; obtain ⟨hcA, hfA⟩ := hA.facts; go_simp; (try with_reducible rfl); done)))); simp only [Act.put, Act.eval, qs])
  obtain ⟨hcC, hfC⟩ := HC.facts
  refine eag_hard ?_
  go_wp2_with fail
  refine ⟨⟨by exact hdx, by go_grown⟩, ?_⟩
  refine eag_nil ?_
  go_wp2
  refine bodyPost_ret (run_results1 rfl rfl (by (show Hd _ (w.heap.size + 1) 23 #[.int .i64 s3.lo, .int .i64 s3.hi]); exact hdx) Try.underlying23 rfl (by kernel_rfl)) rfl (post_ok (by simp only [En.power, ebind_ok, ebind_err, epure, hs1, hs2, hs3]) (by go_grown))

end Go.Proofs.Ytpbbbfglecbceaa
/- Roots, points of the unit circle, in plain words. -/
namespace Go.Proofs.Ytpbbbfglecbceaa.En
set_option linter.all false

/-- The greatest r of k bits above lo whose square is at most N. -/
def bis (N : Int) : Nat → Int → Int
  | 0, lo => lo
  | k + 1, lo => if (lo + 2 ^ k) * (lo + 2 ^ k) ≤ N then bis N k (lo + 2 ^ k) else bis N k lo

theorem bis_spec (N : Int) : ∀ (k : Nat) (lo : Int), 0 ≤ lo → lo * lo ≤ N → N < (lo + 2 ^ k) * (lo + 2 ^ k) →
    lo ≤ bis N k lo ∧ bis N k lo < lo + 2 ^ k ∧ bis N k lo * bis N k lo ≤ N ∧ N < (bis N k lo + 1) * (bis N k lo + 1)
  | 0, lo, h0, h1, h2 => ⟨Int.le_refl _, by simp [bis]; omega, h1, by simpa [bis] using h2⟩
  | k + 1, lo, h0, h1, h2 => by
    have hp : (0 : Int) < 2 ^ k := Int.pow_pos (by omega)
    have hd : (2 : Int) ^ (k + 1) = 2 ^ k + 2 ^ k := by rw [Int.pow_succ]; omega
    unfold bis
    split
    · next h =>
      have := bis_spec N k (lo + 2 ^ k) (by omega) h (by rw [hd] at h2; rw [Int.add_assoc]; exact h2)
      omega
    · next h =>
      have := bis_spec N k lo h0 h1 (by omega)
      omega

def root (n : Int) : Int := bis (n * 1073741824) 36 0

theorem root_spec {n : Int} (h0 : 0 ≤ n) (h1 : n ≤ 1099511627776) :
    0 ≤ root n ∧ root n < 68719476736 ∧ root n * root n ≤ n * 1073741824 ∧ n * 1073741824 < (root n + 1) * (root n + 1) := by
  have := bis_spec (n * 1073741824) 36 0 (by omega) (by omega) (by
    show _ < (0 + (68719476736 : Int)) * (0 + 68719476736)
    omega)
  simpa [root] using this

/-- The root of a span that is not negative. -/
def roots (s : Sp) : R Sp := span (root s.lo) (if root s.hi * root s.hi = s.hi * 1073741824 then root s.hi else root s.hi + 1)

theorem roots_ok {s u : Sp} (h : roots s = .ok u) : u.ok = true := (span_eq h).2

theorem bind_ok {α β : Type} {r : R α} {f : α → R β} {b : β} (h : (r >>= f) = .ok b) : ∃ a, r = .ok a ∧ f a = .ok b := by
  cases r with
  | error c => cases h
  | ok a => exact ⟨a, rfl, h⟩
theorem Rc.ok_mk {a b : Sp} (ha : a.ok = true) (hb : b.ok = true) : (⟨a, b⟩ : Rc).ok = true := by simp [Rc.ok, ha, hb]
theorem plus_ok {x y z : Rc} (h : plus x y = .ok z) : z.ok = true := by
  obtain ⟨a, ha, h⟩ := bind_ok h
  obtain ⟨b, hb, h⟩ := bind_ok h
  cases h
  exact Rc.ok_mk (add_ok ha) (add_ok hb)
theorem minus_ok {x y z : Rc} (h : minus x y = .ok z) : z.ok = true := by
  obtain ⟨a, ha, h⟩ := bind_ok h
  obtain ⟨b, hb, h⟩ := bind_ok h
  cases h
  exact Rc.ok_mk (sub_ok ha) (sub_ok hb)
theorem times_ok {x y z : Rc} (h : times x y = .ok z) : z.ok = true := by
  obtain ⟨a, -, h⟩ := bind_ok h
  obtain ⟨b, -, h⟩ := bind_ok h
  obtain ⟨c, hc, h⟩ := bind_ok h
  obtain ⟨d, -, h⟩ := bind_ok h
  obtain ⟨e, -, h⟩ := bind_ok h
  obtain ⟨f, hf, h⟩ := bind_ok h
  cases h
  exact Rc.ok_mk (sub_ok hc) (add_ok hf)
theorem power_ok {x : Rc} {s : Sp} (h : power x = .ok s) : s.ok = true := by
  obtain ⟨a, -, h⟩ := bind_ok h
  obtain ⟨b, -, h⟩ := bind_ok h
  exact add_ok h
theorem point_ok {a b : Int} {z : Rc} (h : point a b = .ok z) : z.ok = true := by
  obtain ⟨a, ha, h⟩ := bind_ok h
  obtain ⟨b, hb, h⟩ := bind_ok h
  cases h
  exact Rc.ok_mk (span_eq ha).2 (span_eq hb).2
theorem quotient_ok {x y z : Rc} (h : quotient x y = .ok z) : z.ok = true := by
  obtain ⟨p, -, h⟩ := bind_ok h
  split at h
  · cases h
  · obtain ⟨u, -, h⟩ := bind_ok h
    obtain ⟨a, ha, h⟩ := bind_ok h
    obtain ⟨b, hb, h⟩ := bind_ok h
    cases h
    exact Rc.ok_mk (div_ok ha) (div_ok hb)
theorem conj_fit {x : Rc} (h : x.fit) : (conj x).fit := by
  obtain ⟨h1, ⟨h2, h3, h4, h5⟩⟩ := h
  exact ⟨h1, ⟨by simp [conj]; omega, by simp [conj]; omega, by simp [conj]; omega, by simp [conj]; omega⟩⟩

end Go.Proofs.Ytpbbbfglecbceaa.En
/- Package enclose: roots. -/
namespace Go.Proofs.Ytpbbbfglecbceaa
set_option linter.all false
open Go.RowKit

theorem root_any (n : Int) (h0 : 0 ≤ n) (h1 : n ≤ 1099511627776) (w : World) :
    Calls Try.prog 125 #[.int .i64 n] w fun e w' => e = .returned (.int .i64 (En.root n)) ∧ Below w.heap.size w w' := by
  obtain ⟨N, hN⟩ : ∃ N, n * 1073741824 = N := ⟨_, rfl⟩
  obtain ⟨r, hr⟩ : ∃ r, En.root n = r := ⟨_, rfl⟩
  have hr' : En.bis N 36 0 = r := by rw [← hN]; exact hr
  rw [hr]
  have ca := Lib.hid (mul64_any n 1073741824 h0 (by omega) (by omega) (by omega))
  rw [hN] at ca
  have HN := Lib.hid hN
  have HR := Lib.hid hr'
  clear hr hr' hN
  go_enter Try.func125, Try.ntmps125
  go_wp2
  go_loopw [3, 4] (fun lo hi wr => ∃ (k : Nat) (a d : Int), Hid (En.bis N k a = r) ∧ Hid (d = 2 ^ k) ∧ k ≤ 36 ∧ lo = .int .i64 a ∧ hi = .int .i64 (a + d) ∧ 0 ≤ a ∧ 1 ≤ d ∧ a + d ≤ 68719476736 ∧ Below w.heap.size w wr)
    (fun lo hi _ => (intOf hi - intOf lo).toNat)
  case atStart => exact ⟨36, 0, 68719476736, HR, Lib.hid rfl, by omega, rfl, rfl, by omega, by omega, by omega, by go_grown⟩
  case round =>
    obtain ⟨k, a, d, hb, hd, hk, rfl, rfl, ha, hd1, had, hbr⟩ := hrel
    cases k with
    | zero =>
      obtain rfl : d = 1 := hd.out
      obtain rfl : a = r := hb.out
      go_wp2
      go_ret
      exact ⟨rfl, hbr⟩
    | succ k =>
      obtain ⟨e, he⟩ : ∃ e : Int, e = 2 ^ k := ⟨_, rfl⟩
      have hde : d = 2 * e := by rw [hd.out, he, Int.pow_succ]; omega
      subst hde
      have he1 : 1 ≤ e := by omega
      have hlt : a + 1 < a + 2 * e := by omega
      have hq : (a + (a + 2 * e)) / 2 = a + e := by omega
      have hm0 : 0 ≤ (a + (a + 2 * e)) / 2 := by omega
      have hm1 : (a + (a + 2 * e)) / 2 ≤ 68719476736 := by omega
      obtain ⟨M, hM⟩ : ∃ M, (a + e) * (a + e) = M := ⟨_, rfl⟩
      have cm := Lib.hid (mul64_any ((a + (a + 2 * e)) / 2) ((a + (a + 2 * e)) / 2) hm0 (by omega) hm0 (by omega))
      rw [show (a + (a + 2 * e)) / 2 * ((a + (a + 2 * e)) / 2) = M from by rw [hq]; exact hM] at cm
      have hstep : En.bis N (k + 1) a = if M ≤ N then En.bis N k (a + e) else En.bis N k a := by
        rw [← hM, he]; rfl
      have HS := Lib.hid hstep
      clear hstep
      have HE := Lib.hid he
      have HQ := Lib.hid hq
      clear hM he hq
      have hMN : M / 18446744073709551616 * 18446744073709551616 + M % 18446744073709551616 = M := by omega
      have hNN : N / 18446744073709551616 * 18446744073709551616 + N % 18446744073709551616 = N := by omega
      have hmr : M % 18446744073709551616 < 18446744073709551616 := by omega
      have hnr : N % 18446744073709551616 < 18446744073709551616 := by omega
      have hm2 : 0 ≤ M % 18446744073709551616 := by omega
      have hn2 : 0 ≤ N % 18446744073709551616 := by omega
      by_cases hle : M ≤ N
      · by_cases h1 : M / 18446744073709551616 < N / 18446744073709551616
        · go_wp2_with (first | (go_at_call_of 126 n; refine (ca.out _).mono ?_; rintro e w'' ⟨rfl, rfl⟩) | (go_at_call 126; refine (cm.out _).mono ?_; rintro e w'' ⟨rfl, rfl⟩))
          go_roundw
          case rel => exact ⟨k, a + e, e, Lib.hid (by rw [← hb.out, HS.out, if_pos hle]), HE, by omega, by rw [HQ.out], by congr 1; omega, by omega, by omega, by omega, hbr⟩
          case measure => simp [intOf]; (try have := HQ.out); omega
        · have h2 : M / 18446744073709551616 = N / 18446744073709551616 := by omega
          have h3 : M % 18446744073709551616 ≤ N % 18446744073709551616 := by omega
          have h4 : (M / 18446744073709551616 == N / 18446744073709551616) = true := by simpa using h2
          go_wp2_with (first | (go_at_call_of 126 n; refine (ca.out _).mono ?_; rintro e w'' ⟨rfl, rfl⟩) | (go_at_call 126; refine (cm.out _).mono ?_; rintro e w'' ⟨rfl, rfl⟩))
          go_roundw
          case rel => exact ⟨k, a + e, e, Lib.hid (by rw [← hb.out, HS.out, if_pos hle]), HE, by omega, by rw [HQ.out], by congr 1; omega, by omega, by omega, by omega, hbr⟩
          case measure => simp [intOf]; (try have := HQ.out); omega
      · have h1 : ¬ M / 18446744073709551616 < N / 18446744073709551616 := by omega
        by_cases h2 : M / 18446744073709551616 = N / 18446744073709551616
        · have h3 : ¬ M % 18446744073709551616 ≤ N % 18446744073709551616 := by omega
          have h4 : (M / 18446744073709551616 == N / 18446744073709551616) = true := by simpa using h2
          go_wp2_with (first | (go_at_call_of 126 n; refine (ca.out _).mono ?_; rintro e w'' ⟨rfl, rfl⟩) | (go_at_call 126; refine (cm.out _).mono ?_; rintro e w'' ⟨rfl, rfl⟩))
          go_roundw
          case rel => exact ⟨k, a, e, Lib.hid (by rw [← hb.out, HS.out, if_neg (by omega)]), HE, by omega, rfl, by rw [HQ.out], by omega, by omega, by omega, hbr⟩
          case measure => simp [intOf]; (try have := HQ.out); omega
        · have h4 : (M / 18446744073709551616 == N / 18446744073709551616) = false := by simpa using h2
          go_wp2_with (first | (go_at_call_of 126 n; refine (ca.out _).mono ?_; rintro e w'' ⟨rfl, rfl⟩) | (go_at_call 126; refine (cm.out _).mono ?_; rintro e w'' ⟨rfl, rfl⟩))
          go_roundw
          case rel => exact ⟨k, a, e, Lib.hid (by rw [← hb.out, HS.out, if_neg (by omega)]), HE, by omega, rfl, by rw [HQ.out], by omega, by omega, by omega, hbr⟩
          case measure => simp [intOf]; (try have := HQ.out); omega
theorem roots_any (s : En.Sp) (h0 : 0 ≤ s.lo) (hs : s.ok = true) (w : World) : Calls Try.prog 84 #[spV s] w (Post spV (En.roots s) w) := by
  have hle := En.Sp.le_of_ok hs
  have hfit := En.Sp.fit_of_ok hs
  obtain ⟨a, b⟩ := s
  obtain ⟨a1, a2, b1, b2⟩ := hfit
  dsimp only at h0 hle a1 a2 b1 b2
  have ra := En.root_spec h0 a2
  have rb := En.root_spec (n := b) (by omega) b2
  have CA := Lib.hid (root_any a h0 a2)
  have CB := Lib.hid (root_any b (by omega) b2)
  have hun : Hid (En.roots ⟨a, b⟩ = En.span (En.root a) (if En.root b * En.root b = b * 1073741824 then En.root b else En.root b + 1)) := rfl
  obtain ⟨r, hr⟩ : ∃ r, En.root a = r := ⟨_, rfl⟩
  obtain ⟨q, hq⟩ : ∃ q, En.root b = q := ⟨_, rfl⟩
  rw [hr] at ra CA hun
  rw [hq] at rb CB hun
  clear hr hq
  obtain ⟨ra0, ra1, -, -⟩ := ra
  obtain ⟨rb0, rb1, -, -⟩ := rb
  have cm := Lib.hid (mul64_any q q rb0 (by omega) rb0 (by omega))
  have cn := Lib.hid (mul64_any b 1073741824 (by omega) (by omega) (by omega) (by omega))
  obtain ⟨M, hM⟩ : ∃ M, q * q = M := ⟨_, rfl⟩
  obtain ⟨N, hN⟩ : ∃ N, b * 1073741824 = N := ⟨_, rfl⟩
  rw [hM] at cm hun
  rw [hN] at cn hun
  clear hM hN
  go_enter Try.func84, Try.ntmps84
  go_wp2_with fail
  have HA : Hd (((w.alloc (.cells #[.int .i64 a, .int .i64 b] 23)).alloc (.cells #[.int .i64 0, .int .i64 0] 23))) w.heap.size 23 #[.int .i64 a, .int .i64 b] := hdx
  have HC : Hd (((w.alloc (.cells #[.int .i64 a, .int .i64 b] 23)).alloc (.cells #[.int .i64 0, .int .i64 0] 23))) (w.heap.size + 1) 23 #[.int .i64 0, .int .i64 0] := hdx
  have bw : Below w.heap.size w (((w.alloc (.cells #[.int .i64 a, .int .i64 b] 23)).alloc (.cells #[.int .i64 0, .int .i64 0] 23))) := by go_grown
  refine (CB.out _).mono ?_
  rintro e w1 ⟨rfl, hb1⟩
  replace bw : Below w.heap.size w w1 := below_next bw hb1
  replace HA := HA.call hb1
  replace HC := HC.call hb1
  have lw1 : w.heap.size ≤ w1.heap.size := bw.size
  clear hb1
  obtain ⟨hcA, hfA⟩ := HA.facts
  have hMN : M / 18446744073709551616 * 18446744073709551616 + M % 18446744073709551616 = M := by omega
  have hNN : N / 18446744073709551616 * 18446744073709551616 + N % 18446744073709551616 = N := by omega
  by_cases h1 : M / 18446744073709551616 = N / 18446744073709551616
  · by_cases h2 : M % 18446744073709551616 = N % 18446744073709551616
    · have h3 : (M / 18446744073709551616 != N / 18446744073709551616) = false := by simp [h1]
      have h4 : (M % 18446744073709551616 != N % 18446744073709551616) = false := by simp [h2]
      have hMe : M = N := by omega
      rw [if_pos hMe] at hun
      have HU := Lib.hid hun.out
      clear hun hMN hNN hMe h1 h2
      go_wp2_with (first | (go_at_call_of 126 b; refine (cn.out _).mono ?_; rintro e w'' ⟨rfl, rfl⟩) | (go_at_call_of 126 q; refine (cm.out _).mono ?_; rintro e w'' ⟨rfl, rfl⟩))
      refine (CA.out _).mono ?_
      rintro e w2 ⟨rfl, hb2⟩
      replace bw : Below w.heap.size w w2 := below_next bw hb2
      replace HA := HA.call hb2
      replace HC := HC.call hb2
      have lw2 : w.heap.size ≤ w2.heap.size := bw.size
      clear hb2
      go_wp2_with fail
      refine (span_any _ _ _).mono ?_
      intro e w3 hp
      obtain ⟨hb3, hcase⟩ := hp.cases
      replace bw : Below w.heap.size w w3 := below_next bw hb3
      replace HA := HA.call hb3
      replace HC := HC.call hb3
      have lw3 : w.heap.size ≤ w3.heap.size := bw.size
      clear hb3
      rcases hcase with ⟨s, hs, rfl⟩ | ⟨c, hs, rfl⟩
      · obtain ⟨hcC, hfC⟩ := HC.facts
        go_wp2
        refine bodyPost_ret (run_results1 rfl rfl (by (show Hd _ (w.heap.size + 1) 23 #[.int .i64 s.lo, .int .i64 s.hi]); exact hdx) Try.underlying23 rfl (by kernel_rfl)) rfl (post_ok (HU.out.trans hs) (by go_grown))
      · exact ⟨rfl, post_err (HU.out.trans hs) (by go_grown)⟩
    · have h3 : (M / 18446744073709551616 != N / 18446744073709551616) = false := by simp [h1]
      have h4 : (M % 18446744073709551616 != N % 18446744073709551616) = true := by simp [h2]
      have hMe : ¬ M = N := by omega
      rw [if_neg hMe] at hun
      have HU := Lib.hid hun.out
      clear hun hMN hNN hMe h1 h2
      go_wp2_with (first | (go_at_call_of 126 b; refine (cn.out _).mono ?_; rintro e w'' ⟨rfl, rfl⟩) | (go_at_call_of 126 q; refine (cm.out _).mono ?_; rintro e w'' ⟨rfl, rfl⟩))
      refine (CA.out _).mono ?_
      rintro e w2 ⟨rfl, hb2⟩
      replace bw : Below w.heap.size w w2 := below_next bw hb2
      replace HA := HA.call hb2
      replace HC := HC.call hb2
      have lw2 : w.heap.size ≤ w2.heap.size := bw.size
      clear hb2
      go_wp2_with fail
      refine (span_any _ _ _).mono ?_
      intro e w3 hp
      obtain ⟨hb3, hcase⟩ := hp.cases
      replace bw : Below w.heap.size w w3 := below_next bw hb3
      replace HA := HA.call hb3
      replace HC := HC.call hb3
      have lw3 : w.heap.size ≤ w3.heap.size := bw.size
      clear hb3
      rcases hcase with ⟨s, hs, rfl⟩ | ⟨c, hs, rfl⟩
      · obtain ⟨hcC, hfC⟩ := HC.facts
        go_wp2
        refine bodyPost_ret (run_results1 rfl rfl (by (show Hd _ (w.heap.size + 1) 23 #[.int .i64 s.lo, .int .i64 s.hi]); exact hdx) Try.underlying23 rfl (by kernel_rfl)) rfl (post_ok (HU.out.trans hs) (by go_grown))
      · exact ⟨rfl, post_err (HU.out.trans hs) (by go_grown)⟩
  · have h3 : (M / 18446744073709551616 != N / 18446744073709551616) = true := by simp [h1]
    have hMe : ¬ M = N := by omega
    rw [if_neg hMe] at hun
    have HU := Lib.hid hun.out
    clear hun hMN hNN hMe h1
    go_wp2_with (first | (go_at_call_of 126 b; refine (cn.out _).mono ?_; rintro e w'' ⟨rfl, rfl⟩) | (go_at_call_of 126 q; refine (cm.out _).mono ?_; rintro e w'' ⟨rfl, rfl⟩))
    refine (CA.out _).mono ?_
    rintro e w2 ⟨rfl, hb2⟩
    replace bw : Below w.heap.size w w2 := below_next bw hb2
    replace HA := HA.call hb2
    replace HC := HC.call hb2
    have lw2 : w.heap.size ≤ w2.heap.size := bw.size
    clear hb2
    go_wp2_with fail
    refine (span_any _ _ _).mono ?_
    intro e w3 hp
    obtain ⟨hb3, hcase⟩ := hp.cases
    replace bw : Below w.heap.size w w3 := below_next bw hb3
    replace HA := HA.call hb3
    replace HC := HC.call hb3
    have lw3 : w.heap.size ≤ w3.heap.size := bw.size
    clear hb3
    rcases hcase with ⟨s, hs, rfl⟩ | ⟨c, hs, rfl⟩
    · obtain ⟨hcC, hfC⟩ := HC.facts
      go_wp2
      refine bodyPost_ret (run_results1 rfl rfl (by (show Hd _ (w.heap.size + 1) 23 #[.int .i64 s.lo, .int .i64 s.hi]); exact hdx) Try.underlying23 rfl (by kernel_rfl)) rfl (post_ok (HU.out.trans hs) (by go_grown))
    · exact ⟨rfl, post_err (HU.out.trans hs) (by go_grown)⟩

end Go.Proofs.Ytpbbbfglecbceaa
/- Package enclose: points, parts, quotients. -/
namespace Go.Proofs.Ytpbbbfglecbceaa
set_option linter.all false
open Go.RowKit

theorem real_any (s : En.Sp) (w : World) : Calls Try.prog 74 #[spV s] w fun e w' => e = .returned (rcV ⟨s, ⟨0, 0⟩⟩) ∧ Below w.heap.size w w' := by
  go_enter Try.func74, Try.ntmps74
  go_wp2
  refine bodyPost_ret (run_results1 rfl rfl (by (show Hd _ (w.heap.size + 1) 25 #[.int .i64 s.lo, .int .i64 s.hi, .int .i64 0, .int .i64 0]); exact hdx) Try.underlying25 rfl (by kernel_rfl)) rfl ⟨rfl, by go_grown⟩

theorem conj_any (x : En.Rc) (hx : x.fit) (w : World) : Calls Try.prog 117 #[rcV x] w fun e w' => e = .returned (rcV (En.conj x)) ∧ Below w.heap.size w w' := by
  have h1 := hx.im.a
  have h2 := hx.im.b
  have h3 := hx.im.c
  have h4 := hx.im.d
  go_enter Try.func117, Try.ntmps117
  go_wp2
  refine bodyPost_ret (run_results1 rfl rfl (by (show Hd _ (w.heap.size + 1) 25 #[.int .i64 x.re.lo, .int .i64 x.re.hi, .int .i64 (-x.im.hi), .int .i64 (-x.im.lo)]); exact hdx) Try.underlying25 rfl (by kernel_rfl)) rfl ⟨rfl, by go_grown⟩

theorem point_any (re im : Int) (r0 : -4096 ≤ re) (r1 : re ≤ 4096) (i0 : -4096 ≤ im) (i1 : im ≤ 4096) (w : World) : Calls Try.prog 78 #[.int .i64 re, .int .i64 im] w (Post rcV (En.point re im) w) := by
  go_enter Try.func78, Try.ntmps78
  go_wp2_with fail
  have HC : Hd (w.alloc (.cells #[.int .i64 0, .int .i64 0, .int .i64 0, .int .i64 0] 25)) w.heap.size 25 #[.int .i64 0, .int .i64 0, .int .i64 0, .int .i64 0] := hdx
  have bw : Below w.heap.size w (w.alloc (.cells #[.int .i64 0, .int .i64 0, .int .i64 0, .int .i64 0] 25)) := by go_grown
  refine (span_any _ _ _).mono ?_
  intro e w1 hp
  obtain ⟨hb1, hcase⟩ := hp.cases
  clear hp
  replace bw : Below w.heap.size w w1 := below_next bw hb1
  replace HC := HC.call hb1
  have lw1 : w.heap.size ≤ w1.heap.size := bw.size
  clear hb1
  rcases hcase with ⟨s1, hs1, rfl⟩ | ⟨c1, hs1, rfl⟩
  rotate_left
  · exact ⟨rfl, post_err (by simp only [En.point, ebind_ok, ebind_err, epure, hs1]) bw⟩
  go_wp2_with fail
  refine (span_any _ _ _).mono ?_
  intro e w2 hp
  obtain ⟨hb2, hcase⟩ := hp.cases
  clear hp
  replace bw : Below w.heap.size w w2 := below_next bw hb2
  replace HC := HC.call hb2
  have lw2 : w.heap.size ≤ w2.heap.size := bw.size
  clear hb2
  rcases hcase with ⟨s2, hs2, rfl⟩ | ⟨c2, hs2, rfl⟩
  rotate_left
  · exact ⟨rfl, post_err (by simp only [En.point, ebind_ok, ebind_err, epure, hs1, hs2]) bw⟩
  obtain ⟨hcC, hfC⟩ := HC.facts
  go_wp2
  refine bodyPost_ret (run_results1 rfl rfl (by (show Hd _ (w.heap.size) 25 #[.int .i64 s1.lo, .int .i64 s1.hi, .int .i64 s2.lo, .int .i64 s2.hi]); exact hdx) Try.underlying25 rfl (by kernel_rfl)) rfl (post_ok (s := ⟨s1, s2⟩) (by simp only [En.point, ebind_ok, ebind_err, epure, hs1, hs2]) (by go_grown))

end Go.Proofs.Ytpbbbfglecbceaa
/- Package enclose: quotients. -/
namespace Go.Proofs.Ytpbbbfglecbceaa
set_option linter.all false
open Go.RowKit

set_option maxHeartbeats 1000000 in
theorem quotient_any (x y : En.Rc) (hx : x.fit) (hy : y.fit) (w : World) : Calls Try.prog 77 #[rcV x, rcV y] w (Post rcV (En.quotient x y) w) := by
  go_enter Try.func77, Try.ntmps77
  go_wp2_with fail
  have HA : Hd (((w.alloc (.cells #[.int .i64 x.re.lo, .int .i64 x.re.hi, .int .i64 x.im.lo, .int .i64 x.im.hi] 25)).alloc (.cells #[.int .i64 y.re.lo, .int .i64 y.re.hi, .int .i64 y.im.lo, .int .i64 y.im.hi] 25)).alloc (.cells #[.int .i64 0, .int .i64 0, .int .i64 0, .int .i64 0] 25)) w.heap.size 25 #[.int .i64 x.re.lo, .int .i64 x.re.hi, .int .i64 x.im.lo, .int .i64 x.im.hi] := hdx
  have HB : Hd (((w.alloc (.cells #[.int .i64 x.re.lo, .int .i64 x.re.hi, .int .i64 x.im.lo, .int .i64 x.im.hi] 25)).alloc (.cells #[.int .i64 y.re.lo, .int .i64 y.re.hi, .int .i64 y.im.lo, .int .i64 y.im.hi] 25)).alloc (.cells #[.int .i64 0, .int .i64 0, .int .i64 0, .int .i64 0] 25)) (w.heap.size + 1) 25 #[.int .i64 y.re.lo, .int .i64 y.re.hi, .int .i64 y.im.lo, .int .i64 y.im.hi] := hdx
  have HC : Hd (((w.alloc (.cells #[.int .i64 x.re.lo, .int .i64 x.re.hi, .int .i64 x.im.lo, .int .i64 x.im.hi] 25)).alloc (.cells #[.int .i64 y.re.lo, .int .i64 y.re.hi, .int .i64 y.im.lo, .int .i64 y.im.hi] 25)).alloc (.cells #[.int .i64 0, .int .i64 0, .int .i64 0, .int .i64 0] 25)) (w.heap.size + 2) 25 #[.int .i64 0, .int .i64 0, .int .i64 0, .int .i64 0] := hdx
  have bw : Below w.heap.size w (((w.alloc (.cells #[.int .i64 x.re.lo, .int .i64 x.re.hi, .int .i64 x.im.lo, .int .i64 x.im.hi] 25)).alloc (.cells #[.int .i64 y.re.lo, .int .i64 y.re.hi, .int .i64 y.im.lo, .int .i64 y.im.hi] 25)).alloc (.cells #[.int .i64 0, .int .i64 0, .int .i64 0, .int .i64 0] 25)) := by go_grown
  refine (power_any y hy _).mono ?_
  intro e w1 hp
  obtain ⟨hb1, hcase⟩ := hp.cases
  clear hp
  replace bw : Below w.heap.size w w1 := below_next bw hb1
  replace HA := HA.call hb1
  replace HB := HB.call hb1
  replace HC := HC.call hb1
  have lw1 : w.heap.size ≤ w1.heap.size := bw.size
  clear hb1
  rcases hcase with ⟨s1, hs1, rfl⟩ | ⟨c1, hs1, rfl⟩
  rotate_left
  · exact ⟨rfl, post_err (by simp only [En.quotient, ebind_ok, ebind_err, epure, hs1]) bw⟩
  have hp1 := En.power_ok hs1
  by_cases hz : s1.lo ≤ 0
  · have hzh := Lib.hid hz
    go_wp2_with fail
    exact ⟨rfl, post_err (by simp only [En.quotient, hs1, ebind_ok]; exact if_pos hzh.out) (by go_grown)⟩
  have hzh : Hid (0 < s1.lo) := Lib.hid (by omega)
  go_wp2_with fail
  have ltAP : w.heap.size < w1.heap.size := HA.lt
  have ltBP : (w.heap.size + 1) < w1.heap.size := HB.lt
  have ltCP : (w.heap.size + 2) < w1.heap.size := HC.lt
  replace HA : Hd ((w1.alloc (.cells #[.int .i64 s1.lo, .int .i64 s1.hi] 23)).drew) w.heap.size 25 #[.int .i64 x.re.lo, .int .i64 x.re.hi, .int .i64 x.im.lo, .int .i64 x.im.hi] := hdx
  replace HB : Hd ((w1.alloc (.cells #[.int .i64 s1.lo, .int .i64 s1.hi] 23)).drew) (w.heap.size + 1) 25 #[.int .i64 y.re.lo, .int .i64 y.re.hi, .int .i64 y.im.lo, .int .i64 y.im.hi] := hdx
  replace HC : Hd ((w1.alloc (.cells #[.int .i64 s1.lo, .int .i64 s1.hi] 23)).drew) (w.heap.size + 2) 25 #[.int .i64 0, .int .i64 0, .int .i64 0, .int .i64 0] := hdx
  replace bw : Below w.heap.size w ((w1.alloc (.cells #[.int .i64 s1.lo, .int .i64 s1.hi] 23)).drew) := by go_grown
  have HP : Hd ((w1.alloc (.cells #[.int .i64 s1.lo, .int .i64 s1.hi] 23)).drew) w1.heap.size 23 #[.int .i64 s1.lo, .int .i64 s1.hi] := hdx
  (refine wp_region_fl (fun w' => Hd w' w.heap.size 25 #[.int .i64 x.re.lo, .int .i64 x.re.hi, .int .i64 x.im.lo, .int .i64 x.im.hi] ∧ Hd w' (w.heap.size + 1) 25 #[.int .i64 y.re.lo, .int .i64 y.re.hi, .int .i64 y.im.lo, .int .i64 y.im.hi] ∧ Below w.heap.size w w') 4 [(0, 0), (1, 0), (2, 2), (3, 2), (4, 1), (5, 1)] (by kernel_rfl) (by kernel_rfl) (fun c d v a w h => by cases d <;> exact h) ⟨HA, HB, bw⟩ ?_; simp only [List.map_cons, List.map_nil, List.getD_cons_zero, List.getD_cons_succ, flMark, Nat.reduceEqDiff, ↓reduceIte])
  repeat ((first | with_reducible apply fl_move | with_reducible apply fl_assign | ((with_reducible refine fl_soft (v := ?_) (fun w' hw' => ?_) ?_); rotate_left 1; (focus (obtain ⟨hA, hB, hBw⟩ := hw'; obtain ⟨hcA, hfA⟩ := hA.facts; obtain ⟨hcB, hfB⟩ := hB.facts; go_simp; (try with_reducible rfl); done)))); simp only [Act.put, Act.eval, qs])
  refine fl_both ?_ ?_
  · go_wp2_with fail
    refine (conj_any y hy _).mono ?_
    rintro e w2 ⟨rfl, hb2⟩
    replace bw : Below w.heap.size w w2 := below_next bw hb2
    replace HA := HA.call hb2
    replace HB := HB.call hb2
    replace HC := HC.call hb2
    replace HP := HP.call hb2
    have lw2 : w.heap.size ≤ w2.heap.size := bw.size
    clear hb2
    go_wp2_with fail
    refine ⟨⟨HA, HB, bw⟩, ?_⟩
    repeat ((first | with_reducible apply fl_move | with_reducible apply fl_assign | ((with_reducible refine fl_soft (v := ?_) (fun w' hw' => ?_) ?_); rotate_left 1; (focus (obtain ⟨hA, hB, hBw⟩ := hw'; obtain ⟨hcA, hfA⟩ := hA.facts; obtain ⟨hcB, hfB⟩ := hB.facts; go_simp; (try with_reducible rfl); done)))); simp only [Act.put, Act.eval, qs])
    refine fl_both ?_ ?_
    · go_wp2_with fail
      refine (times_any x (En.conj y) hx (En.conj_fit hy) _).mono ?_
      intro e w3 hp
      obtain ⟨hb3, hcase⟩ := hp.cases
      clear hp
      replace bw : Below w.heap.size w w3 := below_next bw hb3
      replace HA := HA.call hb3
      replace HB := HB.call hb3
      replace HC := HC.call hb3
      replace HP := HP.call hb3
      have lw3 : w.heap.size ≤ w3.heap.size := bw.size
      clear hb3
      rcases hcase with ⟨s3, hs3, rfl⟩ | ⟨c3, hs3, rfl⟩
      rotate_left
      · exact ⟨rfl, post_err (by simp only [En.quotient, ebind_ok, ebind_err, epure, hs1, if_neg (Int.not_le.mpr hzh.out), hs3]) bw⟩
      go_wp2_with fail
      refine ⟨⟨HA, HB, bw⟩, ?_⟩
      repeat ((first | with_reducible apply fl_move | with_reducible apply fl_assign | ((with_reducible refine fl_soft (v := ?_) (fun w' hw' => ?_) ?_); rotate_left 1; (focus (obtain ⟨hA, hB, hBw⟩ := hw'; obtain ⟨hcA, hfA⟩ := hA.facts; obtain ⟨hcB, hfB⟩ := hB.facts; go_simp; (try with_reducible rfl); done)))); simp only [Act.put, Act.eval, qs])
      refine fl_must ?_
      go_wp2_with fail
      have PA := HA
      have PB := HB
      have PC := HC
      have PP := HP
      have Pbw := bw
      have ltAO : w.heap.size < w3.heap.size := by (have := HA.lt; (try simp only [World.size_alloc, World.size_setCell, World.size_drew] at this); omega)
      have ltBO : (w.heap.size + 1) < w3.heap.size := by (have := HB.lt; (try simp only [World.size_alloc, World.size_setCell, World.size_drew] at this); omega)
      have ltCO : (w.heap.size + 2) < w3.heap.size := by (have := HC.lt; (try simp only [World.size_alloc, World.size_setCell, World.size_drew] at this); omega)
      have ltPO : w1.heap.size < w3.heap.size := by (have := HP.lt; (try simp only [World.size_alloc, World.size_setCell, World.size_drew] at this); omega)
      replace HA : Hd (w3.alloc (.cells #[.int .i64 0, .int .i64 0, .int .i64 0, .int .i64 0] 25)) w.heap.size 25 #[.int .i64 x.re.lo, .int .i64 x.re.hi, .int .i64 x.im.lo, .int .i64 x.im.hi] := hdx
      replace HB : Hd (w3.alloc (.cells #[.int .i64 0, .int .i64 0, .int .i64 0, .int .i64 0] 25)) (w.heap.size + 1) 25 #[.int .i64 y.re.lo, .int .i64 y.re.hi, .int .i64 y.im.lo, .int .i64 y.im.hi] := hdx
      replace HC : Hd (w3.alloc (.cells #[.int .i64 0, .int .i64 0, .int .i64 0, .int .i64 0] 25)) (w.heap.size + 2) 25 #[.int .i64 0, .int .i64 0, .int .i64 0, .int .i64 0] := hdx
      replace HP : Hd (w3.alloc (.cells #[.int .i64 0, .int .i64 0, .int .i64 0, .int .i64 0] 25)) w1.heap.size 23 #[.int .i64 s1.lo, .int .i64 s1.hi] := hdx
      replace bw : Below w.heap.size w (w3.alloc (.cells #[.int .i64 0, .int .i64 0, .int .i64 0, .int .i64 0] 25)) := by go_grown
      have HO : Hd (w3.alloc (.cells #[.int .i64 0, .int .i64 0, .int .i64 0, .int .i64 0] 25)) w3.heap.size 25 #[.int .i64 0, .int .i64 0, .int .i64 0, .int .i64 0] := hdx
      refine ⟨⟨HA, HB, bw⟩, ?_⟩
      repeat ((first | with_reducible apply fl_move | with_reducible apply fl_assign | ((with_reducible refine fl_soft (v := ?_) (fun w' hw' => ?_) ?_); rotate_left 1; (focus (obtain ⟨hA, hB, hBw⟩ := hw'; obtain ⟨hcA, hfA⟩ := hA.facts; obtain ⟨hcB, hfB⟩ := hB.facts; go_simp; (try with_reducible rfl); done)))); simp only [Act.put, Act.eval, qs])
      repeat ((first | with_reducible apply fl_move | with_reducible apply fl_assign | ((with_reducible refine fl_soft (v := ?_) (fun w' hw' => ?_) ?_); rotate_left 1; (focus (obtain ⟨hA, hB, hBw⟩ := hw'; obtain ⟨hcA, hfA⟩ := hA.facts; obtain ⟨hcB, hfB⟩ := hB.facts; go_simp; (try with_reducible rfl); done)))); simp only [Act.put, Act.eval, qs])
      refine fl_hard ?_
      obtain ⟨hcO, hfO⟩ := HO.facts
      go_wp2_with fail
      replace HA : Hd (w3.alloc (.cells #[.int .i64 s3.re.lo, .int .i64 s3.re.hi, .int .i64 s3.im.lo, .int .i64 s3.im.hi] 25)) w.heap.size 25 #[.int .i64 x.re.lo, .int .i64 x.re.hi, .int .i64 x.im.lo, .int .i64 x.im.hi] := hdx
      replace HB : Hd (w3.alloc (.cells #[.int .i64 s3.re.lo, .int .i64 s3.re.hi, .int .i64 s3.im.lo, .int .i64 s3.im.hi] 25)) (w.heap.size + 1) 25 #[.int .i64 y.re.lo, .int .i64 y.re.hi, .int .i64 y.im.lo, .int .i64 y.im.hi] := hdx
      replace HC : Hd (w3.alloc (.cells #[.int .i64 s3.re.lo, .int .i64 s3.re.hi, .int .i64 s3.im.lo, .int .i64 s3.im.hi] 25)) (w.heap.size + 2) 25 #[.int .i64 0, .int .i64 0, .int .i64 0, .int .i64 0] := hdx
      replace HP : Hd (w3.alloc (.cells #[.int .i64 s3.re.lo, .int .i64 s3.re.hi, .int .i64 s3.im.lo, .int .i64 s3.im.hi] 25)) w1.heap.size 23 #[.int .i64 s1.lo, .int .i64 s1.hi] := hdx
      replace HO : Hd (w3.alloc (.cells #[.int .i64 s3.re.lo, .int .i64 s3.re.hi, .int .i64 s3.im.lo, .int .i64 s3.im.hi] 25)) w3.heap.size 25 #[.int .i64 s3.re.lo, .int .i64 s3.re.hi, .int .i64 s3.im.lo, .int .i64 s3.im.hi] := hdx
      replace bw : Below w.heap.size w (w3.alloc (.cells #[.int .i64 s3.re.lo, .int .i64 s3.re.hi, .int .i64 s3.im.lo, .int .i64 s3.im.hi] 25)) := by go_grown
      refine ⟨⟨HA, HB, bw⟩, ?_⟩
      repeat ((first | with_reducible apply fl_move | with_reducible apply fl_assign | ((with_reducible refine fl_soft (v := ?_) (fun w' hw' => ?_) ?_); rotate_left 1; (focus (obtain ⟨hA, hB, hBw⟩ := hw'; obtain ⟨hcA, hfA⟩ := hA.facts; obtain ⟨hcB, hfB⟩ := hB.facts; go_simp; (try with_reducible rfl); done)))); simp only [Act.put, Act.eval, qs])
      refine fl_nil ?_
      generalize hW : w3.alloc (.cells #[.int .i64 s3.re.lo, .int .i64 s3.re.hi, .int .i64 s3.im.lo, .int .i64 s3.im.hi] 25) = w4 at HA HB HC HP HO bw ⊢
      clear hW
      have lw4 : w.heap.size ≤ w4.heap.size := bw.size
      have hzo := En.Rc.fit_of_ok (En.times_ok hs3)
      go_wp2_with fail
      replace HA : Hd (w4.drew) w.heap.size 25 #[.int .i64 x.re.lo, .int .i64 x.re.hi, .int .i64 x.im.lo, .int .i64 x.im.hi] := hdx
      replace HB : Hd (w4.drew) (w.heap.size + 1) 25 #[.int .i64 y.re.lo, .int .i64 y.re.hi, .int .i64 y.im.lo, .int .i64 y.im.hi] := hdx
      replace HC : Hd (w4.drew) (w.heap.size + 2) 25 #[.int .i64 0, .int .i64 0, .int .i64 0, .int .i64 0] := hdx
      replace HP : Hd (w4.drew) w1.heap.size 23 #[.int .i64 s1.lo, .int .i64 s1.hi] := hdx
      replace HO : Hd (w4.drew) w3.heap.size 25 #[.int .i64 s3.re.lo, .int .i64 s3.re.hi, .int .i64 s3.im.lo, .int .i64 s3.im.hi] := hdx
      replace bw : Below w.heap.size w (w4.drew) := by go_grown
      (refine wp_region_eag (fun w' => Hd w' w3.heap.size 25 #[.int .i64 s3.re.lo, .int .i64 s3.re.hi, .int .i64 s3.im.lo, .int .i64 s3.im.hi] ∧ Hd w' w1.heap.size 23 #[.int .i64 s1.lo, .int .i64 s1.hi] ∧ Below w.heap.size w w') [(0, true), (1, true), (2, true), (4, true), (5, true), (6, true), (3, false), (7, false), (8, true), (9, false)] (by kernel_rfl) (by kernel_rfl) (fun c d v a w h => by cases d <;> exact h) ⟨HO, HP, bw⟩ ?_; simp only [List.map_cons, List.map_nil, List.getD_cons_zero, List.getD_cons_succ, flMark, Nat.reduceEqDiff, ↓reduceIte])
      repeat ((first | with_reducible apply eag_move | with_reducible apply eag_assign | ((with_reducible refine eag_soft (v := ?_) (fun w' hw' => ?_) ?_); rotate_left 1; (focus (obtain ⟨hO, hP, hBw⟩ := hw'; obtain ⟨hcO, hfO⟩ := hO.facts; obtain ⟨hcP, hfP⟩ := hP.facts; go_simp; (try with_reducible rfl); done)))); simp only [Act.put, Act.eval, qs])
      refine eag_hard ?_
      go_wp2_with fail
      refine (div_any s3.re s1 hzo.re hp1 _).mono ?_
      intro e w5 hp
      obtain ⟨hb5, hcase⟩ := hp.cases
      clear hp
      replace bw : Below w.heap.size w w5 := below_next bw hb5
      replace HA := HA.call hb5
      replace HB := HB.call hb5
      replace HC := HC.call hb5
      replace HP := HP.call hb5
      replace HO := HO.call hb5
      have lw5 : w.heap.size ≤ w5.heap.size := bw.size
      clear hb5
      rcases hcase with ⟨s5, hs5, rfl⟩ | ⟨c5, hs5, rfl⟩
      rotate_left
      · exact ⟨rfl, post_err (by simp only [En.quotient, ebind_ok, ebind_err, epure, hs1, if_neg (Int.not_le.mpr hzh.out), hs3, hs5]) bw⟩
      go_wp2_with fail
      refine ⟨⟨HO, HP, bw⟩, ?_⟩
      repeat ((first | with_reducible apply eag_move | with_reducible apply eag_assign | ((with_reducible refine eag_soft (v := ?_) (fun w' hw' => ?_) ?_); rotate_left 1; (focus (obtain ⟨hO, hP, hBw⟩ := hw'; obtain ⟨hcO, hfO⟩ := hO.facts; obtain ⟨hcP, hfP⟩ := hP.facts; go_simp; (try with_reducible rfl); done)))); simp only [Act.put, Act.eval, qs])
      refine eag_hard ?_
      go_wp2_with fail
      refine (div_any s3.im s1 hzo.im hp1 _).mono ?_
      intro e w6 hp
      obtain ⟨hb6, hcase⟩ := hp.cases
      clear hp
      replace bw : Below w.heap.size w w6 := below_next bw hb6
      replace HA := HA.call hb6
      replace HB := HB.call hb6
      replace HC := HC.call hb6
      replace HP := HP.call hb6
      replace HO := HO.call hb6
      have lw6 : w.heap.size ≤ w6.heap.size := bw.size
      clear hb6
      rcases hcase with ⟨s6, hs6, rfl⟩ | ⟨c6, hs6, rfl⟩
      rotate_left
      · exact ⟨rfl, post_err (by simp only [En.quotient, ebind_ok, ebind_err, epure, hs1, if_neg (Int.not_le.mpr hzh.out), hs3, hs5, hs6]) bw⟩
      go_wp2_with fail
      refine ⟨⟨HO, HP, bw⟩, ?_⟩
      repeat ((first | with_reducible apply eag_move | with_reducible apply eag_assign | ((with_reducible refine eag_soft (v := ?_) (fun w' hw' => ?_) ?_); rotate_left 1; (focus (obtain ⟨hO, hP, hBw⟩ := hw'; obtain ⟨hcO, hfO⟩ := hO.facts; obtain ⟨hcP, hfP⟩ := hP.facts; go_simp; (try with_reducible rfl); done)))); simp only [Act.put, Act.eval, qs])
      obtain ⟨hcC, hfC⟩ := HC.facts
      refine eag_hard ?_
      go_wp2_with fail
      refine ⟨⟨by exact hdx, by exact hdx, by go_grown⟩, ?_⟩
      refine eag_nil ?_
      go_wp2
      refine bodyPost_ret (run_results1 rfl rfl (by (show Hd _ (w.heap.size + 2) 25 #[.int .i64 s5.lo, .int .i64 s5.hi, .int .i64 s6.lo, .int .i64 s6.hi]); exact hdx) Try.underlying25 rfl (by kernel_rfl)) rfl (post_ok (s := ⟨s5, s6⟩) (by simp only [En.quotient, ebind_ok, ebind_err, epure, hs1, if_neg (Int.not_le.mpr hzh.out), hs3, hs5, hs6]) (by go_grown))
    · go_wp2_with fail
      have PA := HA
      have PB := HB
      have PC := HC
      have PP := HP
      have Pbw := bw
      have ltAO : w.heap.size < w2.heap.size := by (have := HA.lt; (try simp only [World.size_alloc, World.size_setCell, World.size_drew] at this); omega)
      have ltBO : (w.heap.size + 1) < w2.heap.size := by (have := HB.lt; (try simp only [World.size_alloc, World.size_setCell, World.size_drew] at this); omega)
      have ltCO : (w.heap.size + 2) < w2.heap.size := by (have := HC.lt; (try simp only [World.size_alloc, World.size_setCell, World.size_drew] at this); omega)
      have ltPO : w1.heap.size < w2.heap.size := by (have := HP.lt; (try simp only [World.size_alloc, World.size_setCell, World.size_drew] at this); omega)
      replace HA : Hd (w2.alloc (.cells #[.int .i64 0, .int .i64 0, .int .i64 0, .int .i64 0] 25)) w.heap.size 25 #[.int .i64 x.re.lo, .int .i64 x.re.hi, .int .i64 x.im.lo, .int .i64 x.im.hi] := hdx
      replace HB : Hd (w2.alloc (.cells #[.int .i64 0, .int .i64 0, .int .i64 0, .int .i64 0] 25)) (w.heap.size + 1) 25 #[.int .i64 y.re.lo, .int .i64 y.re.hi, .int .i64 y.im.lo, .int .i64 y.im.hi] := hdx
      replace HC : Hd (w2.alloc (.cells #[.int .i64 0, .int .i64 0, .int .i64 0, .int .i64 0] 25)) (w.heap.size + 2) 25 #[.int .i64 0, .int .i64 0, .int .i64 0, .int .i64 0] := hdx
      replace HP : Hd (w2.alloc (.cells #[.int .i64 0, .int .i64 0, .int .i64 0, .int .i64 0] 25)) w1.heap.size 23 #[.int .i64 s1.lo, .int .i64 s1.hi] := hdx
      replace bw : Below w.heap.size w (w2.alloc (.cells #[.int .i64 0, .int .i64 0, .int .i64 0, .int .i64 0] 25)) := by go_grown
      have HO : Hd (w2.alloc (.cells #[.int .i64 0, .int .i64 0, .int .i64 0, .int .i64 0] 25)) w2.heap.size 25 #[.int .i64 0, .int .i64 0, .int .i64 0, .int .i64 0] := hdx
      refine ⟨⟨HA, HB, bw⟩, ?_⟩
      repeat ((first | with_reducible apply eag_move | with_reducible apply eag_assign | ((with_reducible refine eag_soft (v := ?_) (fun w' hw' => ?_) ?_); rotate_left 1; (focus (obtain ⟨hA, hB, hBw⟩ := hw'; obtain ⟨hcA, hfA⟩ := hA.facts; obtain ⟨hcB, hfB⟩ := hB.facts; go_simp; (try with_reducible rfl); done)))); simp only [Act.put, Act.eval, qs])
      repeat ((first | with_reducible apply eag_move | with_reducible apply eag_assign | ((with_reducible refine eag_soft (v := ?_) (fun w' hw' => ?_) ?_); rotate_left 1; (focus (obtain ⟨hA, hB, hBw⟩ := hw'; obtain ⟨hcA, hfA⟩ := hA.facts; obtain ⟨hcB, hfB⟩ := hB.facts; go_simp; (try with_reducible rfl); done)))); simp only [Act.put, Act.eval, qs])
      refine eag_hard ?_
      go_wp2_with fail
      refine (times_any x (En.conj y) hx (En.conj_fit hy) _).mono ?_
      intro e w3 hp
      obtain ⟨hb3, hcase⟩ := hp.cases
      clear hp
      replace bw : Below w.heap.size w w3 := below_next bw hb3
      replace HA := HA.call hb3
      replace HB := HB.call hb3
      replace HC := HC.call hb3
      replace HP := HP.call hb3
      replace HO := HO.call hb3
      have lw3 : w.heap.size ≤ w3.heap.size := bw.size
      clear hb3
      rcases hcase with ⟨s3, hs3, rfl⟩ | ⟨c3, hs3, rfl⟩
      rotate_left
      · exact ⟨rfl, post_err (by simp only [En.quotient, ebind_ok, ebind_err, epure, hs1, if_neg (Int.not_le.mpr hzh.out), hs3]) bw⟩
      go_wp2_with fail
      refine ⟨⟨HA, HB, bw⟩, ?_⟩
      repeat ((first | with_reducible apply eag_move | with_reducible apply eag_assign | ((with_reducible refine eag_soft (v := ?_) (fun w' hw' => ?_) ?_); rotate_left 1; (focus (obtain ⟨hA, hB, hBw⟩ := hw'; obtain ⟨hcA, hfA⟩ := hA.facts; obtain ⟨hcB, hfB⟩ := hB.facts; go_simp; (try with_reducible rfl); done)))); simp only [Act.put, Act.eval, qs])
      refine eag_hard ?_
      obtain ⟨hcO, hfO⟩ := HO.facts
      go_wp2_with fail
      replace HA : Hd ((((w3.setCell ⟨w2.heap.size, 0, none⟩ (.int .i64 s3.re.lo)).setCell ⟨w2.heap.size, 1, none⟩ (.int .i64 s3.re.hi)).setCell ⟨w2.heap.size, 2, none⟩ (.int .i64 s3.im.lo)).setCell ⟨w2.heap.size, 3, none⟩ (.int .i64 s3.im.hi)) w.heap.size 25 #[.int .i64 x.re.lo, .int .i64 x.re.hi, .int .i64 x.im.lo, .int .i64 x.im.hi] := hdx
      replace HB : Hd ((((w3.setCell ⟨w2.heap.size, 0, none⟩ (.int .i64 s3.re.lo)).setCell ⟨w2.heap.size, 1, none⟩ (.int .i64 s3.re.hi)).setCell ⟨w2.heap.size, 2, none⟩ (.int .i64 s3.im.lo)).setCell ⟨w2.heap.size, 3, none⟩ (.int .i64 s3.im.hi)) (w.heap.size + 1) 25 #[.int .i64 y.re.lo, .int .i64 y.re.hi, .int .i64 y.im.lo, .int .i64 y.im.hi] := hdx
      replace HC : Hd ((((w3.setCell ⟨w2.heap.size, 0, none⟩ (.int .i64 s3.re.lo)).setCell ⟨w2.heap.size, 1, none⟩ (.int .i64 s3.re.hi)).setCell ⟨w2.heap.size, 2, none⟩ (.int .i64 s3.im.lo)).setCell ⟨w2.heap.size, 3, none⟩ (.int .i64 s3.im.hi)) (w.heap.size + 2) 25 #[.int .i64 0, .int .i64 0, .int .i64 0, .int .i64 0] := hdx
      replace HP : Hd ((((w3.setCell ⟨w2.heap.size, 0, none⟩ (.int .i64 s3.re.lo)).setCell ⟨w2.heap.size, 1, none⟩ (.int .i64 s3.re.hi)).setCell ⟨w2.heap.size, 2, none⟩ (.int .i64 s3.im.lo)).setCell ⟨w2.heap.size, 3, none⟩ (.int .i64 s3.im.hi)) w1.heap.size 23 #[.int .i64 s1.lo, .int .i64 s1.hi] := hdx
      replace HO : Hd ((((w3.setCell ⟨w2.heap.size, 0, none⟩ (.int .i64 s3.re.lo)).setCell ⟨w2.heap.size, 1, none⟩ (.int .i64 s3.re.hi)).setCell ⟨w2.heap.size, 2, none⟩ (.int .i64 s3.im.lo)).setCell ⟨w2.heap.size, 3, none⟩ (.int .i64 s3.im.hi)) w2.heap.size 25 #[.int .i64 s3.re.lo, .int .i64 s3.re.hi, .int .i64 s3.im.lo, .int .i64 s3.im.hi] := hdx
      replace bw : Below w.heap.size w ((((w3.setCell ⟨w2.heap.size, 0, none⟩ (.int .i64 s3.re.lo)).setCell ⟨w2.heap.size, 1, none⟩ (.int .i64 s3.re.hi)).setCell ⟨w2.heap.size, 2, none⟩ (.int .i64 s3.im.lo)).setCell ⟨w2.heap.size, 3, none⟩ (.int .i64 s3.im.hi)) := by go_grown
      refine ⟨⟨HA, HB, bw⟩, ?_⟩
      repeat ((first | with_reducible apply eag_move | with_reducible apply eag_assign | ((with_reducible refine eag_soft (v := ?_) (fun w' hw' => ?_) ?_); rotate_left 1; (focus (obtain ⟨hA, hB, hBw⟩ := hw'; obtain ⟨hcA, hfA⟩ := hA.facts; obtain ⟨hcB, hfB⟩ := hB.facts; go_simp; (try with_reducible rfl); done)))); simp only [Act.put, Act.eval, qs])
      refine eag_nil ?_
      generalize hW : (((w3.setCell ⟨w2.heap.size, 0, none⟩ (.int .i64 s3.re.lo)).setCell ⟨w2.heap.size, 1, none⟩ (.int .i64 s3.re.hi)).setCell ⟨w2.heap.size, 2, none⟩ (.int .i64 s3.im.lo)).setCell ⟨w2.heap.size, 3, none⟩ (.int .i64 s3.im.hi) = w4 at HA HB HC HP HO bw ⊢
      clear hW
      have lw4 : w.heap.size ≤ w4.heap.size := bw.size
      have hzo := En.Rc.fit_of_ok (En.times_ok hs3)
      go_wp2_with fail
      replace HA : Hd (w4.drew) w.heap.size 25 #[.int .i64 x.re.lo, .int .i64 x.re.hi, .int .i64 x.im.lo, .int .i64 x.im.hi] := hdx
      replace HB : Hd (w4.drew) (w.heap.size + 1) 25 #[.int .i64 y.re.lo, .int .i64 y.re.hi, .int .i64 y.im.lo, .int .i64 y.im.hi] := hdx
      replace HC : Hd (w4.drew) (w.heap.size + 2) 25 #[.int .i64 0, .int .i64 0, .int .i64 0, .int .i64 0] := hdx
      replace HP : Hd (w4.drew) w1.heap.size 23 #[.int .i64 s1.lo, .int .i64 s1.hi] := hdx
      replace HO : Hd (w4.drew) w2.heap.size 25 #[.int .i64 s3.re.lo, .int .i64 s3.re.hi, .int .i64 s3.im.lo, .int .i64 s3.im.hi] := hdx
      replace bw : Below w.heap.size w (w4.drew) := by go_grown
      (refine wp_region_eag (fun w' => Hd w' w2.heap.size 25 #[.int .i64 s3.re.lo, .int .i64 s3.re.hi, .int .i64 s3.im.lo, .int .i64 s3.im.hi] ∧ Hd w' w1.heap.size 23 #[.int .i64 s1.lo, .int .i64 s1.hi] ∧ Below w.heap.size w w') [(0, true), (1, true), (2, true), (4, true), (5, true), (6, true), (3, false), (7, false), (8, true), (9, false)] (by kernel_rfl) (by kernel_rfl) (fun c d v a w h => by cases d <;> exact h) ⟨HO, HP, bw⟩ ?_; simp only [List.map_cons, List.map_nil, List.getD_cons_zero, List.getD_cons_succ, flMark, Nat.reduceEqDiff, ↓reduceIte])
      repeat ((first | with_reducible apply eag_move | with_reducible apply eag_assign | ((with_reducible refine eag_soft (v := ?_) (fun w' hw' => ?_) ?_); rotate_left 1; (focus (obtain ⟨hO, hP, hBw⟩ := hw'; obtain ⟨hcO, hfO⟩ := hO.facts; obtain ⟨hcP, hfP⟩ := hP.facts; go_simp; (try with_reducible rfl); done)))); simp only [Act.put, Act.eval, qs])
      refine eag_hard ?_
      go_wp2_with fail
      refine (div_any s3.re s1 hzo.re hp1 _).mono ?_
      intro e w5 hp
      obtain ⟨hb5, hcase⟩ := hp.cases
      clear hp
      replace bw : Below w.heap.size w w5 := below_next bw hb5
      replace HA := HA.call hb5
      replace HB := HB.call hb5
      replace HC := HC.call hb5
      replace HP := HP.call hb5
      replace HO := HO.call hb5
      have lw5 : w.heap.size ≤ w5.heap.size := bw.size
      clear hb5
      rcases hcase with ⟨s5, hs5, rfl⟩ | ⟨c5, hs5, rfl⟩
      rotate_left
      · exact ⟨rfl, post_err (by simp only [En.quotient, ebind_ok, ebind_err, epure, hs1, if_neg (Int.not_le.mpr hzh.out), hs3, hs5]) bw⟩
      go_wp2_with fail
      refine ⟨⟨HO, HP, bw⟩, ?_⟩
      repeat ((first | with_reducible apply eag_move | with_reducible apply eag_assign | ((with_reducible refine eag_soft (v := ?_) (fun w' hw' => ?_) ?_); rotate_left 1; (focus (obtain ⟨hO, hP, hBw⟩ := hw'; obtain ⟨hcO, hfO⟩ := hO.facts; obtain ⟨hcP, hfP⟩ := hP.facts; go_simp; (try with_reducible rfl); done)))); simp only [Act.put, Act.eval, qs])
      refine eag_hard ?_
      go_wp2_with fail
      refine (div_any s3.im s1 hzo.im hp1 _).mono ?_
      intro e w6 hp
      obtain ⟨hb6, hcase⟩ := hp.cases
      clear hp
      replace bw : Below w.heap.size w w6 := below_next bw hb6
      replace HA := HA.call hb6
      replace HB := HB.call hb6
      replace HC := HC.call hb6
      replace HP := HP.call hb6
      replace HO := HO.call hb6
      have lw6 : w.heap.size ≤ w6.heap.size := bw.size
      clear hb6
      rcases hcase with ⟨s6, hs6, rfl⟩ | ⟨c6, hs6, rfl⟩
      rotate_left
      · exact ⟨rfl, post_err (by simp only [En.quotient, ebind_ok, ebind_err, epure, hs1, if_neg (Int.not_le.mpr hzh.out), hs3, hs5, hs6]) bw⟩
      go_wp2_with fail
      refine ⟨⟨HO, HP, bw⟩, ?_⟩
      repeat ((first | with_reducible apply eag_move | with_reducible apply eag_assign | ((with_reducible refine eag_soft (v := ?_) (fun w' hw' => ?_) ?_); rotate_left 1; (focus (obtain ⟨hO, hP, hBw⟩ := hw'; obtain ⟨hcO, hfO⟩ := hO.facts; obtain ⟨hcP, hfP⟩ := hP.facts; go_simp; (try with_reducible rfl); done)))); simp only [Act.put, Act.eval, qs])
      obtain ⟨hcC, hfC⟩ := HC.facts
      refine eag_hard ?_
      go_wp2_with fail
      refine ⟨⟨by exact hdx, by exact hdx, by go_grown⟩, ?_⟩
      refine eag_nil ?_
      go_wp2
      refine bodyPost_ret (run_results1 rfl rfl (by (show Hd _ (w.heap.size + 2) 25 #[.int .i64 s5.lo, .int .i64 s5.hi, .int .i64 s6.lo, .int .i64 s6.hi]); exact hdx) Try.underlying25 rfl (by kernel_rfl)) rfl (post_ok (s := ⟨s5, s6⟩) (by simp only [En.quotient, ebind_ok, ebind_err, epure, hs1, if_neg (Int.not_le.mpr hzh.out), hs3, hs5, hs6]) (by go_grown))
  · go_wp2_with fail
    have PA := HA
    have PB := HB
    have PC := HC
    have PP := HP
    have Pbw := bw
    have ltAO : w.heap.size < (w1.heap.size + 1) := by (have := HA.lt; (try simp only [World.size_alloc, World.size_setCell, World.size_drew] at this); omega)
    have ltBO : (w.heap.size + 1) < (w1.heap.size + 1) := by (have := HB.lt; (try simp only [World.size_alloc, World.size_setCell, World.size_drew] at this); omega)
    have ltCO : (w.heap.size + 2) < (w1.heap.size + 1) := by (have := HC.lt; (try simp only [World.size_alloc, World.size_setCell, World.size_drew] at this); omega)
    have ltPO : w1.heap.size < (w1.heap.size + 1) := by (have := HP.lt; (try simp only [World.size_alloc, World.size_setCell, World.size_drew] at this); omega)
    replace HA : Hd (((w1.alloc (.cells #[.int .i64 s1.lo, .int .i64 s1.hi] 23)).drew).alloc (.cells #[.int .i64 0, .int .i64 0, .int .i64 0, .int .i64 0] 25)) w.heap.size 25 #[.int .i64 x.re.lo, .int .i64 x.re.hi, .int .i64 x.im.lo, .int .i64 x.im.hi] := hdx
    replace HB : Hd (((w1.alloc (.cells #[.int .i64 s1.lo, .int .i64 s1.hi] 23)).drew).alloc (.cells #[.int .i64 0, .int .i64 0, .int .i64 0, .int .i64 0] 25)) (w.heap.size + 1) 25 #[.int .i64 y.re.lo, .int .i64 y.re.hi, .int .i64 y.im.lo, .int .i64 y.im.hi] := hdx
    replace HC : Hd (((w1.alloc (.cells #[.int .i64 s1.lo, .int .i64 s1.hi] 23)).drew).alloc (.cells #[.int .i64 0, .int .i64 0, .int .i64 0, .int .i64 0] 25)) (w.heap.size + 2) 25 #[.int .i64 0, .int .i64 0, .int .i64 0, .int .i64 0] := hdx
    replace HP : Hd (((w1.alloc (.cells #[.int .i64 s1.lo, .int .i64 s1.hi] 23)).drew).alloc (.cells #[.int .i64 0, .int .i64 0, .int .i64 0, .int .i64 0] 25)) w1.heap.size 23 #[.int .i64 s1.lo, .int .i64 s1.hi] := hdx
    replace bw : Below w.heap.size w (((w1.alloc (.cells #[.int .i64 s1.lo, .int .i64 s1.hi] 23)).drew).alloc (.cells #[.int .i64 0, .int .i64 0, .int .i64 0, .int .i64 0] 25)) := by go_grown
    have HO : Hd (((w1.alloc (.cells #[.int .i64 s1.lo, .int .i64 s1.hi] 23)).drew).alloc (.cells #[.int .i64 0, .int .i64 0, .int .i64 0, .int .i64 0] 25)) (w1.heap.size + 1) 25 #[.int .i64 0, .int .i64 0, .int .i64 0, .int .i64 0] := hdx
    refine ⟨⟨HA, HB, bw⟩, ?_⟩
    repeat ((first | with_reducible apply eag_move | with_reducible apply eag_assign | ((with_reducible refine eag_soft (v := ?_) (fun w' hw' => ?_) ?_); rotate_left 1; (focus (obtain ⟨hA, hB, hBw⟩ := hw'; obtain ⟨hcA, hfA⟩ := hA.facts; obtain ⟨hcB, hfB⟩ := hB.facts; go_simp; (try with_reducible rfl); done)))); simp only [Act.put, Act.eval, qs])
    repeat ((first | with_reducible apply eag_move | with_reducible apply eag_assign | ((with_reducible refine eag_soft (v := ?_) (fun w' hw' => ?_) ?_); rotate_left 1; (focus (obtain ⟨hA, hB, hBw⟩ := hw'; obtain ⟨hcA, hfA⟩ := hA.facts; obtain ⟨hcB, hfB⟩ := hB.facts; go_simp; (try with_reducible rfl); done)))); simp only [Act.put, Act.eval, qs])
    refine eag_hard ?_
    go_wp2_with fail
    refine (conj_any y hy _).mono ?_
    rintro e w2 ⟨rfl, hb2⟩
    replace bw : Below w.heap.size w w2 := below_next bw hb2
    replace HA := HA.call hb2
    replace HB := HB.call hb2
    replace HC := HC.call hb2
    replace HP := HP.call hb2
    replace HO := HO.call hb2
    have lw2 : w.heap.size ≤ w2.heap.size := bw.size
    clear hb2
    go_wp2_with fail
    refine ⟨⟨HA, HB, bw⟩, ?_⟩
    repeat ((first | with_reducible apply eag_move | with_reducible apply eag_assign | ((with_reducible refine eag_soft (v := ?_) (fun w' hw' => ?_) ?_); rotate_left 1; (focus (obtain ⟨hA, hB, hBw⟩ := hw'; obtain ⟨hcA, hfA⟩ := hA.facts; obtain ⟨hcB, hfB⟩ := hB.facts; go_simp; (try with_reducible rfl); done)))); simp only [Act.put, Act.eval, qs])
    refine eag_hard ?_
    go_wp2_with fail
    refine (times_any x (En.conj y) hx (En.conj_fit hy) _).mono ?_
    intro e w3 hp
    obtain ⟨hb3, hcase⟩ := hp.cases
    clear hp
    replace bw : Below w.heap.size w w3 := below_next bw hb3
    replace HA := HA.call hb3
    replace HB := HB.call hb3
    replace HC := HC.call hb3
    replace HP := HP.call hb3
    replace HO := HO.call hb3
    have lw3 : w.heap.size ≤ w3.heap.size := bw.size
    clear hb3
    rcases hcase with ⟨s3, hs3, rfl⟩ | ⟨c3, hs3, rfl⟩
    rotate_left
    · exact ⟨rfl, post_err (by simp only [En.quotient, ebind_ok, ebind_err, epure, hs1, if_neg (Int.not_le.mpr hzh.out), hs3]) bw⟩
    go_wp2_with fail
    refine ⟨⟨HA, HB, bw⟩, ?_⟩
    repeat ((first | with_reducible apply eag_move | with_reducible apply eag_assign | ((with_reducible refine eag_soft (v := ?_) (fun w' hw' => ?_) ?_); rotate_left 1; (focus (obtain ⟨hA, hB, hBw⟩ := hw'; obtain ⟨hcA, hfA⟩ := hA.facts; obtain ⟨hcB, hfB⟩ := hB.facts; go_simp; (try with_reducible rfl); done)))); simp only [Act.put, Act.eval, qs])
    refine eag_hard ?_
    obtain ⟨hcO, hfO⟩ := HO.facts
    go_wp2_with fail
    replace HA : Hd ((((w3.setCell ⟨(w1.heap.size + 1), 0, none⟩ (.int .i64 s3.re.lo)).setCell ⟨(w1.heap.size + 1), 1, none⟩ (.int .i64 s3.re.hi)).setCell ⟨(w1.heap.size + 1), 2, none⟩ (.int .i64 s3.im.lo)).setCell ⟨(w1.heap.size + 1), 3, none⟩ (.int .i64 s3.im.hi)) w.heap.size 25 #[.int .i64 x.re.lo, .int .i64 x.re.hi, .int .i64 x.im.lo, .int .i64 x.im.hi] := hdx
    replace HB : Hd ((((w3.setCell ⟨(w1.heap.size + 1), 0, none⟩ (.int .i64 s3.re.lo)).setCell ⟨(w1.heap.size + 1), 1, none⟩ (.int .i64 s3.re.hi)).setCell ⟨(w1.heap.size + 1), 2, none⟩ (.int .i64 s3.im.lo)).setCell ⟨(w1.heap.size + 1), 3, none⟩ (.int .i64 s3.im.hi)) (w.heap.size + 1) 25 #[.int .i64 y.re.lo, .int .i64 y.re.hi, .int .i64 y.im.lo, .int .i64 y.im.hi] := hdx
    replace HC : Hd ((((w3.setCell ⟨(w1.heap.size + 1), 0, none⟩ (.int .i64 s3.re.lo)).setCell ⟨(w1.heap.size + 1), 1, none⟩ (.int .i64 s3.re.hi)).setCell ⟨(w1.heap.size + 1), 2, none⟩ (.int .i64 s3.im.lo)).setCell ⟨(w1.heap.size + 1), 3, none⟩ (.int .i64 s3.im.hi)) (w.heap.size + 2) 25 #[.int .i64 0, .int .i64 0, .int .i64 0, .int .i64 0] := hdx
    replace HP : Hd ((((w3.setCell ⟨(w1.heap.size + 1), 0, none⟩ (.int .i64 s3.re.lo)).setCell ⟨(w1.heap.size + 1), 1, none⟩ (.int .i64 s3.re.hi)).setCell ⟨(w1.heap.size + 1), 2, none⟩ (.int .i64 s3.im.lo)).setCell ⟨(w1.heap.size + 1), 3, none⟩ (.int .i64 s3.im.hi)) w1.heap.size 23 #[.int .i64 s1.lo, .int .i64 s1.hi] := hdx
    replace HO : Hd ((((w3.setCell ⟨(w1.heap.size + 1), 0, none⟩ (.int .i64 s3.re.lo)).setCell ⟨(w1.heap.size + 1), 1, none⟩ (.int .i64 s3.re.hi)).setCell ⟨(w1.heap.size + 1), 2, none⟩ (.int .i64 s3.im.lo)).setCell ⟨(w1.heap.size + 1), 3, none⟩ (.int .i64 s3.im.hi)) (w1.heap.size + 1) 25 #[.int .i64 s3.re.lo, .int .i64 s3.re.hi, .int .i64 s3.im.lo, .int .i64 s3.im.hi] := hdx
    replace bw : Below w.heap.size w ((((w3.setCell ⟨(w1.heap.size + 1), 0, none⟩ (.int .i64 s3.re.lo)).setCell ⟨(w1.heap.size + 1), 1, none⟩ (.int .i64 s3.re.hi)).setCell ⟨(w1.heap.size + 1), 2, none⟩ (.int .i64 s3.im.lo)).setCell ⟨(w1.heap.size + 1), 3, none⟩ (.int .i64 s3.im.hi)) := by go_grown
    refine ⟨⟨HA, HB, bw⟩, ?_⟩
    repeat ((first | with_reducible apply eag_move | with_reducible apply eag_assign | ((with_reducible refine eag_soft (v := ?_) (fun w' hw' => ?_) ?_); rotate_left 1; (focus (obtain ⟨hA, hB, hBw⟩ := hw'; obtain ⟨hcA, hfA⟩ := hA.facts; obtain ⟨hcB, hfB⟩ := hB.facts; go_simp; (try with_reducible rfl); done)))); simp only [Act.put, Act.eval, qs])
    refine eag_nil ?_
    generalize hW : (((w3.setCell ⟨(w1.heap.size + 1), 0, none⟩ (.int .i64 s3.re.lo)).setCell ⟨(w1.heap.size + 1), 1, none⟩ (.int .i64 s3.re.hi)).setCell ⟨(w1.heap.size + 1), 2, none⟩ (.int .i64 s3.im.lo)).setCell ⟨(w1.heap.size + 1), 3, none⟩ (.int .i64 s3.im.hi) = w4 at HA HB HC HP HO bw ⊢
    clear hW
    have lw4 : w.heap.size ≤ w4.heap.size := bw.size
    have hzo := En.Rc.fit_of_ok (En.times_ok hs3)
    go_wp2_with fail
    replace HA : Hd (w4.drew) w.heap.size 25 #[.int .i64 x.re.lo, .int .i64 x.re.hi, .int .i64 x.im.lo, .int .i64 x.im.hi] := hdx
    replace HB : Hd (w4.drew) (w.heap.size + 1) 25 #[.int .i64 y.re.lo, .int .i64 y.re.hi, .int .i64 y.im.lo, .int .i64 y.im.hi] := hdx
    replace HC : Hd (w4.drew) (w.heap.size + 2) 25 #[.int .i64 0, .int .i64 0, .int .i64 0, .int .i64 0] := hdx
    replace HP : Hd (w4.drew) w1.heap.size 23 #[.int .i64 s1.lo, .int .i64 s1.hi] := hdx
    replace HO : Hd (w4.drew) (w1.heap.size + 1) 25 #[.int .i64 s3.re.lo, .int .i64 s3.re.hi, .int .i64 s3.im.lo, .int .i64 s3.im.hi] := hdx
    replace bw : Below w.heap.size w (w4.drew) := by go_grown
    (refine wp_region_eag (fun w' => Hd w' (w1.heap.size + 1) 25 #[.int .i64 s3.re.lo, .int .i64 s3.re.hi, .int .i64 s3.im.lo, .int .i64 s3.im.hi] ∧ Hd w' w1.heap.size 23 #[.int .i64 s1.lo, .int .i64 s1.hi] ∧ Below w.heap.size w w') [(0, true), (1, true), (2, true), (4, true), (5, true), (6, true), (3, false), (7, false), (8, true), (9, false)] (by kernel_rfl) (by kernel_rfl) (fun c d v a w h => by cases d <;> exact h) ⟨HO, HP, bw⟩ ?_; simp only [List.map_cons, List.map_nil, List.getD_cons_zero, List.getD_cons_succ, flMark, Nat.reduceEqDiff, ↓reduceIte])
    repeat ((first | with_reducible apply eag_move | with_reducible apply eag_assign | ((with_reducible refine eag_soft (v := ?_) (fun w' hw' => ?_) ?_); rotate_left 1; (focus (obtain ⟨hO, hP, hBw⟩ := hw'; obtain ⟨hcO, hfO⟩ := hO.facts; obtain ⟨hcP, hfP⟩ := hP.facts; go_simp; (try with_reducible rfl); done)))); simp only [Act.put, Act.eval, qs])
    refine eag_hard ?_
    go_wp2_with fail
    refine (div_any s3.re s1 hzo.re hp1 _).mono ?_
    intro e w5 hp
    obtain ⟨hb5, hcase⟩ := hp.cases
    clear hp
    replace bw : Below w.heap.size w w5 := below_next bw hb5
    replace HA := HA.call hb5
    replace HB := HB.call hb5
    replace HC := HC.call hb5
    replace HP := HP.call hb5
    replace HO := HO.call hb5
    have lw5 : w.heap.size ≤ w5.heap.size := bw.size
    clear hb5
    rcases hcase with ⟨s5, hs5, rfl⟩ | ⟨c5, hs5, rfl⟩
    rotate_left
    · exact ⟨rfl, post_err (by simp only [En.quotient, ebind_ok, ebind_err, epure, hs1, if_neg (Int.not_le.mpr hzh.out), hs3, hs5]) bw⟩
    go_wp2_with fail
    refine ⟨⟨HO, HP, bw⟩, ?_⟩
    repeat ((first | with_reducible apply eag_move | with_reducible apply eag_assign | ((with_reducible refine eag_soft (v := ?_) (fun w' hw' => ?_) ?_); rotate_left 1; (focus (obtain ⟨hO, hP, hBw⟩ := hw'; obtain ⟨hcO, hfO⟩ := hO.facts; obtain ⟨hcP, hfP⟩ := hP.facts; go_simp; (try with_reducible rfl); done)))); simp only [Act.put, Act.eval, qs])
    refine eag_hard ?_
    go_wp2_with fail
    refine (div_any s3.im s1 hzo.im hp1 _).mono ?_
    intro e w6 hp
    obtain ⟨hb6, hcase⟩ := hp.cases
    clear hp
    replace bw : Below w.heap.size w w6 := below_next bw hb6
    replace HA := HA.call hb6
    replace HB := HB.call hb6
    replace HC := HC.call hb6
    replace HP := HP.call hb6
    replace HO := HO.call hb6
    have lw6 : w.heap.size ≤ w6.heap.size := bw.size
    clear hb6
    rcases hcase with ⟨s6, hs6, rfl⟩ | ⟨c6, hs6, rfl⟩
    rotate_left
    · exact ⟨rfl, post_err (by simp only [En.quotient, ebind_ok, ebind_err, epure, hs1, if_neg (Int.not_le.mpr hzh.out), hs3, hs5, hs6]) bw⟩
    go_wp2_with fail
    refine ⟨⟨HO, HP, bw⟩, ?_⟩
    repeat ((first | with_reducible apply eag_move | with_reducible apply eag_assign | ((with_reducible refine eag_soft (v := ?_) (fun w' hw' => ?_) ?_); rotate_left 1; (focus (obtain ⟨hO, hP, hBw⟩ := hw'; obtain ⟨hcO, hfO⟩ := hO.facts; obtain ⟨hcP, hfP⟩ := hP.facts; go_simp; (try with_reducible rfl); done)))); simp only [Act.put, Act.eval, qs])
    obtain ⟨hcC, hfC⟩ := HC.facts
    refine eag_hard ?_
    go_wp2_with fail
    refine ⟨⟨by exact hdx, by exact hdx, by go_grown⟩, ?_⟩
    refine eag_nil ?_
    go_wp2
    refine bodyPost_ret (run_results1 rfl rfl (by (show Hd _ (w.heap.size + 2) 25 #[.int .i64 s5.lo, .int .i64 s5.hi, .int .i64 s6.lo, .int .i64 s6.hi]); exact hdx) Try.underlying25 rfl (by kernel_rfl)) rfl (post_ok (s := ⟨s5, s6⟩) (by simp only [En.quotient, ebind_ok, ebind_err, epure, hs1, if_neg (Int.not_le.mpr hzh.out), hs3, hs5, hs6]) (by go_grown))

end Go.Proofs.Ytpbbbfglecbceaa
/- Package enclose: which rectangles are valid. -/
namespace Go.Proofs.Ytpbbbfglecbceaa
set_option linter.all false
open Go.RowKit

theorem valid1_any (x : En.Rc) (w : World) : Calls Try.prog 122 #[rcV x] w fun e w' => e = .returned (.bool (!x.ok)) ∧ Below w.heap.size w w' := by
  have CA := valid_any x.re.lo x.re.hi
  have CB := valid_any x.im.lo x.im.hi
  obtain ⟨a, ha⟩ : ∃ a, En.okS x.re.lo x.re.hi = a := ⟨_, rfl⟩
  obtain ⟨b, hb⟩ : ∃ b, En.okS x.im.lo x.im.hi = b := ⟨_, rfl⟩
  have hx : x.ok = (a && b) := by rw [← ha, ← hb]; rfl
  rw [hx]
  rw [ha] at CA
  rw [hb] at CB
  replace CA := Lib.hid CA
  replace CB := Lib.hid CB
  clear ha hb hx
  have HA : Hd (w.alloc (.cells #[.int .i64 x.re.lo, .int .i64 x.re.hi, .int .i64 x.im.lo, .int .i64 x.im.hi] 25)) w.heap.size 25 #[.int .i64 x.re.lo, .int .i64 x.re.hi, .int .i64 x.im.lo, .int .i64 x.im.hi] := hdx
  cases a
  · go_enter Try.func122, Try.ntmps122
    go_wp2_with (go_at_call_of 25 (x.re.lo); refine (CA.out _).mono ?_; rintro e w1 ⟨rfl, hb1⟩; have bw1 : Below w.heap.size w w1 := below_next (by go_grown) hb1; have HA1 := HA.call hb1; obtain ⟨hcA, hfA⟩ := HA1.facts)
    go_ret
    exact ⟨rfl, bw1⟩
  · cases b
    all_goals
      go_enter Try.func122, Try.ntmps122
      go_wp2_with (first | (go_at_call_of 25 (x.re.lo); refine (CA.out _).mono ?_; rintro e w1 ⟨rfl, hb1⟩; have bw1 : Below w.heap.size w w1 := below_next (by go_grown) hb1; have HA1 := HA.call hb1; obtain ⟨hcA, hfA⟩ := HA1.facts) |
        (go_at_call_of 25 (x.im.lo); refine (CB.out _).mono ?_; rintro e w2 ⟨rfl, hb2⟩; have bw2 : Below w.heap.size w w2 := below_next bw1 hb2))
      go_ret
      exact ⟨rfl, bw2⟩

/-- A row of rectangles at the head of block b. -/
structure RcRow (w : World) (b n : Nat) (f : Nat → En.Rc) : Prop where
  c0 : ∀ i, i < n → w.cell? ⟨b, i * 4, none⟩ = some (.int .i64 (f i).re.lo)
  c1 : ∀ i, i < n → w.cell? ⟨b, i * 4 + 1, none⟩ = some (.int .i64 (f i).re.hi)
  c2 : ∀ i, i < n → w.cell? ⟨b, i * 4 + 2, none⟩ = some (.int .i64 (f i).im.lo)
  c3 : ∀ i, i < n → w.cell? ⟨b, i * 4 + 3, none⟩ = some (.int .i64 (f i).im.hi)

def allOk (f : Nat → En.Rc) : Nat → Bool
  | 0 => true
  | n + 1 => allOk f n && (f n).ok

theorem allOk_false {f : Nat → En.Rc} {i : Nat} (h : (f i).ok = false) : ∀ n, i < n → allOk f n = false
  | 0, hn => by omega
  | n + 1, hn => by
    by_cases hi : i = n
    · subst hi; simp [allOk, h]
    · simp [allOk, allOk_false h n (by omega)]

theorem index_any (b n : Nat) (f : Nat → En.Rc) (hn : n ≤ 8) (w : World) (hb : b < w.heap.size) (hr : RcRow w b n f) :
    Calls Try.prog 139 #[.slice (some ⟨b, 0, none⟩) n n, .func (.func 122) #[] #[]] w
      fun e w' => (∃ r : Int, e = .returned (.int .i64 r) ∧ (0 ≤ r ↔ allOk f n = false)) ∧ Below w.heap.size w w' := by
  have HR := Lib.hid hr
  clear hr
  go_enter Try.func139, Try.ntmps139
  go_wp2
  go_loopw [8] (fun k wr => ∃ i : Nat, i ≤ n ∧ k = .int .i64 i ∧ allOk f i = true ∧ Below w.heap.size w wr) (fun k _ => n - (intOf k).toNat)
  case atStart => exact ⟨0, by omega, rfl, rfl, by go_grown⟩
  case round =>
    obtain ⟨i, hi, rfl, hall, hbr⟩ := hrel
    by_cases hlt : i < n
    · have hlt' : (i : Int) < (n : Int) := by omega
      have r0 := HR.out.c0 i hlt
      have r1 := HR.out.c1 i hlt
      have r2 := HR.out.c2 i hlt
      have r3 := HR.out.c3 i hlt
      rw [← hbr.cell hb] at r0 r1 r2 r3
      have CV := valid1_any (f i)
      have hnext : allOk f (i + 1) = (f i).ok := by simp [allOk, hall]
      cases hok : (f i).ok
      · have hbad := allOk_false hok n hlt
        rw [hok] at CV
        replace CV := Lib.hid CV
        clear hok hnext
        go_wp2_with (go_at_call 122; refine (CV.out _).mono ?_; rintro e w1 ⟨rfl, hb1⟩; have bw1 : Below w.heap.size w w1 := below_next hbr hb1)
        go_ret
        exact ⟨⟨(i : Int), rfl, by simp [hbad]⟩, bw1⟩
      · rw [hok] at CV hnext
        replace CV := Lib.hid CV
        clear hok
        have HN := Lib.hid hnext
        clear hnext
        go_wp2_with (go_at_call 122; refine (CV.out _).mono ?_; rintro e w1 ⟨rfl, hb1⟩; have bw1 : Below w.heap.size w w1 := below_next hbr hb1)
        go_roundw
        case rel => exact ⟨i + 1, by omega, by go_num, HN.out, bw1⟩
        case measure => simp [intOf]; omega
    · have hlt' : ¬ (i : Int) < (n : Int) := by omega
      obtain rfl : i = n := by omega
      go_wp2
      go_ret
      exact ⟨⟨-1, rfl, by simp [hall]⟩, hbr⟩

theorem contains_any (b n : Nat) (f : Nat → En.Rc) (hn : n ≤ 8) (w : World) (hb : b < w.heap.size) (hr : RcRow w b n f) :
    Calls Try.prog 121 #[.slice (some ⟨b, 0, none⟩) n n, .func (.func 122) #[] #[]] w
      fun e w' => e = .returned (.bool (!allOk f n)) ∧ Below w.heap.size w w' := by
  have C := Lib.hid (index_any b n f hn w hb hr)
  clear hr
  go_enter Try.func121, Try.ntmps121
  go_wp2_with fail
  refine C.out.mono ?_
  rintro e w1 ⟨⟨r, rfl, hr⟩, hb1⟩
  have HR := Lib.hid hr
  clear hr
  have bw1 : Below w.heap.size w w1 := below_next (by go_grown) hb1
  go_wp2
  go_ret
  refine ⟨?_, bw1⟩
  have := HR.out
  cases h : allOk f n <;> rw [h] at this <;> simp at this <;> simp <;> omega

theorem validN_any (b n : Nat) (f : Nat → En.Rc) (hn : n ≤ 8) (w : World) (hb : b < w.heap.size) (hr : RcRow w b n f) :
    Calls Try.prog 80 #[.slice (some ⟨b, 0, none⟩) n n] w fun e w' => e = .returned (.bool (allOk f n)) ∧ Below w.heap.size w w' := by
  have C := Lib.hid (contains_any b n f hn w hb hr)
  clear hr
  go_enter Try.func80, Try.ntmps80
  go_wp2_with fail
  refine C.out.mono ?_
  rintro e w1 ⟨rfl, hb1⟩
  have bw1 : Below w.heap.size w w1 := below_next (by go_grown) hb1
  go_wp2
  go_ret
  exact ⟨by simp, bw1⟩

def rc1 (x : En.Rc) : Nat → En.Rc := fun _ => x
def rc2 (x y : En.Rc) : Nat → En.Rc
  | 0 => x
  | _ => y
def rc4 (x y z u : En.Rc) : Nat → En.Rc
  | 0 => x
  | 1 => y
  | 2 => z
  | _ => u
theorem rcRow1 {w : World} {b t : Nat} {x : En.Rc} (h : Hd w b t #[.int .i64 x.re.lo, .int .i64 x.re.hi, .int .i64 x.im.lo, .int .i64 x.im.hi]) : RcRow w b 1 (rc1 x) := by
  constructor <;> intro i hi <;> rw [h.cell] <;> (have hi' : i = 0 := by omega) <;> subst hi' <;> rfl
theorem rcRow2 {w : World} {b t : Nat} {x y : En.Rc} (h : Hd w b t #[.int .i64 x.re.lo, .int .i64 x.re.hi, .int .i64 x.im.lo, .int .i64 x.im.hi, .int .i64 y.re.lo, .int .i64 y.re.hi, .int .i64 y.im.lo, .int .i64 y.im.hi]) : RcRow w b 2 (rc2 x y) := by
  constructor <;> intro i hi <;> rw [h.cell] <;> (have hi' : i = 0 ∨ i = 1 := by omega) <;> rcases hi' with rfl | rfl <;> rfl
theorem rcRow4 {w : World} {b t : Nat} {x y z u : En.Rc} (h : Hd w b t #[.int .i64 x.re.lo, .int .i64 x.re.hi, .int .i64 x.im.lo, .int .i64 x.im.hi, .int .i64 y.re.lo, .int .i64 y.re.hi, .int .i64 y.im.lo, .int .i64 y.im.hi, .int .i64 z.re.lo, .int .i64 z.re.hi, .int .i64 z.im.lo, .int .i64 z.im.hi, .int .i64 u.re.lo, .int .i64 u.re.hi, .int .i64 u.im.lo, .int .i64 u.im.hi]) : RcRow w b 4 (rc4 x y z u) := by
  constructor <;> intro i hi <;> rw [h.cell] <;> (have hi' : i = 0 ∨ i = 1 ∨ i = 2 ∨ i = 3 := by omega) <;> rcases hi' with rfl | rfl | rfl | rfl <;> rfl
theorem validR1_any (x : En.Rc) (g t : Nat) (w : World) (h : Hd w g t #[.int .i64 x.re.lo, .int .i64 x.re.hi, .int .i64 x.im.lo, .int .i64 x.im.hi]) :
    Calls Try.prog 80 #[.slice (some ⟨g, 0, none⟩) 1 1] w fun e w' => e = .returned (.bool x.ok) ∧ Below w.heap.size w w' :=
  (validN_any g 1 (rc1 x) (by omega) w h.lt (rcRow1 h)).mono fun e w' ⟨a, b⟩ => ⟨by rw [a]; simp [allOk, rc1], b⟩
theorem validR2_any (x y : En.Rc) (g t : Nat) (w : World) (h : Hd w g t #[.int .i64 x.re.lo, .int .i64 x.re.hi, .int .i64 x.im.lo, .int .i64 x.im.hi, .int .i64 y.re.lo, .int .i64 y.re.hi, .int .i64 y.im.lo, .int .i64 y.im.hi]) :
    Calls Try.prog 80 #[.slice (some ⟨g, 0, none⟩) 2 2] w fun e w' => e = .returned (.bool (x.ok && y.ok)) ∧ Below w.heap.size w w' :=
  (validN_any g 2 (rc2 x y) (by omega) w h.lt (rcRow2 h)).mono fun e w' ⟨a, b⟩ => ⟨by rw [a]; simp [allOk, rc2], b⟩
theorem validR4_any (x y z u : En.Rc) (g t : Nat) (w : World) (h : Hd w g t #[.int .i64 x.re.lo, .int .i64 x.re.hi, .int .i64 x.im.lo, .int .i64 x.im.hi, .int .i64 y.re.lo, .int .i64 y.re.hi, .int .i64 y.im.lo, .int .i64 y.im.hi, .int .i64 z.re.lo, .int .i64 z.re.hi, .int .i64 z.im.lo, .int .i64 z.im.hi, .int .i64 u.re.lo, .int .i64 u.re.hi, .int .i64 u.im.lo, .int .i64 u.im.hi]) :
    Calls Try.prog 80 #[.slice (some ⟨g, 0, none⟩) 4 4] w fun e w' => e = .returned (.bool (x.ok && y.ok && z.ok && u.ok)) ∧ Below w.heap.size w w' :=
  (validN_any g 4 (rc4 x y z u) (by omega) w h.lt (rcRow4 h)).mono fun e w' ⟨a, b⟩ => ⟨by rw [a]; simp [allOk, rc4], b⟩
end Go.Proofs.Ytpbbbfglecbceaa
/- Package enclose: guard. -/
namespace Go.Proofs.Ytpbbbfglecbceaa
set_option linter.all false
open Go.RowKit

abbrev nonevR (c : Int) : List PanicEntry := [{ v := .iface 106 (.agg #[.int .i64 c]), recovered := true }]

theorem assert_none (c : Int) (w : World) : (Instr.typeAssert (.iface 106 (.agg #[.int .i64 c])) 20 106 true).run Try.prog w = .ok (.tuple #[.agg #[.int .i64 c], .bool true]) w := by kernel_rfl
theorem eql_none (c : Int) (w : World) : (binOp .eql 20 (.iface 106 (.agg #[.int .i64 c])) .nilIface).run Try.prog w = .ok (.bool false) w := by kernel_rfl
theorem eql_nil (w : World) : (binOp .eql 20 .nilIface .nilIface).run Try.prog w = .ok (.bool true) w := by kernel_rfl

theorem guard_panicking (g : Nat) (x c : Int) (w : World) (h : Hd w g 26 #[.int .i64 x]) :
    CallsD Try.prog 62 #[.pointer (some ⟨g, 0, none⟩)] (.panicking (nonev c)) w fun e u' w' =>
      e = .returned (.tuple #[]) ∧ u' = .panicking (nonevR c) ∧ w' = (w.setCell ⟨g, 0, none⟩ (.int .i64 c)).alloc (.cells #[.int .i64 c] 106) := by
  have hlt := h.lt
  obtain ⟨hc, hf⟩ := h.facts
  refine callsD_of_wpS Try.func62 rfl fun c₀ cs hu => ?_
  apply wpS_seq
  apply wpS_region
  simp [wpOpsS, go_sem, recoverD, hu, Try.ntmps62, Exit.thenS]
  rw [show (#[Value.pointer (some ⟨g, 0, none⟩)] ++ (Array.replicate 14 undef).setIfInBounds 4 (Value.iface 106 (Value.agg #[Value.int .i64 c]))) = #[.pointer (some ⟨g, 0, none⟩), undef, undef, undef, undef, .iface 106 (.agg #[.int .i64 c]), undef, undef, undef, undef, undef, undef, undef, undef, undef] from rfl]
  have ha := assert_none c
  have he := eql_none c
  refine wpS_of_wp ?_
  go_wp2
  exact ⟨rfl, _, rfl, _, results_none rfl _ _ _, rfl, rfl, rfl⟩

theorem guard_idle (p : Addr) (w : World) :
    CallsD Try.prog 62 #[.pointer (some p)] .returning w fun e u' w' => e = .returned (.tuple #[]) ∧ u' = .returning ∧ w' = w := by
  refine callsD_of_wpS Try.func62 rfl fun c₀ cs hu => ?_
  apply wpS_seq
  apply wpS_region
  simp [wpOpsS, go_sem, recoverD, hu, Try.ntmps62, Exit.thenS]
  rw [show (#[Value.pointer (some p)] ++ (Array.replicate 14 undef).setIfInBounds 4 Value.nilIface) = #[.pointer (some p), undef, undef, undef, undef, .nilIface, undef, undef, undef, undef, undef, undef, undef, undef, undef] from rfl]
  have he := eql_nil
  refine wpS_of_wp ?_
  go_wp2
  cases c₀
  simp only at hu
  subst hu
  exact ⟨rfl, _, rfl, _, results_none rfl _ _ _, rfl, rfl, rfl⟩
end Go.Proofs.Ytpbbbfglecbceaa
/- Package enclose: an operation on two rectangles that may have an error. -/
namespace Go.Proofs.Ytpbbbfglecbceaa
set_option linter.all false
open Go.RowKit

section
variable {P : Program} {w : World}
theorem run_load_int {g t ty : Nat} {k : IntKind} {v : Int} (hg : Hd w g t #[.int k v]) (hu : P.underlying ty = some (.int k)) : (loadVar ty ⟨g, 0, none⟩).run P w = .ok (.int k v) w := by
  have hc := hg.cell 0
  simp [go_sem, loadVar, isAgg, underlying, hu, hc]
end

theorem run_results_ce {P : Program} {w : World} {fn : Func} {k k' ty ty' : Nat} {tmps : Array Value} {g t g' t' : Nat} {cs : Array Value} {d : TypeDesc} {ik : IntKind} {v : Int} (hres : fn.results = #[.cell k ty, .cell k' ty'])
    (hk : tmps.getD k undef = .pointer (some ⟨g, 0, none⟩)) (hg : Hd w g t cs) (hu : P.underlying ty = some d) (hr : isRow d = true)
    (hs : (P.info? ty).map (·.size) = some cs.size) (hk' : tmps.getD k' undef = .pointer (some ⟨g', 0, none⟩)) (hg' : Hd w g' t' #[.int ik v]) (hu' : P.underlying ty' = some (.int ik)) :
    (results fn tmps).run P w = .ok (.tuple #[.agg cs, .int ik v]) w := by
  have := run_load_hd hg hu hr hs
  have := run_load_int hg' hu'
  have hk0 : tmps[k]?.getD undef = .pointer (some ⟨g, 0, none⟩) := by simpa using hk
  have hk0' : tmps[k']?.getD undef = .pointer (some ⟨g', 0, none⟩) := by simpa using hk'
  simp [results, hres, hk0, hk0', asAddr, *]

def outR (r : En.R En.Rc) : En.Rc × Int :=
  match r with
  | .ok z => (z, 0)
  | .error c => (⟨⟨0, 0⟩, ⟨0, 0⟩⟩, c)
/-- What an operation makes of two rectangles. -/
def twoR (F : En.Rc → En.Rc → En.R En.Rc) (x y : En.Rc) : En.Rc × Int := if x.ok && y.ok then outR (F x y) else (⟨⟨0, 0⟩, ⟨0, 0⟩⟩, 50)
abbrev rcE (p : En.Rc × Int) : Value := .tuple #[rcV p.1, .int .i64 p.2]

theorem two_plus (x y : En.Rc) (w : World) :
    Calls Try.prog 68 #[rcV x, rcV y, .func (.func 69) #[] #[]] w fun e w' => e = .returned (rcE (twoR En.plus x y)) ∧ Below w.heap.size w w' := by
  have CV := validR2_any x y
  cases hv : (x.ok && y.ok) with
  | false =>
    have ht : twoR En.plus x y = (⟨⟨0, 0⟩, ⟨0, 0⟩⟩, 50) := by unfold twoR; rw [hv]; rfl
    rw [hv] at CV
    rw [ht]
    replace CV := Lib.hid CV
    clear hv ht
    go_enter_defers Try.func68, Try.ntmps68
    go_wp2_with fail
    have HA : Hd (((((w.alloc (.cells #[.int .i64 x.re.lo, .int .i64 x.re.hi, .int .i64 x.im.lo, .int .i64 x.im.hi] 25)).alloc (.cells #[.int .i64 y.re.lo, .int .i64 y.re.hi, .int .i64 y.im.lo, .int .i64 y.im.hi] 25)).alloc (.cells #[.int .i64 0, .int .i64 0, .int .i64 0, .int .i64 0] 25)).alloc (.cells #[.int .i64 0] 26)).alloc (.cells #[.int .i64 x.re.lo, .int .i64 x.re.hi, .int .i64 x.im.lo, .int .i64 x.im.hi, .int .i64 y.re.lo, .int .i64 y.re.hi, .int .i64 y.im.lo, .int .i64 y.im.hi] 25)) w.heap.size 25 #[.int .i64 x.re.lo, .int .i64 x.re.hi, .int .i64 x.im.lo, .int .i64 x.im.hi] := hdx
    have HB : Hd (((((w.alloc (.cells #[.int .i64 x.re.lo, .int .i64 x.re.hi, .int .i64 x.im.lo, .int .i64 x.im.hi] 25)).alloc (.cells #[.int .i64 y.re.lo, .int .i64 y.re.hi, .int .i64 y.im.lo, .int .i64 y.im.hi] 25)).alloc (.cells #[.int .i64 0, .int .i64 0, .int .i64 0, .int .i64 0] 25)).alloc (.cells #[.int .i64 0] 26)).alloc (.cells #[.int .i64 x.re.lo, .int .i64 x.re.hi, .int .i64 x.im.lo, .int .i64 x.im.hi, .int .i64 y.re.lo, .int .i64 y.re.hi, .int .i64 y.im.lo, .int .i64 y.im.hi] 25)) (w.heap.size + 1) 25 #[.int .i64 y.re.lo, .int .i64 y.re.hi, .int .i64 y.im.lo, .int .i64 y.im.hi] := hdx
    have HC : Hd (((((w.alloc (.cells #[.int .i64 x.re.lo, .int .i64 x.re.hi, .int .i64 x.im.lo, .int .i64 x.im.hi] 25)).alloc (.cells #[.int .i64 y.re.lo, .int .i64 y.re.hi, .int .i64 y.im.lo, .int .i64 y.im.hi] 25)).alloc (.cells #[.int .i64 0, .int .i64 0, .int .i64 0, .int .i64 0] 25)).alloc (.cells #[.int .i64 0] 26)).alloc (.cells #[.int .i64 x.re.lo, .int .i64 x.re.hi, .int .i64 x.im.lo, .int .i64 x.im.hi, .int .i64 y.re.lo, .int .i64 y.re.hi, .int .i64 y.im.lo, .int .i64 y.im.hi] 25)) (w.heap.size + 2) 25 #[.int .i64 0, .int .i64 0, .int .i64 0, .int .i64 0] := hdx
    have HE : Hd (((((w.alloc (.cells #[.int .i64 x.re.lo, .int .i64 x.re.hi, .int .i64 x.im.lo, .int .i64 x.im.hi] 25)).alloc (.cells #[.int .i64 y.re.lo, .int .i64 y.re.hi, .int .i64 y.im.lo, .int .i64 y.im.hi] 25)).alloc (.cells #[.int .i64 0, .int .i64 0, .int .i64 0, .int .i64 0] 25)).alloc (.cells #[.int .i64 0] 26)).alloc (.cells #[.int .i64 x.re.lo, .int .i64 x.re.hi, .int .i64 x.im.lo, .int .i64 x.im.hi, .int .i64 y.re.lo, .int .i64 y.re.hi, .int .i64 y.im.lo, .int .i64 y.im.hi] 25)) (w.heap.size + 3) 26 #[.int .i64 0] := hdx
    have HV : Hd (((((w.alloc (.cells #[.int .i64 x.re.lo, .int .i64 x.re.hi, .int .i64 x.im.lo, .int .i64 x.im.hi] 25)).alloc (.cells #[.int .i64 y.re.lo, .int .i64 y.re.hi, .int .i64 y.im.lo, .int .i64 y.im.hi] 25)).alloc (.cells #[.int .i64 0, .int .i64 0, .int .i64 0, .int .i64 0] 25)).alloc (.cells #[.int .i64 0] 26)).alloc (.cells #[.int .i64 x.re.lo, .int .i64 x.re.hi, .int .i64 x.im.lo, .int .i64 x.im.hi, .int .i64 y.re.lo, .int .i64 y.re.hi, .int .i64 y.im.lo, .int .i64 y.im.hi] 25)) (w.heap.size + 4) 25 #[.int .i64 x.re.lo, .int .i64 x.re.hi, .int .i64 x.im.lo, .int .i64 x.im.hi, .int .i64 y.re.lo, .int .i64 y.re.hi, .int .i64 y.im.lo, .int .i64 y.im.hi] := hdx
    have bw : Below w.heap.size w (((((w.alloc (.cells #[.int .i64 x.re.lo, .int .i64 x.re.hi, .int .i64 x.im.lo, .int .i64 x.im.hi] 25)).alloc (.cells #[.int .i64 y.re.lo, .int .i64 y.re.hi, .int .i64 y.im.lo, .int .i64 y.im.hi] 25)).alloc (.cells #[.int .i64 0, .int .i64 0, .int .i64 0, .int .i64 0] 25)).alloc (.cells #[.int .i64 0] 26)).alloc (.cells #[.int .i64 x.re.lo, .int .i64 x.re.hi, .int .i64 x.im.lo, .int .i64 x.im.hi, .int .i64 y.re.lo, .int .i64 y.re.hi, .int .i64 y.im.lo, .int .i64 y.im.hi] 25)) := by go_grown
    refine (CV.out _ _ _ HV).mono ?_
    rintro e w1 ⟨rfl, hb1⟩
    replace bw : Below w.heap.size w w1 := below_next bw hb1
    replace HA := HA.call hb1
    replace HB := HB.call hb1
    replace HC := HC.call hb1
    replace HE := HE.call hb1
    replace HV := HV.call hb1
    have lw1 : w.heap.size ≤ w1.heap.size := bw.size
    clear hb1
    obtain ⟨hcA, hfA⟩ := HA.facts
    obtain ⟨hcB, hfB⟩ := HB.facts
    obtain ⟨hcC, hfC⟩ := HC.facts
    obtain ⟨hcE, hfE⟩ := HE.facts
    go_wp2
    exact ⟨_, run_results_ce rfl rfl (by (show Hd _ (w.heap.size + 2) 25 #[.int .i64 0, .int .i64 0, .int .i64 0, .int .i64 0]); exact hdx) Try.underlying25 rfl (by kernel_rfl) rfl (by (show Hd _ (w.heap.size + 3) 26 #[.int .i64 (50)]); exact hdx) Try.underlying26, rfl, by go_grown⟩
  | true =>
    have ht : twoR En.plus x y = outR (En.plus x y) := by unfold twoR; rw [hv]; rfl
    rw [hv] at CV
    rw [ht]
    replace CV := Lib.hid CV
    have hop' := Lib.hid (plus_any x y (En.Rc.fit_of_ok (by cases h : x.ok <;> simp_all)) (En.Rc.fit_of_ok (by cases h : y.ok <;> simp_all)))
    clear hv ht
    go_enter_defers Try.func68, Try.ntmps68
    go_wp2_with fail
    have HA : Hd (((((w.alloc (.cells #[.int .i64 x.re.lo, .int .i64 x.re.hi, .int .i64 x.im.lo, .int .i64 x.im.hi] 25)).alloc (.cells #[.int .i64 y.re.lo, .int .i64 y.re.hi, .int .i64 y.im.lo, .int .i64 y.im.hi] 25)).alloc (.cells #[.int .i64 0, .int .i64 0, .int .i64 0, .int .i64 0] 25)).alloc (.cells #[.int .i64 0] 26)).alloc (.cells #[.int .i64 x.re.lo, .int .i64 x.re.hi, .int .i64 x.im.lo, .int .i64 x.im.hi, .int .i64 y.re.lo, .int .i64 y.re.hi, .int .i64 y.im.lo, .int .i64 y.im.hi] 25)) w.heap.size 25 #[.int .i64 x.re.lo, .int .i64 x.re.hi, .int .i64 x.im.lo, .int .i64 x.im.hi] := hdx
    have HB : Hd (((((w.alloc (.cells #[.int .i64 x.re.lo, .int .i64 x.re.hi, .int .i64 x.im.lo, .int .i64 x.im.hi] 25)).alloc (.cells #[.int .i64 y.re.lo, .int .i64 y.re.hi, .int .i64 y.im.lo, .int .i64 y.im.hi] 25)).alloc (.cells #[.int .i64 0, .int .i64 0, .int .i64 0, .int .i64 0] 25)).alloc (.cells #[.int .i64 0] 26)).alloc (.cells #[.int .i64 x.re.lo, .int .i64 x.re.hi, .int .i64 x.im.lo, .int .i64 x.im.hi, .int .i64 y.re.lo, .int .i64 y.re.hi, .int .i64 y.im.lo, .int .i64 y.im.hi] 25)) (w.heap.size + 1) 25 #[.int .i64 y.re.lo, .int .i64 y.re.hi, .int .i64 y.im.lo, .int .i64 y.im.hi] := hdx
    have HC : Hd (((((w.alloc (.cells #[.int .i64 x.re.lo, .int .i64 x.re.hi, .int .i64 x.im.lo, .int .i64 x.im.hi] 25)).alloc (.cells #[.int .i64 y.re.lo, .int .i64 y.re.hi, .int .i64 y.im.lo, .int .i64 y.im.hi] 25)).alloc (.cells #[.int .i64 0, .int .i64 0, .int .i64 0, .int .i64 0] 25)).alloc (.cells #[.int .i64 0] 26)).alloc (.cells #[.int .i64 x.re.lo, .int .i64 x.re.hi, .int .i64 x.im.lo, .int .i64 x.im.hi, .int .i64 y.re.lo, .int .i64 y.re.hi, .int .i64 y.im.lo, .int .i64 y.im.hi] 25)) (w.heap.size + 2) 25 #[.int .i64 0, .int .i64 0, .int .i64 0, .int .i64 0] := hdx
    have HE : Hd (((((w.alloc (.cells #[.int .i64 x.re.lo, .int .i64 x.re.hi, .int .i64 x.im.lo, .int .i64 x.im.hi] 25)).alloc (.cells #[.int .i64 y.re.lo, .int .i64 y.re.hi, .int .i64 y.im.lo, .int .i64 y.im.hi] 25)).alloc (.cells #[.int .i64 0, .int .i64 0, .int .i64 0, .int .i64 0] 25)).alloc (.cells #[.int .i64 0] 26)).alloc (.cells #[.int .i64 x.re.lo, .int .i64 x.re.hi, .int .i64 x.im.lo, .int .i64 x.im.hi, .int .i64 y.re.lo, .int .i64 y.re.hi, .int .i64 y.im.lo, .int .i64 y.im.hi] 25)) (w.heap.size + 3) 26 #[.int .i64 0] := hdx
    have HV : Hd (((((w.alloc (.cells #[.int .i64 x.re.lo, .int .i64 x.re.hi, .int .i64 x.im.lo, .int .i64 x.im.hi] 25)).alloc (.cells #[.int .i64 y.re.lo, .int .i64 y.re.hi, .int .i64 y.im.lo, .int .i64 y.im.hi] 25)).alloc (.cells #[.int .i64 0, .int .i64 0, .int .i64 0, .int .i64 0] 25)).alloc (.cells #[.int .i64 0] 26)).alloc (.cells #[.int .i64 x.re.lo, .int .i64 x.re.hi, .int .i64 x.im.lo, .int .i64 x.im.hi, .int .i64 y.re.lo, .int .i64 y.re.hi, .int .i64 y.im.lo, .int .i64 y.im.hi] 25)) (w.heap.size + 4) 25 #[.int .i64 x.re.lo, .int .i64 x.re.hi, .int .i64 x.im.lo, .int .i64 x.im.hi, .int .i64 y.re.lo, .int .i64 y.re.hi, .int .i64 y.im.lo, .int .i64 y.im.hi] := hdx
    have bw : Below w.heap.size w (((((w.alloc (.cells #[.int .i64 x.re.lo, .int .i64 x.re.hi, .int .i64 x.im.lo, .int .i64 x.im.hi] 25)).alloc (.cells #[.int .i64 y.re.lo, .int .i64 y.re.hi, .int .i64 y.im.lo, .int .i64 y.im.hi] 25)).alloc (.cells #[.int .i64 0, .int .i64 0, .int .i64 0, .int .i64 0] 25)).alloc (.cells #[.int .i64 0] 26)).alloc (.cells #[.int .i64 x.re.lo, .int .i64 x.re.hi, .int .i64 x.im.lo, .int .i64 x.im.hi, .int .i64 y.re.lo, .int .i64 y.re.hi, .int .i64 y.im.lo, .int .i64 y.im.hi] 25)) := by go_grown
    refine (CV.out _ _ _ HV).mono ?_
    rintro e w1 ⟨rfl, hb1⟩
    replace bw : Below w.heap.size w w1 := below_next bw hb1
    replace HA := HA.call hb1
    replace HB := HB.call hb1
    replace HC := HC.call hb1
    replace HE := HE.call hb1
    replace HV := HV.call hb1
    have lw1 : w.heap.size ≤ w1.heap.size := bw.size
    clear hb1
    obtain ⟨hcA, hfA⟩ := HA.facts
    obtain ⟨hcB, hfB⟩ := HB.facts
    obtain ⟨hcC, hfC⟩ := HC.facts
    obtain ⟨hcE, hfE⟩ := HE.facts
    go_wp2_with fail
    refine (hop'.out _).mono ?_
    intro e w2 hp
    obtain ⟨hb2, hcase⟩ := hp.cases
    clear hp
    replace bw : Below w.heap.size w w2 := below_next bw hb2
    replace HA := HA.call hb2
    replace HB := HB.call hb2
    replace HC := HC.call hb2
    replace HE := HE.call hb2
    replace HV := HV.call hb2
    have lw2 : w.heap.size ≤ w2.heap.size := bw.size
    clear hb2
    rcases hcase with ⟨s, hs, rfl⟩ | ⟨c, hs, rfl⟩
    · obtain ⟨hcC, hfC⟩ := HC.facts
      obtain ⟨hcE, hfE⟩ := HE.facts
      go_wp2
      refine leaves_cons (f := 62) (args := #[.pointer (some ⟨w.heap.size + 3, 0, none⟩)]) (by simp) (by simp [go_sem]) ?_
      refine (guard_idle _ _).mono ?_
      rintro e u' w'' ⟨rfl, rfl, rfl⟩
      exact ⟨_, run_results_ce rfl rfl (by (show Hd _ (w.heap.size + 2) 25 #[.int .i64 s.re.lo, .int .i64 s.re.hi, .int .i64 s.im.lo, .int .i64 s.im.hi]); exact hdx) Try.underlying25 rfl (by kernel_rfl) rfl (by (show Hd _ (w.heap.size + 3) 26 #[.int .i64 (0)]); exact hdx) Try.underlying26, (by rw [hs]; rfl), by go_grown⟩
    · refine leaves_cons (f := 62) (args := #[.pointer (some ⟨w.heap.size + 3, 0, none⟩)]) (by simp) (by simp [go_sem]) ?_
      refine (guard_panicking _ _ _ _ HE).mono ?_
      rintro e u' w'' ⟨rfl, rfl, rfl⟩
      exact ⟨_, run_results_ce rfl rfl (by (show Hd _ (w.heap.size + 2) 25 #[.int .i64 0, .int .i64 0, .int .i64 0, .int .i64 0]); exact hdx) Try.underlying25 rfl (by kernel_rfl) rfl (by (show Hd _ (w.heap.size + 3) 26 #[.int .i64 (c)]); exact hdx) Try.underlying26, (by rw [hs]; rfl), by go_grown⟩
theorem two_minus (x y : En.Rc) (w : World) :
    Calls Try.prog 68 #[rcV x, rcV y, .func (.func 72) #[] #[]] w fun e w' => e = .returned (rcE (twoR En.minus x y)) ∧ Below w.heap.size w w' := by
  have CV := validR2_any x y
  cases hv : (x.ok && y.ok) with
  | false =>
    have ht : twoR En.minus x y = (⟨⟨0, 0⟩, ⟨0, 0⟩⟩, 50) := by unfold twoR; rw [hv]; rfl
    rw [hv] at CV
    rw [ht]
    replace CV := Lib.hid CV
    clear hv ht
    go_enter_defers Try.func68, Try.ntmps68
    go_wp2_with fail
    have HA : Hd (((((w.alloc (.cells #[.int .i64 x.re.lo, .int .i64 x.re.hi, .int .i64 x.im.lo, .int .i64 x.im.hi] 25)).alloc (.cells #[.int .i64 y.re.lo, .int .i64 y.re.hi, .int .i64 y.im.lo, .int .i64 y.im.hi] 25)).alloc (.cells #[.int .i64 0, .int .i64 0, .int .i64 0, .int .i64 0] 25)).alloc (.cells #[.int .i64 0] 26)).alloc (.cells #[.int .i64 x.re.lo, .int .i64 x.re.hi, .int .i64 x.im.lo, .int .i64 x.im.hi, .int .i64 y.re.lo, .int .i64 y.re.hi, .int .i64 y.im.lo, .int .i64 y.im.hi] 25)) w.heap.size 25 #[.int .i64 x.re.lo, .int .i64 x.re.hi, .int .i64 x.im.lo, .int .i64 x.im.hi] := hdx
    have HB : Hd (((((w.alloc (.cells #[.int .i64 x.re.lo, .int .i64 x.re.hi, .int .i64 x.im.lo, .int .i64 x.im.hi] 25)).alloc (.cells #[.int .i64 y.re.lo, .int .i64 y.re.hi, .int .i64 y.im.lo, .int .i64 y.im.hi] 25)).alloc (.cells #[.int .i64 0, .int .i64 0, .int .i64 0, .int .i64 0] 25)).alloc (.cells #[.int .i64 0] 26)).alloc (.cells #[.int .i64 x.re.lo, .int .i64 x.re.hi, .int .i64 x.im.lo, .int .i64 x.im.hi, .int .i64 y.re.lo, .int .i64 y.re.hi, .int .i64 y.im.lo, .int .i64 y.im.hi] 25)) (w.heap.size + 1) 25 #[.int .i64 y.re.lo, .int .i64 y.re.hi, .int .i64 y.im.lo, .int .i64 y.im.hi] := hdx
    have HC : Hd (((((w.alloc (.cells #[.int .i64 x.re.lo, .int .i64 x.re.hi, .int .i64 x.im.lo, .int .i64 x.im.hi] 25)).alloc (.cells #[.int .i64 y.re.lo, .int .i64 y.re.hi, .int .i64 y.im.lo, .int .i64 y.im.hi] 25)).alloc (.cells #[.int .i64 0, .int .i64 0, .int .i64 0, .int .i64 0] 25)).alloc (.cells #[.int .i64 0] 26)).alloc (.cells #[.int .i64 x.re.lo, .int .i64 x.re.hi, .int .i64 x.im.lo, .int .i64 x.im.hi, .int .i64 y.re.lo, .int .i64 y.re.hi, .int .i64 y.im.lo, .int .i64 y.im.hi] 25)) (w.heap.size + 2) 25 #[.int .i64 0, .int .i64 0, .int .i64 0, .int .i64 0] := hdx
    have HE : Hd (((((w.alloc (.cells #[.int .i64 x.re.lo, .int .i64 x.re.hi, .int .i64 x.im.lo, .int .i64 x.im.hi] 25)).alloc (.cells #[.int .i64 y.re.lo, .int .i64 y.re.hi, .int .i64 y.im.lo, .int .i64 y.im.hi] 25)).alloc (.cells #[.int .i64 0, .int .i64 0, .int .i64 0, .int .i64 0] 25)).alloc (.cells #[.int .i64 0] 26)).alloc (.cells #[.int .i64 x.re.lo, .int .i64 x.re.hi, .int .i64 x.im.lo, .int .i64 x.im.hi, .int .i64 y.re.lo, .int .i64 y.re.hi, .int .i64 y.im.lo, .int .i64 y.im.hi] 25)) (w.heap.size + 3) 26 #[.int .i64 0] := hdx
    have HV : Hd (((((w.alloc (.cells #[.int .i64 x.re.lo, .int .i64 x.re.hi, .int .i64 x.im.lo, .int .i64 x.im.hi] 25)).alloc (.cells #[.int .i64 y.re.lo, .int .i64 y.re.hi, .int .i64 y.im.lo, .int .i64 y.im.hi] 25)).alloc (.cells #[.int .i64 0, .int .i64 0, .int .i64 0, .int .i64 0] 25)).alloc (.cells #[.int .i64 0] 26)).alloc (.cells #[.int .i64 x.re.lo, .int .i64 x.re.hi, .int .i64 x.im.lo, .int .i64 x.im.hi, .int .i64 y.re.lo, .int .i64 y.re.hi, .int .i64 y.im.lo, .int .i64 y.im.hi] 25)) (w.heap.size + 4) 25 #[.int .i64 x.re.lo, .int .i64 x.re.hi, .int .i64 x.im.lo, .int .i64 x.im.hi, .int .i64 y.re.lo, .int .i64 y.re.hi, .int .i64 y.im.lo, .int .i64 y.im.hi] := hdx
    have bw : Below w.heap.size w (((((w.alloc (.cells #[.int .i64 x.re.lo, .int .i64 x.re.hi, .int .i64 x.im.lo, .int .i64 x.im.hi] 25)).alloc (.cells #[.int .i64 y.re.lo, .int .i64 y.re.hi, .int .i64 y.im.lo, .int .i64 y.im.hi] 25)).alloc (.cells #[.int .i64 0, .int .i64 0, .int .i64 0, .int .i64 0] 25)).alloc (.cells #[.int .i64 0] 26)).alloc (.cells #[.int .i64 x.re.lo, .int .i64 x.re.hi, .int .i64 x.im.lo, .int .i64 x.im.hi, .int .i64 y.re.lo, .int .i64 y.re.hi, .int .i64 y.im.lo, .int .i64 y.im.hi] 25)) := by go_grown
    refine (CV.out _ _ _ HV).mono ?_
    rintro e w1 ⟨rfl, hb1⟩
    replace bw : Below w.heap.size w w1 := below_next bw hb1
    replace HA := HA.call hb1
    replace HB := HB.call hb1
    replace HC := HC.call hb1
    replace HE := HE.call hb1
    replace HV := HV.call hb1
    have lw1 : w.heap.size ≤ w1.heap.size := bw.size
    clear hb1
    obtain ⟨hcA, hfA⟩ := HA.facts
    obtain ⟨hcB, hfB⟩ := HB.facts
    obtain ⟨hcC, hfC⟩ := HC.facts
    obtain ⟨hcE, hfE⟩ := HE.facts
    go_wp2
    exact ⟨_, run_results_ce rfl rfl (by (show Hd _ (w.heap.size + 2) 25 #[.int .i64 0, .int .i64 0, .int .i64 0, .int .i64 0]); exact hdx) Try.underlying25 rfl (by kernel_rfl) rfl (by (show Hd _ (w.heap.size + 3) 26 #[.int .i64 (50)]); exact hdx) Try.underlying26, rfl, by go_grown⟩
  | true =>
    have ht : twoR En.minus x y = outR (En.minus x y) := by unfold twoR; rw [hv]; rfl
    rw [hv] at CV
    rw [ht]
    replace CV := Lib.hid CV
    have hop' := Lib.hid (minus_any x y (En.Rc.fit_of_ok (by cases h : x.ok <;> simp_all)) (En.Rc.fit_of_ok (by cases h : y.ok <;> simp_all)))
    clear hv ht
    go_enter_defers Try.func68, Try.ntmps68
    go_wp2_with fail
    have HA : Hd (((((w.alloc (.cells #[.int .i64 x.re.lo, .int .i64 x.re.hi, .int .i64 x.im.lo, .int .i64 x.im.hi] 25)).alloc (.cells #[.int .i64 y.re.lo, .int .i64 y.re.hi, .int .i64 y.im.lo, .int .i64 y.im.hi] 25)).alloc (.cells #[.int .i64 0, .int .i64 0, .int .i64 0, .int .i64 0] 25)).alloc (.cells #[.int .i64 0] 26)).alloc (.cells #[.int .i64 x.re.lo, .int .i64 x.re.hi, .int .i64 x.im.lo, .int .i64 x.im.hi, .int .i64 y.re.lo, .int .i64 y.re.hi, .int .i64 y.im.lo, .int .i64 y.im.hi] 25)) w.heap.size 25 #[.int .i64 x.re.lo, .int .i64 x.re.hi, .int .i64 x.im.lo, .int .i64 x.im.hi] := hdx
    have HB : Hd (((((w.alloc (.cells #[.int .i64 x.re.lo, .int .i64 x.re.hi, .int .i64 x.im.lo, .int .i64 x.im.hi] 25)).alloc (.cells #[.int .i64 y.re.lo, .int .i64 y.re.hi, .int .i64 y.im.lo, .int .i64 y.im.hi] 25)).alloc (.cells #[.int .i64 0, .int .i64 0, .int .i64 0, .int .i64 0] 25)).alloc (.cells #[.int .i64 0] 26)).alloc (.cells #[.int .i64 x.re.lo, .int .i64 x.re.hi, .int .i64 x.im.lo, .int .i64 x.im.hi, .int .i64 y.re.lo, .int .i64 y.re.hi, .int .i64 y.im.lo, .int .i64 y.im.hi] 25)) (w.heap.size + 1) 25 #[.int .i64 y.re.lo, .int .i64 y.re.hi, .int .i64 y.im.lo, .int .i64 y.im.hi] := hdx
    have HC : Hd (((((w.alloc (.cells #[.int .i64 x.re.lo, .int .i64 x.re.hi, .int .i64 x.im.lo, .int .i64 x.im.hi] 25)).alloc (.cells #[.int .i64 y.re.lo, .int .i64 y.re.hi, .int .i64 y.im.lo, .int .i64 y.im.hi] 25)).alloc (.cells #[.int .i64 0, .int .i64 0, .int .i64 0, .int .i64 0] 25)).alloc (.cells #[.int .i64 0] 26)).alloc (.cells #[.int .i64 x.re.lo, .int .i64 x.re.hi, .int .i64 x.im.lo, .int .i64 x.im.hi, .int .i64 y.re.lo, .int .i64 y.re.hi, .int .i64 y.im.lo, .int .i64 y.im.hi] 25)) (w.heap.size + 2) 25 #[.int .i64 0, .int .i64 0, .int .i64 0, .int .i64 0] := hdx
    have HE : Hd (((((w.alloc (.cells #[.int .i64 x.re.lo, .int .i64 x.re.hi, .int .i64 x.im.lo, .int .i64 x.im.hi] 25)).alloc (.cells #[.int .i64 y.re.lo, .int .i64 y.re.hi, .int .i64 y.im.lo, .int .i64 y.im.hi] 25)).alloc (.cells #[.int .i64 0, .int .i64 0, .int .i64 0, .int .i64 0] 25)).alloc (.cells #[.int .i64 0] 26)).alloc (.cells #[.int .i64 x.re.lo, .int .i64 x.re.hi, .int .i64 x.im.lo, .int .i64 x.im.hi, .int .i64 y.re.lo, .int .i64 y.re.hi, .int .i64 y.im.lo, .int .i64 y.im.hi] 25)) (w.heap.size + 3) 26 #[.int .i64 0] := hdx
    have HV : Hd (((((w.alloc (.cells #[.int .i64 x.re.lo, .int .i64 x.re.hi, .int .i64 x.im.lo, .int .i64 x.im.hi] 25)).alloc (.cells #[.int .i64 y.re.lo, .int .i64 y.re.hi, .int .i64 y.im.lo, .int .i64 y.im.hi] 25)).alloc (.cells #[.int .i64 0, .int .i64 0, .int .i64 0, .int .i64 0] 25)).alloc (.cells #[.int .i64 0] 26)).alloc (.cells #[.int .i64 x.re.lo, .int .i64 x.re.hi, .int .i64 x.im.lo, .int .i64 x.im.hi, .int .i64 y.re.lo, .int .i64 y.re.hi, .int .i64 y.im.lo, .int .i64 y.im.hi] 25)) (w.heap.size + 4) 25 #[.int .i64 x.re.lo, .int .i64 x.re.hi, .int .i64 x.im.lo, .int .i64 x.im.hi, .int .i64 y.re.lo, .int .i64 y.re.hi, .int .i64 y.im.lo, .int .i64 y.im.hi] := hdx
    have bw : Below w.heap.size w (((((w.alloc (.cells #[.int .i64 x.re.lo, .int .i64 x.re.hi, .int .i64 x.im.lo, .int .i64 x.im.hi] 25)).alloc (.cells #[.int .i64 y.re.lo, .int .i64 y.re.hi, .int .i64 y.im.lo, .int .i64 y.im.hi] 25)).alloc (.cells #[.int .i64 0, .int .i64 0, .int .i64 0, .int .i64 0] 25)).alloc (.cells #[.int .i64 0] 26)).alloc (.cells #[.int .i64 x.re.lo, .int .i64 x.re.hi, .int .i64 x.im.lo, .int .i64 x.im.hi, .int .i64 y.re.lo, .int .i64 y.re.hi, .int .i64 y.im.lo, .int .i64 y.im.hi] 25)) := by go_grown
    refine (CV.out _ _ _ HV).mono ?_
    rintro e w1 ⟨rfl, hb1⟩
    replace bw : Below w.heap.size w w1 := below_next bw hb1
    replace HA := HA.call hb1
    replace HB := HB.call hb1
    replace HC := HC.call hb1
    replace HE := HE.call hb1
    replace HV := HV.call hb1
    have lw1 : w.heap.size ≤ w1.heap.size := bw.size
    clear hb1
    obtain ⟨hcA, hfA⟩ := HA.facts
    obtain ⟨hcB, hfB⟩ := HB.facts
    obtain ⟨hcC, hfC⟩ := HC.facts
    obtain ⟨hcE, hfE⟩ := HE.facts
    go_wp2_with fail
    refine (hop'.out _).mono ?_
    intro e w2 hp
    obtain ⟨hb2, hcase⟩ := hp.cases
    clear hp
    replace bw : Below w.heap.size w w2 := below_next bw hb2
    replace HA := HA.call hb2
    replace HB := HB.call hb2
    replace HC := HC.call hb2
    replace HE := HE.call hb2
    replace HV := HV.call hb2
    have lw2 : w.heap.size ≤ w2.heap.size := bw.size
    clear hb2
    rcases hcase with ⟨s, hs, rfl⟩ | ⟨c, hs, rfl⟩
    · obtain ⟨hcC, hfC⟩ := HC.facts
      obtain ⟨hcE, hfE⟩ := HE.facts
      go_wp2
      refine leaves_cons (f := 62) (args := #[.pointer (some ⟨w.heap.size + 3, 0, none⟩)]) (by simp) (by simp [go_sem]) ?_
      refine (guard_idle _ _).mono ?_
      rintro e u' w'' ⟨rfl, rfl, rfl⟩
      exact ⟨_, run_results_ce rfl rfl (by (show Hd _ (w.heap.size + 2) 25 #[.int .i64 s.re.lo, .int .i64 s.re.hi, .int .i64 s.im.lo, .int .i64 s.im.hi]); exact hdx) Try.underlying25 rfl (by kernel_rfl) rfl (by (show Hd _ (w.heap.size + 3) 26 #[.int .i64 (0)]); exact hdx) Try.underlying26, (by rw [hs]; rfl), by go_grown⟩
    · refine leaves_cons (f := 62) (args := #[.pointer (some ⟨w.heap.size + 3, 0, none⟩)]) (by simp) (by simp [go_sem]) ?_
      refine (guard_panicking _ _ _ _ HE).mono ?_
      rintro e u' w'' ⟨rfl, rfl, rfl⟩
      exact ⟨_, run_results_ce rfl rfl (by (show Hd _ (w.heap.size + 2) 25 #[.int .i64 0, .int .i64 0, .int .i64 0, .int .i64 0]); exact hdx) Try.underlying25 rfl (by kernel_rfl) rfl (by (show Hd _ (w.heap.size + 3) 26 #[.int .i64 (c)]); exact hdx) Try.underlying26, (by rw [hs]; rfl), by go_grown⟩
theorem two_times (x y : En.Rc) (w : World) :
    Calls Try.prog 68 #[rcV x, rcV y, .func (.func 76) #[] #[]] w fun e w' => e = .returned (rcE (twoR En.times x y)) ∧ Below w.heap.size w w' := by
  have CV := validR2_any x y
  cases hv : (x.ok && y.ok) with
  | false =>
    have ht : twoR En.times x y = (⟨⟨0, 0⟩, ⟨0, 0⟩⟩, 50) := by unfold twoR; rw [hv]; rfl
    rw [hv] at CV
    rw [ht]
    replace CV := Lib.hid CV
    clear hv ht
    go_enter_defers Try.func68, Try.ntmps68
    go_wp2_with fail
    have HA : Hd (((((w.alloc (.cells #[.int .i64 x.re.lo, .int .i64 x.re.hi, .int .i64 x.im.lo, .int .i64 x.im.hi] 25)).alloc (.cells #[.int .i64 y.re.lo, .int .i64 y.re.hi, .int .i64 y.im.lo, .int .i64 y.im.hi] 25)).alloc (.cells #[.int .i64 0, .int .i64 0, .int .i64 0, .int .i64 0] 25)).alloc (.cells #[.int .i64 0] 26)).alloc (.cells #[.int .i64 x.re.lo, .int .i64 x.re.hi, .int .i64 x.im.lo, .int .i64 x.im.hi, .int .i64 y.re.lo, .int .i64 y.re.hi, .int .i64 y.im.lo, .int .i64 y.im.hi] 25)) w.heap.size 25 #[.int .i64 x.re.lo, .int .i64 x.re.hi, .int .i64 x.im.lo, .int .i64 x.im.hi] := hdx
    have HB : Hd (((((w.alloc (.cells #[.int .i64 x.re.lo, .int .i64 x.re.hi, .int .i64 x.im.lo, .int .i64 x.im.hi] 25)).alloc (.cells #[.int .i64 y.re.lo, .int .i64 y.re.hi, .int .i64 y.im.lo, .int .i64 y.im.hi] 25)).alloc (.cells #[.int .i64 0, .int .i64 0, .int .i64 0, .int .i64 0] 25)).alloc (.cells #[.int .i64 0] 26)).alloc (.cells #[.int .i64 x.re.lo, .int .i64 x.re.hi, .int .i64 x.im.lo, .int .i64 x.im.hi, .int .i64 y.re.lo, .int .i64 y.re.hi, .int .i64 y.im.lo, .int .i64 y.im.hi] 25)) (w.heap.size + 1) 25 #[.int .i64 y.re.lo, .int .i64 y.re.hi, .int .i64 y.im.lo, .int .i64 y.im.hi] := hdx
    have HC : Hd (((((w.alloc (.cells #[.int .i64 x.re.lo, .int .i64 x.re.hi, .int .i64 x.im.lo, .int .i64 x.im.hi] 25)).alloc (.cells #[.int .i64 y.re.lo, .int .i64 y.re.hi, .int .i64 y.im.lo, .int .i64 y.im.hi] 25)).alloc (.cells #[.int .i64 0, .int .i64 0, .int .i64 0, .int .i64 0] 25)).alloc (.cells #[.int .i64 0] 26)).alloc (.cells #[.int .i64 x.re.lo, .int .i64 x.re.hi, .int .i64 x.im.lo, .int .i64 x.im.hi, .int .i64 y.re.lo, .int .i64 y.re.hi, .int .i64 y.im.lo, .int .i64 y.im.hi] 25)) (w.heap.size + 2) 25 #[.int .i64 0, .int .i64 0, .int .i64 0, .int .i64 0] := hdx
    have HE : Hd (((((w.alloc (.cells #[.int .i64 x.re.lo, .int .i64 x.re.hi, .int .i64 x.im.lo, .int .i64 x.im.hi] 25)).alloc (.cells #[.int .i64 y.re.lo, .int .i64 y.re.hi, .int .i64 y.im.lo, .int .i64 y.im.hi] 25)).alloc (.cells #[.int .i64 0, .int .i64 0, .int .i64 0, .int .i64 0] 25)).alloc (.cells #[.int .i64 0] 26)).alloc (.cells #[.int .i64 x.re.lo, .int .i64 x.re.hi, .int .i64 x.im.lo, .int .i64 x.im.hi, .int .i64 y.re.lo, .int .i64 y.re.hi, .int .i64 y.im.lo, .int .i64 y.im.hi] 25)) (w.heap.size + 3) 26 #[.int .i64 0] := hdx
    have HV : Hd (((((w.alloc (.cells #[.int .i64 x.re.lo, .int .i64 x.re.hi, .int .i64 x.im.lo, .int .i64 x.im.hi] 25)).alloc (.cells #[.int .i64 y.re.lo, .int .i64 y.re.hi, .int .i64 y.im.lo, .int .i64 y.im.hi] 25)).alloc (.cells #[.int .i64 0, .int .i64 0, .int .i64 0, .int .i64 0] 25)).alloc (.cells #[.int .i64 0] 26)).alloc (.cells #[.int .i64 x.re.lo, .int .i64 x.re.hi, .int .i64 x.im.lo, .int .i64 x.im.hi, .int .i64 y.re.lo, .int .i64 y.re.hi, .int .i64 y.im.lo, .int .i64 y.im.hi] 25)) (w.heap.size + 4) 25 #[.int .i64 x.re.lo, .int .i64 x.re.hi, .int .i64 x.im.lo, .int .i64 x.im.hi, .int .i64 y.re.lo, .int .i64 y.re.hi, .int .i64 y.im.lo, .int .i64 y.im.hi] := hdx
    have bw : Below w.heap.size w (((((w.alloc (.cells #[.int .i64 x.re.lo, .int .i64 x.re.hi, .int .i64 x.im.lo, .int .i64 x.im.hi] 25)).alloc (.cells #[.int .i64 y.re.lo, .int .i64 y.re.hi, .int .i64 y.im.lo, .int .i64 y.im.hi] 25)).alloc (.cells #[.int .i64 0, .int .i64 0, .int .i64 0, .int .i64 0] 25)).alloc (.cells #[.int .i64 0] 26)).alloc (.cells #[.int .i64 x.re.lo, .int .i64 x.re.hi, .int .i64 x.im.lo, .int .i64 x.im.hi, .int .i64 y.re.lo, .int .i64 y.re.hi, .int .i64 y.im.lo, .int .i64 y.im.hi] 25)) := by go_grown
    refine (CV.out _ _ _ HV).mono ?_
    rintro e w1 ⟨rfl, hb1⟩
    replace bw : Below w.heap.size w w1 := below_next bw hb1
    replace HA := HA.call hb1
    replace HB := HB.call hb1
    replace HC := HC.call hb1
    replace HE := HE.call hb1
    replace HV := HV.call hb1
    have lw1 : w.heap.size ≤ w1.heap.size := bw.size
    clear hb1
    obtain ⟨hcA, hfA⟩ := HA.facts
    obtain ⟨hcB, hfB⟩ := HB.facts
    obtain ⟨hcC, hfC⟩ := HC.facts
    obtain ⟨hcE, hfE⟩ := HE.facts
    go_wp2
    exact ⟨_, run_results_ce rfl rfl (by (show Hd _ (w.heap.size + 2) 25 #[.int .i64 0, .int .i64 0, .int .i64 0, .int .i64 0]); exact hdx) Try.underlying25 rfl (by kernel_rfl) rfl (by (show Hd _ (w.heap.size + 3) 26 #[.int .i64 (50)]); exact hdx) Try.underlying26, rfl, by go_grown⟩
  | true =>
    have ht : twoR En.times x y = outR (En.times x y) := by unfold twoR; rw [hv]; rfl
    rw [hv] at CV
    rw [ht]
    replace CV := Lib.hid CV
    have hop' := Lib.hid (times_any x y (En.Rc.fit_of_ok (by cases h : x.ok <;> simp_all)) (En.Rc.fit_of_ok (by cases h : y.ok <;> simp_all)))
    clear hv ht
    go_enter_defers Try.func68, Try.ntmps68
    go_wp2_with fail
    have HA : Hd (((((w.alloc (.cells #[.int .i64 x.re.lo, .int .i64 x.re.hi, .int .i64 x.im.lo, .int .i64 x.im.hi] 25)).alloc (.cells #[.int .i64 y.re.lo, .int .i64 y.re.hi, .int .i64 y.im.lo, .int .i64 y.im.hi] 25)).alloc (.cells #[.int .i64 0, .int .i64 0, .int .i64 0, .int .i64 0] 25)).alloc (.cells #[.int .i64 0] 26)).alloc (.cells #[.int .i64 x.re.lo, .int .i64 x.re.hi, .int .i64 x.im.lo, .int .i64 x.im.hi, .int .i64 y.re.lo, .int .i64 y.re.hi, .int .i64 y.im.lo, .int .i64 y.im.hi] 25)) w.heap.size 25 #[.int .i64 x.re.lo, .int .i64 x.re.hi, .int .i64 x.im.lo, .int .i64 x.im.hi] := hdx
    have HB : Hd (((((w.alloc (.cells #[.int .i64 x.re.lo, .int .i64 x.re.hi, .int .i64 x.im.lo, .int .i64 x.im.hi] 25)).alloc (.cells #[.int .i64 y.re.lo, .int .i64 y.re.hi, .int .i64 y.im.lo, .int .i64 y.im.hi] 25)).alloc (.cells #[.int .i64 0, .int .i64 0, .int .i64 0, .int .i64 0] 25)).alloc (.cells #[.int .i64 0] 26)).alloc (.cells #[.int .i64 x.re.lo, .int .i64 x.re.hi, .int .i64 x.im.lo, .int .i64 x.im.hi, .int .i64 y.re.lo, .int .i64 y.re.hi, .int .i64 y.im.lo, .int .i64 y.im.hi] 25)) (w.heap.size + 1) 25 #[.int .i64 y.re.lo, .int .i64 y.re.hi, .int .i64 y.im.lo, .int .i64 y.im.hi] := hdx
    have HC : Hd (((((w.alloc (.cells #[.int .i64 x.re.lo, .int .i64 x.re.hi, .int .i64 x.im.lo, .int .i64 x.im.hi] 25)).alloc (.cells #[.int .i64 y.re.lo, .int .i64 y.re.hi, .int .i64 y.im.lo, .int .i64 y.im.hi] 25)).alloc (.cells #[.int .i64 0, .int .i64 0, .int .i64 0, .int .i64 0] 25)).alloc (.cells #[.int .i64 0] 26)).alloc (.cells #[.int .i64 x.re.lo, .int .i64 x.re.hi, .int .i64 x.im.lo, .int .i64 x.im.hi, .int .i64 y.re.lo, .int .i64 y.re.hi, .int .i64 y.im.lo, .int .i64 y.im.hi] 25)) (w.heap.size + 2) 25 #[.int .i64 0, .int .i64 0, .int .i64 0, .int .i64 0] := hdx
    have HE : Hd (((((w.alloc (.cells #[.int .i64 x.re.lo, .int .i64 x.re.hi, .int .i64 x.im.lo, .int .i64 x.im.hi] 25)).alloc (.cells #[.int .i64 y.re.lo, .int .i64 y.re.hi, .int .i64 y.im.lo, .int .i64 y.im.hi] 25)).alloc (.cells #[.int .i64 0, .int .i64 0, .int .i64 0, .int .i64 0] 25)).alloc (.cells #[.int .i64 0] 26)).alloc (.cells #[.int .i64 x.re.lo, .int .i64 x.re.hi, .int .i64 x.im.lo, .int .i64 x.im.hi, .int .i64 y.re.lo, .int .i64 y.re.hi, .int .i64 y.im.lo, .int .i64 y.im.hi] 25)) (w.heap.size + 3) 26 #[.int .i64 0] := hdx
    have HV : Hd (((((w.alloc (.cells #[.int .i64 x.re.lo, .int .i64 x.re.hi, .int .i64 x.im.lo, .int .i64 x.im.hi] 25)).alloc (.cells #[.int .i64 y.re.lo, .int .i64 y.re.hi, .int .i64 y.im.lo, .int .i64 y.im.hi] 25)).alloc (.cells #[.int .i64 0, .int .i64 0, .int .i64 0, .int .i64 0] 25)).alloc (.cells #[.int .i64 0] 26)).alloc (.cells #[.int .i64 x.re.lo, .int .i64 x.re.hi, .int .i64 x.im.lo, .int .i64 x.im.hi, .int .i64 y.re.lo, .int .i64 y.re.hi, .int .i64 y.im.lo, .int .i64 y.im.hi] 25)) (w.heap.size + 4) 25 #[.int .i64 x.re.lo, .int .i64 x.re.hi, .int .i64 x.im.lo, .int .i64 x.im.hi, .int .i64 y.re.lo, .int .i64 y.re.hi, .int .i64 y.im.lo, .int .i64 y.im.hi] := hdx
    have bw : Below w.heap.size w (((((w.alloc (.cells #[.int .i64 x.re.lo, .int .i64 x.re.hi, .int .i64 x.im.lo, .int .i64 x.im.hi] 25)).alloc (.cells #[.int .i64 y.re.lo, .int .i64 y.re.hi, .int .i64 y.im.lo, .int .i64 y.im.hi] 25)).alloc (.cells #[.int .i64 0, .int .i64 0, .int .i64 0, .int .i64 0] 25)).alloc (.cells #[.int .i64 0] 26)).alloc (.cells #[.int .i64 x.re.lo, .int .i64 x.re.hi, .int .i64 x.im.lo, .int .i64 x.im.hi, .int .i64 y.re.lo, .int .i64 y.re.hi, .int .i64 y.im.lo, .int .i64 y.im.hi] 25)) := by go_grown
    refine (CV.out _ _ _ HV).mono ?_
    rintro e w1 ⟨rfl, hb1⟩
    replace bw : Below w.heap.size w w1 := below_next bw hb1
    replace HA := HA.call hb1
    replace HB := HB.call hb1
    replace HC := HC.call hb1
    replace HE := HE.call hb1
    replace HV := HV.call hb1
    have lw1 : w.heap.size ≤ w1.heap.size := bw.size
    clear hb1
    obtain ⟨hcA, hfA⟩ := HA.facts
    obtain ⟨hcB, hfB⟩ := HB.facts
    obtain ⟨hcC, hfC⟩ := HC.facts
    obtain ⟨hcE, hfE⟩ := HE.facts
    go_wp2_with fail
    refine (hop'.out _).mono ?_
    intro e w2 hp
    obtain ⟨hb2, hcase⟩ := hp.cases
    clear hp
    replace bw : Below w.heap.size w w2 := below_next bw hb2
    replace HA := HA.call hb2
    replace HB := HB.call hb2
    replace HC := HC.call hb2
    replace HE := HE.call hb2
    replace HV := HV.call hb2
    have lw2 : w.heap.size ≤ w2.heap.size := bw.size
    clear hb2
    rcases hcase with ⟨s, hs, rfl⟩ | ⟨c, hs, rfl⟩
    · obtain ⟨hcC, hfC⟩ := HC.facts
      obtain ⟨hcE, hfE⟩ := HE.facts
      go_wp2
      refine leaves_cons (f := 62) (args := #[.pointer (some ⟨w.heap.size + 3, 0, none⟩)]) (by simp) (by simp [go_sem]) ?_
      refine (guard_idle _ _).mono ?_
      rintro e u' w'' ⟨rfl, rfl, rfl⟩
      exact ⟨_, run_results_ce rfl rfl (by (show Hd _ (w.heap.size + 2) 25 #[.int .i64 s.re.lo, .int .i64 s.re.hi, .int .i64 s.im.lo, .int .i64 s.im.hi]); exact hdx) Try.underlying25 rfl (by kernel_rfl) rfl (by (show Hd _ (w.heap.size + 3) 26 #[.int .i64 (0)]); exact hdx) Try.underlying26, (by rw [hs]; rfl), by go_grown⟩
    · refine leaves_cons (f := 62) (args := #[.pointer (some ⟨w.heap.size + 3, 0, none⟩)]) (by simp) (by simp [go_sem]) ?_
      refine (guard_panicking _ _ _ _ HE).mono ?_
      rintro e u' w'' ⟨rfl, rfl, rfl⟩
      exact ⟨_, run_results_ce rfl rfl (by (show Hd _ (w.heap.size + 2) 25 #[.int .i64 0, .int .i64 0, .int .i64 0, .int .i64 0]); exact hdx) Try.underlying25 rfl (by kernel_rfl) rfl (by (show Hd _ (w.heap.size + 3) 26 #[.int .i64 (c)]); exact hdx) Try.underlying26, (by rw [hs]; rfl), by go_grown⟩
theorem two_quotient (x y : En.Rc) (w : World) :
    Calls Try.prog 68 #[rcV x, rcV y, .func (.func 77) #[] #[]] w fun e w' => e = .returned (rcE (twoR En.quotient x y)) ∧ Below w.heap.size w w' := by
  have CV := validR2_any x y
  cases hv : (x.ok && y.ok) with
  | false =>
    have ht : twoR En.quotient x y = (⟨⟨0, 0⟩, ⟨0, 0⟩⟩, 50) := by unfold twoR; rw [hv]; rfl
    rw [hv] at CV
    rw [ht]
    replace CV := Lib.hid CV
    clear hv ht
    go_enter_defers Try.func68, Try.ntmps68
    go_wp2_with fail
    have HA : Hd (((((w.alloc (.cells #[.int .i64 x.re.lo, .int .i64 x.re.hi, .int .i64 x.im.lo, .int .i64 x.im.hi] 25)).alloc (.cells #[.int .i64 y.re.lo, .int .i64 y.re.hi, .int .i64 y.im.lo, .int .i64 y.im.hi] 25)).alloc (.cells #[.int .i64 0, .int .i64 0, .int .i64 0, .int .i64 0] 25)).alloc (.cells #[.int .i64 0] 26)).alloc (.cells #[.int .i64 x.re.lo, .int .i64 x.re.hi, .int .i64 x.im.lo, .int .i64 x.im.hi, .int .i64 y.re.lo, .int .i64 y.re.hi, .int .i64 y.im.lo, .int .i64 y.im.hi] 25)) w.heap.size 25 #[.int .i64 x.re.lo, .int .i64 x.re.hi, .int .i64 x.im.lo, .int .i64 x.im.hi] := hdx
    have HB : Hd (((((w.alloc (.cells #[.int .i64 x.re.lo, .int .i64 x.re.hi, .int .i64 x.im.lo, .int .i64 x.im.hi] 25)).alloc (.cells #[.int .i64 y.re.lo, .int .i64 y.re.hi, .int .i64 y.im.lo, .int .i64 y.im.hi] 25)).alloc (.cells #[.int .i64 0, .int .i64 0, .int .i64 0, .int .i64 0] 25)).alloc (.cells #[.int .i64 0] 26)).alloc (.cells #[.int .i64 x.re.lo, .int .i64 x.re.hi, .int .i64 x.im.lo, .int .i64 x.im.hi, .int .i64 y.re.lo, .int .i64 y.re.hi, .int .i64 y.im.lo, .int .i64 y.im.hi] 25)) (w.heap.size + 1) 25 #[.int .i64 y.re.lo, .int .i64 y.re.hi, .int .i64 y.im.lo, .int .i64 y.im.hi] := hdx
    have HC : Hd (((((w.alloc (.cells #[.int .i64 x.re.lo, .int .i64 x.re.hi, .int .i64 x.im.lo, .int .i64 x.im.hi] 25)).alloc (.cells #[.int .i64 y.re.lo, .int .i64 y.re.hi, .int .i64 y.im.lo, .int .i64 y.im.hi] 25)).alloc (.cells #[.int .i64 0, .int .i64 0, .int .i64 0, .int .i64 0] 25)).alloc (.cells #[.int .i64 0] 26)).alloc (.cells #[.int .i64 x.re.lo, .int .i64 x.re.hi, .int .i64 x.im.lo, .int .i64 x.im.hi, .int .i64 y.re.lo, .int .i64 y.re.hi, .int .i64 y.im.lo, .int .i64 y.im.hi] 25)) (w.heap.size + 2) 25 #[.int .i64 0, .int .i64 0, .int .i64 0, .int .i64 0] := hdx
    have HE : Hd (((((w.alloc (.cells #[.int .i64 x.re.lo, .int .i64 x.re.hi, .int .i64 x.im.lo, .int .i64 x.im.hi] 25)).alloc (.cells #[.int .i64 y.re.lo, .int .i64 y.re.hi, .int .i64 y.im.lo, .int .i64 y.im.hi] 25)).alloc (.cells #[.int .i64 0, .int .i64 0, .int .i64 0, .int .i64 0] 25)).alloc (.cells #[.int .i64 0] 26)).alloc (.cells #[.int .i64 x.re.lo, .int .i64 x.re.hi, .int .i64 x.im.lo, .int .i64 x.im.hi, .int .i64 y.re.lo, .int .i64 y.re.hi, .int .i64 y.im.lo, .int .i64 y.im.hi] 25)) (w.heap.size + 3) 26 #[.int .i64 0] := hdx
    have HV : Hd (((((w.alloc (.cells #[.int .i64 x.re.lo, .int .i64 x.re.hi, .int .i64 x.im.lo, .int .i64 x.im.hi] 25)).alloc (.cells #[.int .i64 y.re.lo, .int .i64 y.re.hi, .int .i64 y.im.lo, .int .i64 y.im.hi] 25)).alloc (.cells #[.int .i64 0, .int .i64 0, .int .i64 0, .int .i64 0] 25)).alloc (.cells #[.int .i64 0] 26)).alloc (.cells #[.int .i64 x.re.lo, .int .i64 x.re.hi, .int .i64 x.im.lo, .int .i64 x.im.hi, .int .i64 y.re.lo, .int .i64 y.re.hi, .int .i64 y.im.lo, .int .i64 y.im.hi] 25)) (w.heap.size + 4) 25 #[.int .i64 x.re.lo, .int .i64 x.re.hi, .int .i64 x.im.lo, .int .i64 x.im.hi, .int .i64 y.re.lo, .int .i64 y.re.hi, .int .i64 y.im.lo, .int .i64 y.im.hi] := hdx
    have bw : Below w.heap.size w (((((w.alloc (.cells #[.int .i64 x.re.lo, .int .i64 x.re.hi, .int .i64 x.im.lo, .int .i64 x.im.hi] 25)).alloc (.cells #[.int .i64 y.re.lo, .int .i64 y.re.hi, .int .i64 y.im.lo, .int .i64 y.im.hi] 25)).alloc (.cells #[.int .i64 0, .int .i64 0, .int .i64 0, .int .i64 0] 25)).alloc (.cells #[.int .i64 0] 26)).alloc (.cells #[.int .i64 x.re.lo, .int .i64 x.re.hi, .int .i64 x.im.lo, .int .i64 x.im.hi, .int .i64 y.re.lo, .int .i64 y.re.hi, .int .i64 y.im.lo, .int .i64 y.im.hi] 25)) := by go_grown
    refine (CV.out _ _ _ HV).mono ?_
    rintro e w1 ⟨rfl, hb1⟩
    replace bw : Below w.heap.size w w1 := below_next bw hb1
    replace HA := HA.call hb1
    replace HB := HB.call hb1
    replace HC := HC.call hb1
    replace HE := HE.call hb1
    replace HV := HV.call hb1
    have lw1 : w.heap.size ≤ w1.heap.size := bw.size
    clear hb1
    obtain ⟨hcA, hfA⟩ := HA.facts
    obtain ⟨hcB, hfB⟩ := HB.facts
    obtain ⟨hcC, hfC⟩ := HC.facts
    obtain ⟨hcE, hfE⟩ := HE.facts
    go_wp2
    exact ⟨_, run_results_ce rfl rfl (by (show Hd _ (w.heap.size + 2) 25 #[.int .i64 0, .int .i64 0, .int .i64 0, .int .i64 0]); exact hdx) Try.underlying25 rfl (by kernel_rfl) rfl (by (show Hd _ (w.heap.size + 3) 26 #[.int .i64 (50)]); exact hdx) Try.underlying26, rfl, by go_grown⟩
  | true =>
    have ht : twoR En.quotient x y = outR (En.quotient x y) := by unfold twoR; rw [hv]; rfl
    rw [hv] at CV
    rw [ht]
    replace CV := Lib.hid CV
    have hop' := Lib.hid (quotient_any x y (En.Rc.fit_of_ok (by cases h : x.ok <;> simp_all)) (En.Rc.fit_of_ok (by cases h : y.ok <;> simp_all)))
    clear hv ht
    go_enter_defers Try.func68, Try.ntmps68
    go_wp2_with fail
    have HA : Hd (((((w.alloc (.cells #[.int .i64 x.re.lo, .int .i64 x.re.hi, .int .i64 x.im.lo, .int .i64 x.im.hi] 25)).alloc (.cells #[.int .i64 y.re.lo, .int .i64 y.re.hi, .int .i64 y.im.lo, .int .i64 y.im.hi] 25)).alloc (.cells #[.int .i64 0, .int .i64 0, .int .i64 0, .int .i64 0] 25)).alloc (.cells #[.int .i64 0] 26)).alloc (.cells #[.int .i64 x.re.lo, .int .i64 x.re.hi, .int .i64 x.im.lo, .int .i64 x.im.hi, .int .i64 y.re.lo, .int .i64 y.re.hi, .int .i64 y.im.lo, .int .i64 y.im.hi] 25)) w.heap.size 25 #[.int .i64 x.re.lo, .int .i64 x.re.hi, .int .i64 x.im.lo, .int .i64 x.im.hi] := hdx
    have HB : Hd (((((w.alloc (.cells #[.int .i64 x.re.lo, .int .i64 x.re.hi, .int .i64 x.im.lo, .int .i64 x.im.hi] 25)).alloc (.cells #[.int .i64 y.re.lo, .int .i64 y.re.hi, .int .i64 y.im.lo, .int .i64 y.im.hi] 25)).alloc (.cells #[.int .i64 0, .int .i64 0, .int .i64 0, .int .i64 0] 25)).alloc (.cells #[.int .i64 0] 26)).alloc (.cells #[.int .i64 x.re.lo, .int .i64 x.re.hi, .int .i64 x.im.lo, .int .i64 x.im.hi, .int .i64 y.re.lo, .int .i64 y.re.hi, .int .i64 y.im.lo, .int .i64 y.im.hi] 25)) (w.heap.size + 1) 25 #[.int .i64 y.re.lo, .int .i64 y.re.hi, .int .i64 y.im.lo, .int .i64 y.im.hi] := hdx
    have HC : Hd (((((w.alloc (.cells #[.int .i64 x.re.lo, .int .i64 x.re.hi, .int .i64 x.im.lo, .int .i64 x.im.hi] 25)).alloc (.cells #[.int .i64 y.re.lo, .int .i64 y.re.hi, .int .i64 y.im.lo, .int .i64 y.im.hi] 25)).alloc (.cells #[.int .i64 0, .int .i64 0, .int .i64 0, .int .i64 0] 25)).alloc (.cells #[.int .i64 0] 26)).alloc (.cells #[.int .i64 x.re.lo, .int .i64 x.re.hi, .int .i64 x.im.lo, .int .i64 x.im.hi, .int .i64 y.re.lo, .int .i64 y.re.hi, .int .i64 y.im.lo, .int .i64 y.im.hi] 25)) (w.heap.size + 2) 25 #[.int .i64 0, .int .i64 0, .int .i64 0, .int .i64 0] := hdx
    have HE : Hd (((((w.alloc (.cells #[.int .i64 x.re.lo, .int .i64 x.re.hi, .int .i64 x.im.lo, .int .i64 x.im.hi] 25)).alloc (.cells #[.int .i64 y.re.lo, .int .i64 y.re.hi, .int .i64 y.im.lo, .int .i64 y.im.hi] 25)).alloc (.cells #[.int .i64 0, .int .i64 0, .int .i64 0, .int .i64 0] 25)).alloc (.cells #[.int .i64 0] 26)).alloc (.cells #[.int .i64 x.re.lo, .int .i64 x.re.hi, .int .i64 x.im.lo, .int .i64 x.im.hi, .int .i64 y.re.lo, .int .i64 y.re.hi, .int .i64 y.im.lo, .int .i64 y.im.hi] 25)) (w.heap.size + 3) 26 #[.int .i64 0] := hdx
    have HV : Hd (((((w.alloc (.cells #[.int .i64 x.re.lo, .int .i64 x.re.hi, .int .i64 x.im.lo, .int .i64 x.im.hi] 25)).alloc (.cells #[.int .i64 y.re.lo, .int .i64 y.re.hi, .int .i64 y.im.lo, .int .i64 y.im.hi] 25)).alloc (.cells #[.int .i64 0, .int .i64 0, .int .i64 0, .int .i64 0] 25)).alloc (.cells #[.int .i64 0] 26)).alloc (.cells #[.int .i64 x.re.lo, .int .i64 x.re.hi, .int .i64 x.im.lo, .int .i64 x.im.hi, .int .i64 y.re.lo, .int .i64 y.re.hi, .int .i64 y.im.lo, .int .i64 y.im.hi] 25)) (w.heap.size + 4) 25 #[.int .i64 x.re.lo, .int .i64 x.re.hi, .int .i64 x.im.lo, .int .i64 x.im.hi, .int .i64 y.re.lo, .int .i64 y.re.hi, .int .i64 y.im.lo, .int .i64 y.im.hi] := hdx
    have bw : Below w.heap.size w (((((w.alloc (.cells #[.int .i64 x.re.lo, .int .i64 x.re.hi, .int .i64 x.im.lo, .int .i64 x.im.hi] 25)).alloc (.cells #[.int .i64 y.re.lo, .int .i64 y.re.hi, .int .i64 y.im.lo, .int .i64 y.im.hi] 25)).alloc (.cells #[.int .i64 0, .int .i64 0, .int .i64 0, .int .i64 0] 25)).alloc (.cells #[.int .i64 0] 26)).alloc (.cells #[.int .i64 x.re.lo, .int .i64 x.re.hi, .int .i64 x.im.lo, .int .i64 x.im.hi, .int .i64 y.re.lo, .int .i64 y.re.hi, .int .i64 y.im.lo, .int .i64 y.im.hi] 25)) := by go_grown
    refine (CV.out _ _ _ HV).mono ?_
    rintro e w1 ⟨rfl, hb1⟩
    replace bw : Below w.heap.size w w1 := below_next bw hb1
    replace HA := HA.call hb1
    replace HB := HB.call hb1
    replace HC := HC.call hb1
    replace HE := HE.call hb1
    replace HV := HV.call hb1
    have lw1 : w.heap.size ≤ w1.heap.size := bw.size
    clear hb1
    obtain ⟨hcA, hfA⟩ := HA.facts
    obtain ⟨hcB, hfB⟩ := HB.facts
    obtain ⟨hcC, hfC⟩ := HC.facts
    obtain ⟨hcE, hfE⟩ := HE.facts
    go_wp2_with fail
    refine (hop'.out _).mono ?_
    intro e w2 hp
    obtain ⟨hb2, hcase⟩ := hp.cases
    clear hp
    replace bw : Below w.heap.size w w2 := below_next bw hb2
    replace HA := HA.call hb2
    replace HB := HB.call hb2
    replace HC := HC.call hb2
    replace HE := HE.call hb2
    replace HV := HV.call hb2
    have lw2 : w.heap.size ≤ w2.heap.size := bw.size
    clear hb2
    rcases hcase with ⟨s, hs, rfl⟩ | ⟨c, hs, rfl⟩
    · obtain ⟨hcC, hfC⟩ := HC.facts
      obtain ⟨hcE, hfE⟩ := HE.facts
      go_wp2
      refine leaves_cons (f := 62) (args := #[.pointer (some ⟨w.heap.size + 3, 0, none⟩)]) (by simp) (by simp [go_sem]) ?_
      refine (guard_idle _ _).mono ?_
      rintro e u' w'' ⟨rfl, rfl, rfl⟩
      exact ⟨_, run_results_ce rfl rfl (by (show Hd _ (w.heap.size + 2) 25 #[.int .i64 s.re.lo, .int .i64 s.re.hi, .int .i64 s.im.lo, .int .i64 s.im.hi]); exact hdx) Try.underlying25 rfl (by kernel_rfl) rfl (by (show Hd _ (w.heap.size + 3) 26 #[.int .i64 (0)]); exact hdx) Try.underlying26, (by rw [hs]; rfl), by go_grown⟩
    · refine leaves_cons (f := 62) (args := #[.pointer (some ⟨w.heap.size + 3, 0, none⟩)]) (by simp) (by simp [go_sem]) ?_
      refine (guard_panicking _ _ _ _ HE).mono ?_
      rintro e u' w'' ⟨rfl, rfl, rfl⟩
      exact ⟨_, run_results_ce rfl rfl (by (show Hd _ (w.heap.size + 2) 25 #[.int .i64 0, .int .i64 0, .int .i64 0, .int .i64 0]); exact hdx) Try.underlying25 rfl (by kernel_rfl) rfl (by (show Hd _ (w.heap.size + 3) 26 #[.int .i64 (c)]); exact hdx) Try.underlying26, (by rw [hs]; rfl), by go_grown⟩
end Go.Proofs.Ytpbbbfglecbceaa
/- Package enclose: the least span for a fraction. -/
namespace Go.Proofs.Ytpbbbfglecbceaa
set_option linter.all false
open Go.RowKit

theorem around1_any (A : En.Fr) (hA : A.wf) (g t : Nat) (w : World) (h : Hd w g t #[.bool A.neg, .int .u64 A.hi, .int .u64 A.lo, .int .u64 A.c]) :
    Calls Try.prog 114 #[.slice (some ⟨g, 0, none⟩) 1 1] w (Post spV (En.span A.floor A.ceil) w) := by
  obtain ⟨hcA, hfA⟩ := h.facts
  have hb := h.lt
  have F := Lib.hid (floor_any A.neg A.hi A.lo A.c hA.h0 hA.h1 hA.l0 hA.l1 hA.c0 hA.c1)
  have G := Lib.hid (ceil_any A.neg A.hi A.lo A.c hA.h0 hA.h1 hA.l0 hA.l1 hA.c0 hA.c1)
  clear hA
  obtain ⟨fl, hfl⟩ : ∃ q, A.floor = q := ⟨_, rfl⟩
  obtain ⟨ce, hce⟩ : ∃ q, A.ceil = q := ⟨_, rfl⟩
  rw [show (⟨A.neg, A.hi, A.lo, A.c⟩ : En.Fr).floor = fl from hfl] at F
  rw [show (⟨A.neg, A.hi, A.lo, A.c⟩ : En.Fr).ceil = ce from hce] at G
  rw [hfl, hce]
  clear hfl hce
  go_enter Try.func114, Try.ntmps114
  go_wp2
  have HB0 : Hd (w.alloc (.cells #[.int .i64 0, .int .i64 0] 23)).drew w.heap.size 23 #[.int .i64 0, .int .i64 0] := hdx
  have HG : Hd (w.alloc (.cells #[.int .i64 0, .int .i64 0] 23)).drew g t #[.bool A.neg, .int .u64 A.hi, .int .u64 A.lo, .int .u64 A.c] := hdx
  (refine wp_region_eag (fun w' => Hd w' w.heap.size 23 #[.int .i64 0, .int .i64 0] ∧ Hd w' g t #[.bool A.neg, .int .u64 A.hi, .int .u64 A.lo, .int .u64 A.c] ∧ Below w.heap.size w w') [(0, true), (1, true), (2, true), (4, true), (5, true), (6, true), (3, false), (7, false), (8, true), (9, true)] (by kernel_rfl) (by kernel_rfl) (fun c d v a w h => by cases d <;> exact h) ⟨HB0, HG, by go_grown⟩ ?_; simp only [List.map_cons, List.map_nil, List.getD_cons_zero, List.getD_cons_succ, flMark, Nat.reduceEqDiff, ↓reduceIte])
  repeat ((first | with_reducible apply eag_move | with_reducible apply eag_assign | ((with_reducible refine eag_soft (v := ?_) (fun w' hw' => ?_) ?_); rotate_left 1; (focus (obtain ⟨_, hG, hBw⟩ := hw'; obtain ⟨hc, hf⟩ := hG.facts; go_simp; (try with_reducible rfl); done)))); simp only [Act.put, Act.eval, qs])
  refine eag_hard ?_
  go_wp2_with (go_at_call 134; refine (F.out _).mono ?_; rintro e w1 ⟨rfl, hb1⟩; have bw1 : Below w.heap.size w w1 := below_next (by go_grown) hb1)
  refine ⟨⟨HB0.call hb1, HG.call hb1, bw1⟩, ?_⟩
  repeat ((first | with_reducible apply eag_move | with_reducible apply eag_assign | ((with_reducible refine eag_soft (v := ?_) (fun w' hw' => ?_) ?_); rotate_left 1; (focus (obtain ⟨_, hG, hBw⟩ := hw'; obtain ⟨hc, hf⟩ := hG.facts; go_simp; (try with_reducible rfl); done)))); simp only [Act.put, Act.eval, qs])
  refine eag_hard ?_
  go_wp2_with (go_at_call 135; refine (G.out _).mono ?_; rintro e w2 ⟨rfl, hb2⟩; have bw2 : Below w.heap.size w w2 := below_next (by go_grown) hb2)
  refine ⟨⟨(HB0.call hb1).call hb2, (HG.call hb1).call hb2, bw2⟩, ?_⟩
  have HB2 := (HB0.call hb1).call hb2
  clear HB0 HG hb1 hb2 bw1 F G
  repeat ((first | with_reducible apply eag_move | with_reducible apply eag_assign | ((with_reducible refine eag_soft (v := ?_) (fun w' hw' => ?_) ?_); rotate_left 1; (focus (obtain ⟨_, hG, hBw⟩ := hw'; obtain ⟨hc, hf⟩ := hG.facts; go_simp; (try with_reducible rfl); done)))); simp only [Act.put, Act.eval, qs])
  refine eag_nil ?_
  go_wp2
  go_loopw [3, 4, 18] (fun lo hi k wr => k = .int .i64 0 ∧ lo = .int .i64 fl ∧ hi = .int .i64 ce ∧ wr = w2) (fun _ _ _ _ => 0)
  case atStart => exact ⟨rfl, rfl, rfl, rfl⟩
  case round =>
    obtain ⟨rfl, rfl, rfl, rfl⟩ := hrel
    go_wp2_with fail
    refine (span_any _ _ _).mono ?_
    intro e w3 hp
    obtain ⟨hb3, hcase⟩ := hp.cases
    have bw3 : Below w.heap.size w w3 := below_next bw2 hb3
    have HB3 := HB2.call hb3
    rcases hcase with ⟨s, hs, rfl⟩ | ⟨c, hs, rfl⟩
    · obtain ⟨hc3, hf3⟩ := HB3.facts
      go_wp2
      refine bodyPost_ret (run_results1 rfl rfl (by (show Hd _ (w.heap.size) 23 #[.int .i64 s.lo, .int .i64 s.hi]); exact hdx) Try.underlying23 rfl (by kernel_rfl)) rfl (post_ok hs (by go_grown))
    · exact ⟨rfl, post_err hs (by go_grown)⟩

theorem part_any (n d : Int) (n0 : -1000000000 ≤ n) (n1 : n ≤ 1000000000) (d0 : 1 ≤ d) (d1 : d ≤ 1000000000) (w : World) :
    Calls Try.prog 75 #[.int .i64 n, .int .i64 d] w (Post spV (En.part n d) w) := by
  go_enter Try.func75, Try.ntmps75
  go_wp2_with fail
  have HC : Hd (w.alloc (.cells #[.int .i64 0, .int .i64 0] 23)) w.heap.size 23 #[.int .i64 0, .int .i64 0] := hdx
  have bw : Below w.heap.size w (w.alloc (.cells #[.int .i64 0, .int .i64 0] 23)) := by go_grown
  refine (over_any n 1073741824 d (by omega) (by omega) (by omega) (by omega) (by omega) (by omega) _).mono ?_
  rintro e w1 ⟨rfl, hb1⟩
  replace bw : Below w.heap.size w w1 := below_next bw hb1
  replace HC := HC.call hb1
  have lw1 : w.heap.size ≤ w1.heap.size := bw.size
  clear hb1
  go_wp2_with fail
  replace HC : Hd (w1.alloc (.cells #[.bool (En.over n 1073741824 d).neg, .int .u64 (En.over n 1073741824 d).hi, .int .u64 (En.over n 1073741824 d).lo, .int .u64 (En.over n 1073741824 d).c] 111)) w.heap.size 23 #[.int .i64 0, .int .i64 0] := hdx
  replace bw : Below w.heap.size w (w1.alloc (.cells #[.bool (En.over n 1073741824 d).neg, .int .u64 (En.over n 1073741824 d).hi, .int .u64 (En.over n 1073741824 d).lo, .int .u64 (En.over n 1073741824 d).c] 111)) := by go_grown
  have HF : Hd (w1.alloc (.cells #[.bool (En.over n 1073741824 d).neg, .int .u64 (En.over n 1073741824 d).hi, .int .u64 (En.over n 1073741824 d).lo, .int .u64 (En.over n 1073741824 d).c] 111)) w1.heap.size 111 #[.bool (En.over n 1073741824 d).neg, .int .u64 (En.over n 1073741824 d).hi, .int .u64 (En.over n 1073741824 d).lo, .int .u64 (En.over n 1073741824 d).c] := hdx
  have hwf : (En.over n 1073741824 d).wf := by apply En.over_wf <;> omega
  refine (show Calls _ _ _ _ (Post spV (En.part n d) _) from around1_any _ hwf _ _ _ HF).mono ?_
  intro e w2 hp
  obtain ⟨hb2, hcase⟩ := hp.cases
  clear hp
  replace bw : Below w.heap.size w w2 := below_next bw hb2
  replace HC := HC.call hb2
  have lw2 : w.heap.size ≤ w2.heap.size := bw.size
  clear hb2
  rcases hcase with ⟨s2, hs2, rfl⟩ | ⟨c2, hs2, rfl⟩
  rotate_left
  · exact ⟨rfl, post_err hs2 bw⟩
  obtain ⟨hcC, hfC⟩ := HC.facts
  go_wp2
  refine bodyPost_ret (run_results1 rfl rfl (by (show Hd _ (w.heap.size) 23 #[.int .i64 s2.lo, .int .i64 s2.hi]); exact hdx) Try.underlying23 rfl (by kernel_rfl)) rfl (post_ok hs2 (by go_grown))
end Go.Proofs.Ytpbbbfglecbceaa
/- Package enclose: the exported operations. -/
namespace Go.Proofs.Ytpbbbfglecbceaa
set_option linter.all false
open Go.RowKit

def outS (r : En.R En.Sp) : En.Sp × Int :=
  match r with
  | .ok z => (z, 0)
  | .error c => (⟨0, 0⟩, c)
abbrev spE (p : En.Sp × Int) : Value := .tuple #[spV p.1, .int .i64 p.2]
def powerR (x : En.Rc) : En.Sp × Int := if x.ok then outS (En.power x) else (⟨0, 0⟩, 50)
def partR (n d : Int) : En.Sp × Int := if 1 ≤ d ∧ d ≤ 1000000000 ∧ -1000000000 ≤ n ∧ n ≤ 1000000000 then outS (En.part n d) else (⟨0, 0⟩, 2)
def rootR (s : En.Sp) : En.Sp × Int := if s.ok then (if s.lo < 0 then (⟨0, 0⟩, 2) else outS (En.roots s)) else (⟨0, 0⟩, 50)

theorem addE_any (x y : En.Rc) (w : World) : Calls Try.prog 21 #[rcV x, rcV y] w fun e w' => e = .returned (rcE (twoR En.plus x y)) ∧ Below w.heap.size w w' := by
  have CT := Lib.hid (two_plus x y)
  obtain ⟨z, hz⟩ : ∃ z, twoR En.plus x y = z := ⟨_, rfl⟩
  rw [hz] at CT ⊢
  clear hz
  have HC : Hd (((w.alloc (.cells #[.int .i64 x.re.lo, .int .i64 x.re.hi, .int .i64 x.im.lo, .int .i64 x.im.hi] 25)).alloc (.cells #[.int .i64 y.re.lo, .int .i64 y.re.hi, .int .i64 y.im.lo, .int .i64 y.im.hi] 25)).alloc (.cells #[.int .i64 0, .int .i64 0, .int .i64 0, .int .i64 0] 25)) (w.heap.size + 2) 25 #[.int .i64 0, .int .i64 0, .int .i64 0, .int .i64 0] := hdx
  go_enter Try.func21, Try.ntmps21
  go_wp2_with fail
  refine (CT.out _).mono ?_
  rintro e w1 ⟨rfl, hb1⟩
  have bw1 : Below w.heap.size w w1 := below_next (by go_grown) hb1
  have HC1 := HC.call hb1
  obtain ⟨hcC, hfC⟩ := HC1.facts
  go_wp2
  refine bodyPost_ret (run_results2 rfl rfl (by (show Hd _ (w.heap.size + 2) 25 #[.int .i64 z.1.re.lo, .int .i64 z.1.re.hi, .int .i64 z.1.im.lo, .int .i64 z.1.im.hi]); exact hdx) Try.underlying25 rfl (by kernel_rfl)) rfl ⟨rfl, by go_grown⟩

theorem subE_any (x y : En.Rc) (w : World) : Calls Try.prog 23 #[rcV x, rcV y] w fun e w' => e = .returned (rcE (twoR En.minus x y)) ∧ Below w.heap.size w w' := by
  have CT := Lib.hid (two_minus x y)
  obtain ⟨z, hz⟩ : ∃ z, twoR En.minus x y = z := ⟨_, rfl⟩
  rw [hz] at CT ⊢
  clear hz
  have HC : Hd (((w.alloc (.cells #[.int .i64 x.re.lo, .int .i64 x.re.hi, .int .i64 x.im.lo, .int .i64 x.im.hi] 25)).alloc (.cells #[.int .i64 y.re.lo, .int .i64 y.re.hi, .int .i64 y.im.lo, .int .i64 y.im.hi] 25)).alloc (.cells #[.int .i64 0, .int .i64 0, .int .i64 0, .int .i64 0] 25)) (w.heap.size + 2) 25 #[.int .i64 0, .int .i64 0, .int .i64 0, .int .i64 0] := hdx
  go_enter Try.func23, Try.ntmps23
  go_wp2_with fail
  refine (CT.out _).mono ?_
  rintro e w1 ⟨rfl, hb1⟩
  have bw1 : Below w.heap.size w w1 := below_next (by go_grown) hb1
  have HC1 := HC.call hb1
  obtain ⟨hcC, hfC⟩ := HC1.facts
  go_wp2
  refine bodyPost_ret (run_results2 rfl rfl (by (show Hd _ (w.heap.size + 2) 25 #[.int .i64 z.1.re.lo, .int .i64 z.1.re.hi, .int .i64 z.1.im.lo, .int .i64 z.1.im.hi]); exact hdx) Try.underlying25 rfl (by kernel_rfl)) rfl ⟨rfl, by go_grown⟩

theorem mulE_any (x y : En.Rc) (w : World) : Calls Try.prog 45 #[rcV x, rcV y] w fun e w' => e = .returned (rcE (twoR En.times x y)) ∧ Below w.heap.size w w' := by
  have CT := Lib.hid (two_times x y)
  obtain ⟨z, hz⟩ : ∃ z, twoR En.times x y = z := ⟨_, rfl⟩
  rw [hz] at CT ⊢
  clear hz
  have HC : Hd (((w.alloc (.cells #[.int .i64 x.re.lo, .int .i64 x.re.hi, .int .i64 x.im.lo, .int .i64 x.im.hi] 25)).alloc (.cells #[.int .i64 y.re.lo, .int .i64 y.re.hi, .int .i64 y.im.lo, .int .i64 y.im.hi] 25)).alloc (.cells #[.int .i64 0, .int .i64 0, .int .i64 0, .int .i64 0] 25)) (w.heap.size + 2) 25 #[.int .i64 0, .int .i64 0, .int .i64 0, .int .i64 0] := hdx
  go_enter Try.func45, Try.ntmps45
  go_wp2_with fail
  refine (CT.out _).mono ?_
  rintro e w1 ⟨rfl, hb1⟩
  have bw1 : Below w.heap.size w w1 := below_next (by go_grown) hb1
  have HC1 := HC.call hb1
  obtain ⟨hcC, hfC⟩ := HC1.facts
  go_wp2
  refine bodyPost_ret (run_results2 rfl rfl (by (show Hd _ (w.heap.size + 2) 25 #[.int .i64 z.1.re.lo, .int .i64 z.1.re.hi, .int .i64 z.1.im.lo, .int .i64 z.1.im.hi]); exact hdx) Try.underlying25 rfl (by kernel_rfl)) rfl ⟨rfl, by go_grown⟩

theorem divE_any (x y : En.Rc) (w : World) : Calls Try.prog 47 #[rcV x, rcV y] w fun e w' => e = .returned (rcE (twoR En.quotient x y)) ∧ Below w.heap.size w w' := by
  have CT := Lib.hid (two_quotient x y)
  obtain ⟨z, hz⟩ : ∃ z, twoR En.quotient x y = z := ⟨_, rfl⟩
  rw [hz] at CT ⊢
  clear hz
  have HC : Hd (((w.alloc (.cells #[.int .i64 x.re.lo, .int .i64 x.re.hi, .int .i64 x.im.lo, .int .i64 x.im.hi] 25)).alloc (.cells #[.int .i64 y.re.lo, .int .i64 y.re.hi, .int .i64 y.im.lo, .int .i64 y.im.hi] 25)).alloc (.cells #[.int .i64 0, .int .i64 0, .int .i64 0, .int .i64 0] 25)) (w.heap.size + 2) 25 #[.int .i64 0, .int .i64 0, .int .i64 0, .int .i64 0] := hdx
  go_enter Try.func47, Try.ntmps47
  go_wp2_with fail
  refine (CT.out _).mono ?_
  rintro e w1 ⟨rfl, hb1⟩
  have bw1 : Below w.heap.size w w1 := below_next (by go_grown) hb1
  have HC1 := HC.call hb1
  obtain ⟨hcC, hfC⟩ := HC1.facts
  go_wp2
  refine bodyPost_ret (run_results2 rfl rfl (by (show Hd _ (w.heap.size + 2) 25 #[.int .i64 z.1.re.lo, .int .i64 z.1.re.hi, .int .i64 z.1.im.lo, .int .i64 z.1.im.hi]); exact hdx) Try.underlying25 rfl (by kernel_rfl)) rfl ⟨rfl, by go_grown⟩

end Go.Proofs.Ytpbbbfglecbceaa
/- Roots of valid spans have no error. -/
namespace Go.Proofs.Ytpbbbfglecbceaa.En
set_option linter.all false

theorem sq_le {a b : Int} (h0 : 0 ≤ a) (h : a ≤ b) : a * a ≤ b * b := Int.mul_le_mul h h h0 (by omega)

theorem root_le {m n : Int} (h0 : 0 ≤ m) (h : m ≤ n) (h1 : n ≤ 1099511627776) : root m ≤ root n := by
  obtain ⟨a0, a1, a2, a3⟩ := root_spec h0 (by omega)
  obtain ⟨b0, b1, b2, b3⟩ := root_spec (n := n) (by omega) h1
  by_cases hlt : root n < root m
  · have := sq_le (a := root n + 1) (b := root m) (by omega) (by omega)
    omega
  · omega

theorem root_small {n : Int} (h0 : 0 ≤ n) (h1 : n ≤ 1099511627776) : root n ≤ 34359738368 := by
  obtain ⟨b0, b1, b2, b3⟩ := root_spec h0 h1
  by_cases hlt : 34359738368 < root n
  · have := sq_le (a := 34359738369) (b := root n) (by omega) (by omega)
    omega
  · omega

theorem roots_total {s : Sp} (h0 : 0 ≤ s.lo) (hs : s.ok = true) : ∃ u, roots s = .ok u := by
  have hle := Sp.le_of_ok hs
  have hf := (Sp.fit_of_ok hs).d
  have h1 := root_le h0 hle hf
  have h2 := root_small (n := s.hi) (by omega) hf
  have h3 := (root_spec h0 (by omega)).1
  unfold roots span
  rw [if_pos]
  · exact ⟨_, rfl⟩
  · simp only [okS, Bool.and_eq_true, decide_eq_true_eq]
    split <;> omega

end Go.Proofs.Ytpbbbfglecbceaa.En
/- Package enclose: the exported operations that give spans. -/
namespace Go.Proofs.Ytpbbbfglecbceaa
set_option linter.all false
open Go.RowKit

theorem powerE_any (x : En.Rc) (w : World) : Calls Try.prog 29 #[rcV x] w fun e w' => e = .returned (spE (powerR x)) ∧ Below w.heap.size w w' := by
  have CV := validR1_any x
  cases hv : x.ok with
  | false =>
    have ht : powerR x = (⟨0, 0⟩, 50) := by unfold powerR; rw [hv]; rfl
    rw [hv] at CV
    rw [ht]
    replace CV := Lib.hid CV
    clear hv ht
    go_enter_defers Try.func29, Try.ntmps29
    go_wp2_with fail
    have HA : Hd ((((w.alloc (.cells #[.int .i64 x.re.lo, .int .i64 x.re.hi, .int .i64 x.im.lo, .int .i64 x.im.hi] 25)).alloc (.cells #[.int .i64 0, .int .i64 0] 23)).alloc (.cells #[.int .i64 0] 26)).alloc (.cells #[.int .i64 x.re.lo, .int .i64 x.re.hi, .int .i64 x.im.lo, .int .i64 x.im.hi] 25)) w.heap.size 25 #[.int .i64 x.re.lo, .int .i64 x.re.hi, .int .i64 x.im.lo, .int .i64 x.im.hi] := hdx
    have HC : Hd ((((w.alloc (.cells #[.int .i64 x.re.lo, .int .i64 x.re.hi, .int .i64 x.im.lo, .int .i64 x.im.hi] 25)).alloc (.cells #[.int .i64 0, .int .i64 0] 23)).alloc (.cells #[.int .i64 0] 26)).alloc (.cells #[.int .i64 x.re.lo, .int .i64 x.re.hi, .int .i64 x.im.lo, .int .i64 x.im.hi] 25)) (w.heap.size + 1) 23 #[.int .i64 0, .int .i64 0] := hdx
    have HE : Hd ((((w.alloc (.cells #[.int .i64 x.re.lo, .int .i64 x.re.hi, .int .i64 x.im.lo, .int .i64 x.im.hi] 25)).alloc (.cells #[.int .i64 0, .int .i64 0] 23)).alloc (.cells #[.int .i64 0] 26)).alloc (.cells #[.int .i64 x.re.lo, .int .i64 x.re.hi, .int .i64 x.im.lo, .int .i64 x.im.hi] 25)) (w.heap.size + 2) 26 #[.int .i64 0] := hdx
    have HV : Hd ((((w.alloc (.cells #[.int .i64 x.re.lo, .int .i64 x.re.hi, .int .i64 x.im.lo, .int .i64 x.im.hi] 25)).alloc (.cells #[.int .i64 0, .int .i64 0] 23)).alloc (.cells #[.int .i64 0] 26)).alloc (.cells #[.int .i64 x.re.lo, .int .i64 x.re.hi, .int .i64 x.im.lo, .int .i64 x.im.hi] 25)) (w.heap.size + 3) 25 #[.int .i64 x.re.lo, .int .i64 x.re.hi, .int .i64 x.im.lo, .int .i64 x.im.hi] := hdx
    have bw : Below w.heap.size w ((((w.alloc (.cells #[.int .i64 x.re.lo, .int .i64 x.re.hi, .int .i64 x.im.lo, .int .i64 x.im.hi] 25)).alloc (.cells #[.int .i64 0, .int .i64 0] 23)).alloc (.cells #[.int .i64 0] 26)).alloc (.cells #[.int .i64 x.re.lo, .int .i64 x.re.hi, .int .i64 x.im.lo, .int .i64 x.im.hi] 25)) := by go_grown
    refine (CV.out _ _ _ HV).mono ?_
    rintro e w1 ⟨rfl, hb1⟩
    replace bw : Below w.heap.size w w1 := below_next bw hb1
    replace HA := HA.call hb1
    replace HC := HC.call hb1
    replace HE := HE.call hb1
    replace HV := HV.call hb1
    have lw1 : w.heap.size ≤ w1.heap.size := bw.size
    clear hb1
    obtain ⟨hcA, hfA⟩ := HA.facts
    obtain ⟨hcC, hfC⟩ := HC.facts
    obtain ⟨hcE, hfE⟩ := HE.facts
    go_wp2
    exact ⟨_, run_results_ce rfl rfl (by (show Hd _ (w.heap.size + 1) 23 #[.int .i64 0, .int .i64 0]); exact hdx) Try.underlying23 rfl (by kernel_rfl) rfl (by (show Hd _ (w.heap.size + 2) 26 #[.int .i64 (50)]); exact hdx) Try.underlying26, rfl, by go_grown⟩
  | true =>
    have ht : powerR x = outS (En.power x) := by unfold powerR; rw [hv]; rfl
    rw [hv] at CV
    rw [ht]
    replace CV := Lib.hid CV
    have hop' := Lib.hid (power_any x (En.Rc.fit_of_ok hv))
    clear hv ht
    go_enter_defers Try.func29, Try.ntmps29
    go_wp2_with fail
    have HA : Hd ((((w.alloc (.cells #[.int .i64 x.re.lo, .int .i64 x.re.hi, .int .i64 x.im.lo, .int .i64 x.im.hi] 25)).alloc (.cells #[.int .i64 0, .int .i64 0] 23)).alloc (.cells #[.int .i64 0] 26)).alloc (.cells #[.int .i64 x.re.lo, .int .i64 x.re.hi, .int .i64 x.im.lo, .int .i64 x.im.hi] 25)) w.heap.size 25 #[.int .i64 x.re.lo, .int .i64 x.re.hi, .int .i64 x.im.lo, .int .i64 x.im.hi] := hdx
    have HC : Hd ((((w.alloc (.cells #[.int .i64 x.re.lo, .int .i64 x.re.hi, .int .i64 x.im.lo, .int .i64 x.im.hi] 25)).alloc (.cells #[.int .i64 0, .int .i64 0] 23)).alloc (.cells #[.int .i64 0] 26)).alloc (.cells #[.int .i64 x.re.lo, .int .i64 x.re.hi, .int .i64 x.im.lo, .int .i64 x.im.hi] 25)) (w.heap.size + 1) 23 #[.int .i64 0, .int .i64 0] := hdx
    have HE : Hd ((((w.alloc (.cells #[.int .i64 x.re.lo, .int .i64 x.re.hi, .int .i64 x.im.lo, .int .i64 x.im.hi] 25)).alloc (.cells #[.int .i64 0, .int .i64 0] 23)).alloc (.cells #[.int .i64 0] 26)).alloc (.cells #[.int .i64 x.re.lo, .int .i64 x.re.hi, .int .i64 x.im.lo, .int .i64 x.im.hi] 25)) (w.heap.size + 2) 26 #[.int .i64 0] := hdx
    have HV : Hd ((((w.alloc (.cells #[.int .i64 x.re.lo, .int .i64 x.re.hi, .int .i64 x.im.lo, .int .i64 x.im.hi] 25)).alloc (.cells #[.int .i64 0, .int .i64 0] 23)).alloc (.cells #[.int .i64 0] 26)).alloc (.cells #[.int .i64 x.re.lo, .int .i64 x.re.hi, .int .i64 x.im.lo, .int .i64 x.im.hi] 25)) (w.heap.size + 3) 25 #[.int .i64 x.re.lo, .int .i64 x.re.hi, .int .i64 x.im.lo, .int .i64 x.im.hi] := hdx
    have bw : Below w.heap.size w ((((w.alloc (.cells #[.int .i64 x.re.lo, .int .i64 x.re.hi, .int .i64 x.im.lo, .int .i64 x.im.hi] 25)).alloc (.cells #[.int .i64 0, .int .i64 0] 23)).alloc (.cells #[.int .i64 0] 26)).alloc (.cells #[.int .i64 x.re.lo, .int .i64 x.re.hi, .int .i64 x.im.lo, .int .i64 x.im.hi] 25)) := by go_grown
    refine (CV.out _ _ _ HV).mono ?_
    rintro e w1 ⟨rfl, hb1⟩
    replace bw : Below w.heap.size w w1 := below_next bw hb1
    replace HA := HA.call hb1
    replace HC := HC.call hb1
    replace HE := HE.call hb1
    replace HV := HV.call hb1
    have lw1 : w.heap.size ≤ w1.heap.size := bw.size
    clear hb1
    obtain ⟨hcA, hfA⟩ := HA.facts
    obtain ⟨hcC, hfC⟩ := HC.facts
    obtain ⟨hcE, hfE⟩ := HE.facts
    go_wp2_with fail
    refine (hop'.out _).mono ?_
    intro e w2 hp
    obtain ⟨hb2, hcase⟩ := hp.cases
    clear hp
    replace bw : Below w.heap.size w w2 := below_next bw hb2
    replace HA := HA.call hb2
    replace HC := HC.call hb2
    replace HE := HE.call hb2
    replace HV := HV.call hb2
    have lw2 : w.heap.size ≤ w2.heap.size := bw.size
    clear hb2
    rcases hcase with ⟨s, hs, rfl⟩ | ⟨c, hs, rfl⟩
    · obtain ⟨hcC, hfC⟩ := HC.facts
      obtain ⟨hcE, hfE⟩ := HE.facts
      go_wp2
      refine leaves_cons (f := 62) (args := #[.pointer (some ⟨w.heap.size + 2, 0, none⟩)]) (by simp) (by simp [go_sem]) ?_
      refine (guard_idle _ _).mono ?_
      rintro e u' w'' ⟨rfl, rfl, rfl⟩
      exact ⟨_, run_results_ce rfl rfl (by (show Hd _ (w.heap.size + 1) 23 #[.int .i64 s.lo, .int .i64 s.hi]); exact hdx) Try.underlying23 rfl (by kernel_rfl) rfl (by (show Hd _ (w.heap.size + 2) 26 #[.int .i64 (0)]); exact hdx) Try.underlying26, (by rw [hs]; rfl), by go_grown⟩
    · refine leaves_cons (f := 62) (args := #[.pointer (some ⟨w.heap.size + 2, 0, none⟩)]) (by simp) (by simp [go_sem]) ?_
      refine (guard_panicking _ _ _ _ HE).mono ?_
      rintro e u' w'' ⟨rfl, rfl, rfl⟩
      exact ⟨_, run_results_ce rfl rfl (by (show Hd _ (w.heap.size + 1) 23 #[.int .i64 0, .int .i64 0]); exact hdx) Try.underlying23 rfl (by kernel_rfl) rfl (by (show Hd _ (w.heap.size + 2) 26 #[.int .i64 (c)]); exact hdx) Try.underlying26, (by rw [hs]; rfl), by go_grown⟩
theorem partE_any (n d : Int) (w : World) : Calls Try.prog 44 #[.int .i64 n, .int .i64 d] w fun e w' => e = .returned (spE (partR n d)) ∧ Below w.heap.size w w' := by
  by_cases hv : 1 ≤ d ∧ d ≤ 1000000000 ∧ -1000000000 ≤ n ∧ n ≤ 1000000000
  · have ht : partR n d = outS (En.part n d) := if_pos hv
    rw [ht]
    clear ht
    obtain ⟨d0, d1, n0, n1⟩ := hv
    have hop' := Lib.hid (part_any n d n0 n1 d0 d1)
    go_enter_defers Try.func44, Try.ntmps44
    have HC : Hd ((w.alloc (.cells #[.int .i64 0, .int .i64 0] 23)).alloc (.cells #[.int .i64 0] 26)) w.heap.size 23 #[.int .i64 0, .int .i64 0] := hdx
    have HE : Hd ((w.alloc (.cells #[.int .i64 0, .int .i64 0] 23)).alloc (.cells #[.int .i64 0] 26)) (w.heap.size + 1) 26 #[.int .i64 0] := hdx
    have bw : Below w.heap.size w ((w.alloc (.cells #[.int .i64 0, .int .i64 0] 23)).alloc (.cells #[.int .i64 0] 26)) := by go_grown
    go_wp2_with fail
    refine (hop'.out _).mono ?_
    intro e w1 hp
    obtain ⟨hb1, hcase⟩ := hp.cases
    clear hp
    replace bw : Below w.heap.size w w1 := below_next bw hb1
    replace HC := HC.call hb1
    replace HE := HE.call hb1
    have lw1 : w.heap.size ≤ w1.heap.size := bw.size
    clear hb1
    rcases hcase with ⟨s, hs, rfl⟩ | ⟨c, hs, rfl⟩
    · obtain ⟨hcC, hfC⟩ := HC.facts
      obtain ⟨hcE, hfE⟩ := HE.facts
      go_wp2
      refine leaves_cons (f := 62) (args := #[.pointer (some ⟨w.heap.size + 1, 0, none⟩)]) (by simp) (by simp [go_sem]) ?_
      refine (guard_idle _ _).mono ?_
      rintro e u' w'' ⟨rfl, rfl, rfl⟩
      exact ⟨_, run_results_ce rfl rfl (by (show Hd _ (w.heap.size) 23 #[.int .i64 s.lo, .int .i64 s.hi]); exact hdx) Try.underlying23 rfl (by kernel_rfl) rfl (by (show Hd _ (w.heap.size + 1) 26 #[.int .i64 (0)]); exact hdx) Try.underlying26, (by rw [hs]; rfl), by go_grown⟩
    · refine leaves_cons (f := 62) (args := #[.pointer (some ⟨w.heap.size + 1, 0, none⟩)]) (by simp) (by simp [go_sem]) ?_
      refine (guard_panicking _ _ _ _ HE).mono ?_
      rintro e u' w'' ⟨rfl, rfl, rfl⟩
      exact ⟨_, run_results_ce rfl rfl (by (show Hd _ (w.heap.size) 23 #[.int .i64 0, .int .i64 0]); exact hdx) Try.underlying23 rfl (by kernel_rfl) rfl (by (show Hd _ (w.heap.size + 1) 26 #[.int .i64 (c)]); exact hdx) Try.underlying26, (by rw [hs]; rfl), by go_grown⟩
  · have ht : partR n d = (⟨0, 0⟩, 2) := if_neg hv
    rw [ht]
    clear ht
    by_cases q0 : d < 1
    · have q0h := q0
      go_enter_defers Try.func44, Try.ntmps44
      go_wp2
      exact ⟨_, run_results_ce rfl rfl (by (show Hd _ (w.heap.size) 23 #[.int .i64 0, .int .i64 0]); exact hdx) Try.underlying23 rfl (by kernel_rfl) rfl (by (show Hd _ (w.heap.size + 1) 26 #[.int .i64 (2)]); exact hdx) Try.underlying26, rfl, by go_grown⟩
    · by_cases q1 : 1000000000 < d
      · have q1h := q1
        go_enter_defers Try.func44, Try.ntmps44
        go_wp2
        exact ⟨_, run_results_ce rfl rfl (by (show Hd _ (w.heap.size) 23 #[.int .i64 0, .int .i64 0]); exact hdx) Try.underlying23 rfl (by kernel_rfl) rfl (by (show Hd _ (w.heap.size + 1) 26 #[.int .i64 (2)]); exact hdx) Try.underlying26, rfl, by go_grown⟩
      · by_cases q2 : n < -1000000000
        · have q2h := q2
          go_enter_defers Try.func44, Try.ntmps44
          go_wp2
          exact ⟨_, run_results_ce rfl rfl (by (show Hd _ (w.heap.size) 23 #[.int .i64 0, .int .i64 0]); exact hdx) Try.underlying23 rfl (by kernel_rfl) rfl (by (show Hd _ (w.heap.size + 1) 26 #[.int .i64 (2)]); exact hdx) Try.underlying26, rfl, by go_grown⟩
        · have q3 : 1000000000 < n := by omega
          go_enter_defers Try.func44, Try.ntmps44
          go_wp2
          exact ⟨_, run_results_ce rfl rfl (by (show Hd _ (w.heap.size) 23 #[.int .i64 0, .int .i64 0]); exact hdx) Try.underlying23 rfl (by kernel_rfl) rfl (by (show Hd _ (w.heap.size + 1) 26 #[.int .i64 (2)]); exact hdx) Try.underlying26, rfl, by go_grown⟩
theorem rootE_any (s : En.Sp) (w : World) : Calls Try.prog 31 #[spV s] w fun e w' => e = .returned (spE (rootR s)) ∧ Below w.heap.size w w' := by
  have CV := valid_any s.lo s.hi
  have HA : Hd ((w.alloc (.cells #[.int .i64 s.lo, .int .i64 s.hi] 23)).alloc (.cells #[.int .i64 0, .int .i64 0] 23)) w.heap.size 23 #[.int .i64 s.lo, .int .i64 s.hi] := hdx
  have HC : Hd ((w.alloc (.cells #[.int .i64 s.lo, .int .i64 s.hi] 23)).alloc (.cells #[.int .i64 0, .int .i64 0] 23)) (w.heap.size + 1) 23 #[.int .i64 0, .int .i64 0] := hdx
  cases hv : s.ok with
  | false =>
    have ht : rootR s = (⟨0, 0⟩, 50) := by unfold rootR; rw [hv]; rfl
    rw [show En.okS s.lo s.hi = false from hv] at CV
    rw [ht]
    replace CV := Lib.hid CV
    clear hv ht
    go_enter Try.func31, Try.ntmps31
    go_wp2_with fail
    refine (CV.out _).mono ?_
    rintro e w1 ⟨rfl, hb1⟩
    have bw1 : Below w.heap.size w w1 := below_next (by go_grown) hb1
    have HA1 := HA.call hb1
    have HC1 := HC.call hb1
    obtain ⟨hcA, hfA⟩ := HA1.facts
    obtain ⟨hcC, hfC⟩ := HC1.facts
    go_wp2
    refine bodyPost_ret (run_results2 rfl rfl (by (show Hd _ (w.heap.size + 1) 23 #[.int .i64 0, .int .i64 0]); exact hdx) Try.underlying23 rfl (by kernel_rfl)) rfl ⟨rfl, by go_grown⟩
  | true =>
    have ht : rootR s = if s.lo < 0 then (⟨0, 0⟩, 2) else outS (En.roots s) := by unfold rootR; rw [hv]; rfl
    rw [show En.okS s.lo s.hi = true from hv] at CV
    rw [ht]
    replace CV := Lib.hid CV
    clear ht
    by_cases hz : s.lo < 0
    · rw [if_pos hz]
      go_enter Try.func31, Try.ntmps31
      go_wp2_with fail
      refine (CV.out _).mono ?_
      rintro e w1 ⟨rfl, hb1⟩
      have bw1 : Below w.heap.size w w1 := below_next (by go_grown) hb1
      have HA1 := HA.call hb1
      have HC1 := HC.call hb1
      obtain ⟨hcA, hfA⟩ := HA1.facts
      obtain ⟨hcC, hfC⟩ := HC1.facts
      go_wp2
      refine bodyPost_ret (run_results2 rfl rfl (by (show Hd _ (w.heap.size + 1) 23 #[.int .i64 0, .int .i64 0]); exact hdx) Try.underlying23 rfl (by kernel_rfl)) rfl ⟨rfl, by go_grown⟩
    · rw [if_neg hz]
      have CR := roots_any s (by omega) hv
      obtain ⟨u, hu⟩ := En.roots_total (by omega) hv
      rw [hu] at CR ⊢
      replace CR := Lib.hid CR
      clear hv hu
      go_enter Try.func31, Try.ntmps31
      go_wp2_with fail
      refine (CV.out _).mono ?_
      rintro e w1 ⟨rfl, hb1⟩
      have bw1 : Below w.heap.size w w1 := below_next (by go_grown) hb1
      have HA1 := HA.call hb1
      have HC1 := HC.call hb1
      obtain ⟨hcA, hfA⟩ := HA1.facts
      obtain ⟨hcC, hfC⟩ := HC1.facts
      go_wp2_with fail
      refine (CR.out _).mono ?_
      intro e w2 hp
      obtain ⟨hb2, hcase⟩ := hp.cases
      clear hp
      have bw2 : Below w.heap.size w w2 := below_next bw1 hb2
      have HC2 := HC1.call hb2
      obtain ⟨hcC2, hfC2⟩ := HC2.facts
      rcases hcase with ⟨r, hs, rfl⟩ | ⟨c, hs, rfl⟩
      · cases hs
        go_wp2
        refine bodyPost_ret (run_results2 rfl rfl (by (show Hd _ (w.heap.size + 1) 23 #[.int .i64 u.lo, .int .i64 u.hi]); exact hdx) Try.underlying23 rfl (by kernel_rfl)) rfl ⟨rfl, by go_grown⟩
      · cases hs
end Go.Proofs.Ytpbbbfglecbceaa
