/- The document's squares, roots and powers. -/
import Derived.Test.YtpbbbfglecbceaaRe5
import Derived.Test.YtpbbbfglecbceaaRtPl
namespace Go.Proofs.Ytpbbbfglecbceaa
set_option linter.all false
open Go.RowKit

theorem if_max' (a b : Int) : (if a < b then b else a) = max a b := by split <;> omega
set_option maxHeartbeats 1000000 in
theorem wsquare_any (x : En.Sp) (hx : x.fit) (e0 : Int) (g : Nat) (w : World) (HG : Hd w g 83 #[.int .i64 e0]) :
    Calls Try.prog 124 #[ptr g, spV x] w (PostW (En.square x) g e0 w) := by
  have hlt := HG.lt
  have bw := But.refl g w
  obtain ⟨x1, x2, x3, x4⟩ := hx
  obtain ⟨hcG, hfG⟩ := HG.facts
  go_enter Try.func124, Try.ntmps124
  go_wp2_with fail
  replace HG : Hd (((w.alloc (.cells #[.int .i64 x.lo, .int .i64 x.hi] 23)).alloc (.cells #[.int .i64 0, .int .i64 0] 23)).drew) g 83 #[.int .i64 e0] := by (with_reducible repeat' (first | assumption | (apply hdN; (try simp only [sA, sS, sD]); done) | apply hdA | apply hdD | apply hdS | (apply hdF; case hp => first | (simp; done) | (simp; omega)) | with_unfolding_all rfl))
  have HA : Hd (((w.alloc (.cells #[.int .i64 x.lo, .int .i64 x.hi] 23)).alloc (.cells #[.int .i64 0, .int .i64 0] 23)).drew) w.heap.size 23 #[.int .i64 x.lo, .int .i64 x.hi] := by (with_reducible repeat' (first | assumption | (apply hdN; (try simp only [sA, sS, sD]); done) | apply hdA | apply hdD | apply hdS | (apply hdF; case hp => first | (simp; done) | (simp; omega)) | with_unfolding_all rfl))
  have HO : Hd (((w.alloc (.cells #[.int .i64 x.lo, .int .i64 x.hi] 23)).alloc (.cells #[.int .i64 0, .int .i64 0] 23)).drew) (w.heap.size + 1) 23 #[.int .i64 0, .int .i64 0] := by (with_reducible repeat' (first | assumption | (apply hdN; (try simp only [sA, sS, sD]); done) | apply hdA | apply hdD | apply hdS | (apply hdF; case hp => first | (simp; done) | (simp; omega)) | with_unfolding_all rfl))
  replace bw : But g w (((w.alloc (.cells #[.int .i64 x.lo, .int .i64 x.hi] 23)).alloc (.cells #[.int .i64 0, .int .i64 0] 23)).drew) := by (with_reducible repeat' (first | assumption | exact But.refl _ _ | apply But.drew | apply But.alloc | (refine But.set ?_ ?hp _; case hp => first | (simp; done) | (simp; omega))))
  (refine wp_region_eag (fun w' => Hd w' w.heap.size 23 #[.int .i64 x.lo, .int .i64 x.hi] ∧ But g w w') [(0, true), (1, true), (2, true), (3, true), (5, true), (6, true), (7, true), (8, true), (4, false), (9, false), (10, false), (11, true)] (by kernel_rfl) (by kernel_rfl) (fun c d v a w h => by cases d <;> exact h) ⟨HA, bw⟩ ?_; simp only [List.map_cons, List.map_nil, List.getD_cons_zero, List.getD_cons_succ, flMark, Nat.reduceEqDiff, ↓reduceIte])
  repeat ((first | with_reducible apply eag_move | with_reducible apply eag_assign | ((with_reducible refine eag_soft (v := ?_) (fun w' hw' => ?_) ?_); rotate_left 1; (focus (obtain ⟨hA, hBw⟩ := hw'; obtain ⟨hcA, hfA⟩ := hA.facts; go_simp; (try with_reducible rfl); done)))); simp only [Act.put, Act.eval, List.setIfInBounds_toArray, List.set_cons_zero, List.set_cons_succ, Array.getD_eq_getD_getElem?, List.getElem?_toArray, List.getElem?_cons_zero, List.getElem?_cons_succ, Option.getD_some])
  refine eag_hard ?_
  go_wp2_with fail
  refine (timesUp_any x.lo x.lo (by omega) (by omega) (by omega) (by omega) _).mono ?_
  rintro e w'' ⟨rfl, rfl⟩
  go_wp2_with fail
  (try refine ⟨⟨HA, bw⟩, ?_⟩)
  repeat ((first | with_reducible apply eag_move | with_reducible apply eag_assign | ((with_reducible refine eag_soft (v := ?_) (fun w' hw' => ?_) ?_); rotate_left 1; (focus (obtain ⟨hA, hBw⟩ := hw'; obtain ⟨hcA, hfA⟩ := hA.facts; go_simp; (try with_reducible rfl); done)))); simp only [Act.put, Act.eval, List.setIfInBounds_toArray, List.set_cons_zero, List.set_cons_succ, Array.getD_eq_getD_getElem?, List.getElem?_toArray, List.getElem?_cons_zero, List.getElem?_cons_succ, Option.getD_some])
  refine eag_hard ?_
  go_wp2_with fail
  refine (timesUp_any x.hi x.hi (by omega) (by omega) (by omega) (by omega) _).mono ?_
  rintro e w'' ⟨rfl, rfl⟩
  go_wp2_with fail
  (try refine ⟨⟨HA, bw⟩, ?_⟩)
  repeat ((first | with_reducible apply eag_move | with_reducible apply eag_assign | ((with_reducible refine eag_soft (v := ?_) (fun w' hw' => ?_) ?_); rotate_left 1; (focus (obtain ⟨hA, hBw⟩ := hw'; obtain ⟨hcA, hfA⟩ := hA.facts; go_simp; (try with_reducible rfl); done)))); simp only [Act.put, Act.eval, List.setIfInBounds_toArray, List.set_cons_zero, List.set_cons_succ, Array.getD_eq_getD_getElem?, List.getElem?_toArray, List.getElem?_cons_zero, List.getElem?_cons_succ, Option.getD_some])
  refine eag_hard ?_
  go_wp2_with fail
  (try refine ⟨⟨HA, bw⟩, ?_⟩)
  repeat ((first | with_reducible apply eag_move | with_reducible apply eag_assign | ((with_reducible refine eag_soft (v := ?_) (fun w' hw' => ?_) ?_); rotate_left 1; (focus (obtain ⟨hA, hBw⟩ := hw'; obtain ⟨hcA, hfA⟩ := hA.facts; go_simp; (try with_reducible rfl); done)))); simp only [Act.put, Act.eval, List.setIfInBounds_toArray, List.set_cons_zero, List.set_cons_succ, Array.getD_eq_getD_getElem?, List.getElem?_toArray, List.getElem?_cons_zero, List.getElem?_cons_succ, Option.getD_some])
  refine eag_nil ?_
  generalize hW : ((w.alloc (.cells #[.int .i64 x.lo, .int .i64 x.hi] 23)).alloc (.cells #[.int .i64 0, .int .i64 0] 23)).drew = w1 at HG HA HO bw ⊢
  clear hW
  have lw1 : w.heap.size ≤ w1.heap.size := bw.size
  have hsq := Lib.hid (En.square_eq (s := x) ⟨x1, x2, x3, x4⟩)
  obtain ⟨hcA, hfA⟩ := HA.facts
  obtain ⟨hcO, hfO⟩ := HO.facts
  by_cases hz : x.lo ≤ 0
  · by_cases hz2 : 0 ≤ x.hi
    · have hz' := hz
      have hz2' := hz2
      replace hz := Lib.hid hz
      replace hz2 := Lib.hid hz2
      go_wp2_with fail
      refine (wspan_any _ _ e0 g _ HG).mono ?_
      rintro e w2 ⟨z2, e2, rfl, ok2, zz2, qq2, HG2, hb2⟩
      replace bw : But g w w2 := bw.trans hb2
      replace HA := HA.but hb2 (by omega)
      replace HO := HO.but hb2 (by omega)
      replace HG := HG2
      clear HG2
      replace qq2 := Lib.hid qq2
      replace zz2 := Lib.hid zz2
      have lw2 : w.heap.size ≤ w2.heap.size := bw.size
      clear hb2
      obtain ⟨hcO, hfO⟩ := HO.facts
      go_wp2
      refine bodyPost_ret (run_results1 rfl rfl (by (show Hd _ (w.heap.size + 1) 23 #[.int .i64 z2.lo, .int .i64 z2.hi]); (with_reducible repeat' (first | assumption | (apply hdN; (try simp only [sA, sS, sD]); done) | apply hdA | apply hdD | apply hdS | (apply hdF; case hp => first | (simp; done) | (simp; omega)) | with_unfolding_all rfl))) Try.underlying23 rfl (by kernel_rfl)) rfl ⟨z2, e2, rfl, ok2, zz2.out, (by rw [hsq.out, if_pos ⟨hz.out, hz2.out⟩]; first | exact qq2.out | simpa only [if_min, if_max, if_max'] using qq2.out), by (with_reducible repeat' (first | assumption | (apply hdN; (try simp only [sA, sS, sD]); done) | apply hdA | apply hdD | apply hdS | (apply hdF; case hp => first | (simp; done) | (simp; omega)) | with_unfolding_all rfl)), by (with_reducible repeat' (first | assumption | exact But.refl _ _ | apply But.drew | apply But.alloc | (refine But.set ?_ ?hp _; case hp => first | (simp; done) | (simp; omega))))⟩
    · have hz' := hz
      have hz2' := hz2
      replace hz := Lib.hid hz
      replace hz2 := Lib.hid hz2
      go_upto_region 4 with fail
      replace HG : Hd (w1.drew) g 83 #[.int .i64 e0] := by (with_reducible repeat' (first | assumption | (apply hdN; (try simp only [sA, sS, sD]); done) | apply hdA | apply hdD | apply hdS | (apply hdF; case hp => first | (simp; done) | (simp; omega)) | with_unfolding_all rfl))
      replace HA : Hd (w1.drew) w.heap.size 23 #[.int .i64 x.lo, .int .i64 x.hi] := by (with_reducible repeat' (first | assumption | (apply hdN; (try simp only [sA, sS, sD]); done) | apply hdA | apply hdD | apply hdS | (apply hdF; case hp => first | (simp; done) | (simp; omega)) | with_unfolding_all rfl))
      replace HO : Hd (w1.drew) (w.heap.size + 1) 23 #[.int .i64 0, .int .i64 0] := by (with_reducible repeat' (first | assumption | (apply hdN; (try simp only [sA, sS, sD]); done) | apply hdA | apply hdD | apply hdS | (apply hdF; case hp => first | (simp; done) | (simp; omega)) | with_unfolding_all rfl))
      replace bw : But g w (w1.drew) := by (with_reducible repeat' (first | assumption | exact But.refl _ _ | apply But.drew | apply But.alloc | (refine But.set ?_ ?hp _; case hp => first | (simp; done) | (simp; omega))))
      (refine wp_region_eag (fun w' => Hd w' w.heap.size 23 #[.int .i64 x.lo, .int .i64 x.hi] ∧ But g w w') [(0, true), (1, true), (2, true), (3, true), (4, true), (6, true), (7, true), (8, true), (9, true), (12, true), (5, false), (10, false), (11, false), (13, false), (14, false)] (by kernel_rfl) (by kernel_rfl) (fun c d v a w h => by cases d <;> exact h) ⟨HA, bw⟩ ?_; simp only [List.map_cons, List.map_nil, List.getD_cons_zero, List.getD_cons_succ, flMark, Nat.reduceEqDiff, ↓reduceIte])
      repeat ((first | with_reducible apply eag_move | with_reducible apply eag_assign | ((with_reducible refine eag_soft (v := ?_) (fun w' hw' => ?_) ?_); rotate_left 1; (focus (obtain ⟨hA, hBw⟩ := hw'; obtain ⟨hcA, hfA⟩ := hA.facts; go_simp; (try with_reducible rfl); done)))); simp only [Act.put, Act.eval, List.setIfInBounds_toArray, List.set_cons_zero, List.set_cons_succ, Array.getD_eq_getD_getElem?, List.getElem?_toArray, List.getElem?_cons_zero, List.getElem?_cons_succ, Option.getD_some])
      refine eag_hard ?_
      go_wp2_with fail
      refine (timesDown_any x.lo x.lo (by omega) (by omega) (by omega) (by omega) _).mono ?_
      rintro e w'' ⟨rfl, rfl⟩
      go_wp2_with fail
      (try refine ⟨⟨HA, bw⟩, ?_⟩)
      repeat ((first | with_reducible apply eag_move | with_reducible apply eag_assign | ((with_reducible refine eag_soft (v := ?_) (fun w' hw' => ?_) ?_); rotate_left 1; (focus (obtain ⟨hA, hBw⟩ := hw'; obtain ⟨hcA, hfA⟩ := hA.facts; go_simp; (try with_reducible rfl); done)))); simp only [Act.put, Act.eval, List.setIfInBounds_toArray, List.set_cons_zero, List.set_cons_succ, Array.getD_eq_getD_getElem?, List.getElem?_toArray, List.getElem?_cons_zero, List.getElem?_cons_succ, Option.getD_some])
      refine eag_hard ?_
      go_wp2_with fail
      refine (timesDown_any x.hi x.hi (by omega) (by omega) (by omega) (by omega) _).mono ?_
      rintro e w'' ⟨rfl, rfl⟩
      go_wp2_with fail
      (try refine ⟨⟨HA, bw⟩, ?_⟩)
      repeat ((first | with_reducible apply eag_move | with_reducible apply eag_assign | ((with_reducible refine eag_soft (v := ?_) (fun w' hw' => ?_) ?_); rotate_left 1; (focus (obtain ⟨hA, hBw⟩ := hw'; obtain ⟨hcA, hfA⟩ := hA.facts; go_simp; (try with_reducible rfl); done)))); simp only [Act.put, Act.eval, List.setIfInBounds_toArray, List.set_cons_zero, List.set_cons_succ, Array.getD_eq_getD_getElem?, List.getElem?_toArray, List.getElem?_cons_zero, List.getElem?_cons_succ, Option.getD_some])
      refine eag_hard ?_
      go_wp2_with fail
      (try refine ⟨⟨HA, bw⟩, ?_⟩)
      repeat ((first | with_reducible apply eag_move | with_reducible apply eag_assign | ((with_reducible refine eag_soft (v := ?_) (fun w' hw' => ?_) ?_); rotate_left 1; (focus (obtain ⟨hA, hBw⟩ := hw'; obtain ⟨hcA, hfA⟩ := hA.facts; go_simp; (try with_reducible rfl); done)))); simp only [Act.put, Act.eval, List.setIfInBounds_toArray, List.set_cons_zero, List.set_cons_succ, Array.getD_eq_getD_getElem?, List.getElem?_toArray, List.getElem?_cons_zero, List.getElem?_cons_succ, Option.getD_some])
      refine eag_hard ?_
      go_wp2_with fail
      refine (wspan_any _ _ e0 g _ HG).mono ?_
      rintro e w2 ⟨z2, e2, rfl, ok2, zz2, qq2, HG2, hb2⟩
      replace bw : But g w w2 := bw.trans hb2
      replace HA := HA.but hb2 (by omega)
      replace HO := HO.but hb2 (by omega)
      replace HG := HG2
      clear HG2
      replace qq2 := Lib.hid qq2
      replace zz2 := Lib.hid zz2
      have lw2 : w.heap.size ≤ w2.heap.size := bw.size
      clear hb2
      go_wp2_with fail
      (try refine ⟨⟨HA, bw⟩, ?_⟩)
      repeat ((first | with_reducible apply eag_move | with_reducible apply eag_assign | ((with_reducible refine eag_soft (v := ?_) (fun w' hw' => ?_) ?_); rotate_left 1; (focus (obtain ⟨hA, hBw⟩ := hw'; obtain ⟨hcA, hfA⟩ := hA.facts; go_simp; (try with_reducible rfl); done)))); simp only [Act.put, Act.eval, List.setIfInBounds_toArray, List.set_cons_zero, List.set_cons_succ, Array.getD_eq_getD_getElem?, List.getElem?_toArray, List.getElem?_cons_zero, List.getElem?_cons_succ, Option.getD_some])
      obtain ⟨hcO, hfO⟩ := HO.facts
      refine eag_hard ?_
      go_wp2_with fail
      replace HG : Hd ((w2.setCell ⟨(w.heap.size + 1), 0, none⟩ (.int .i64 z2.lo)).setCell ⟨(w.heap.size + 1), 1, none⟩ (.int .i64 z2.hi)) g 83 #[.int .i64 e2] := by (with_reducible repeat' (first | assumption | (apply hdN; (try simp only [sA, sS, sD]); done) | apply hdA | apply hdD | apply hdS | (apply hdF; case hp => first | (simp; done) | (simp; omega)) | with_unfolding_all rfl))
      replace HA : Hd ((w2.setCell ⟨(w.heap.size + 1), 0, none⟩ (.int .i64 z2.lo)).setCell ⟨(w.heap.size + 1), 1, none⟩ (.int .i64 z2.hi)) w.heap.size 23 #[.int .i64 x.lo, .int .i64 x.hi] := by (with_reducible repeat' (first | assumption | (apply hdN; (try simp only [sA, sS, sD]); done) | apply hdA | apply hdD | apply hdS | (apply hdF; case hp => first | (simp; done) | (simp; omega)) | with_unfolding_all rfl))
      replace HO : Hd ((w2.setCell ⟨(w.heap.size + 1), 0, none⟩ (.int .i64 z2.lo)).setCell ⟨(w.heap.size + 1), 1, none⟩ (.int .i64 z2.hi)) (w.heap.size + 1) 23 #[.int .i64 z2.lo, .int .i64 z2.hi] := by (with_reducible repeat' (first | assumption | (apply hdN; (try simp only [sA, sS, sD]); done) | apply hdA | apply hdD | apply hdS | (apply hdF; case hp => first | (simp; done) | (simp; omega)) | with_unfolding_all rfl))
      replace bw : But g w ((w2.setCell ⟨(w.heap.size + 1), 0, none⟩ (.int .i64 z2.lo)).setCell ⟨(w.heap.size + 1), 1, none⟩ (.int .i64 z2.hi)) := by (with_reducible repeat' (first | assumption | exact But.refl _ _ | apply But.drew | apply But.alloc | (refine But.set ?_ ?hp _; case hp => first | (simp; done) | (simp; omega))))
      (try refine ⟨⟨HA, bw⟩, ?_⟩)
      refine eag_nil ?_
      go_wp2
      refine bodyPost_ret (run_results1 rfl rfl (by (show Hd _ (w.heap.size + 1) 23 #[.int .i64 z2.lo, .int .i64 z2.hi]); (with_reducible repeat' (first | assumption | (apply hdN; (try simp only [sA, sS, sD]); done) | apply hdA | apply hdD | apply hdS | (apply hdF; case hp => first | (simp; done) | (simp; omega)) | with_unfolding_all rfl))) Try.underlying23 rfl (by kernel_rfl)) rfl ⟨z2, e2, rfl, ok2, zz2.out, (by rw [hsq.out, if_neg (by have := hz2.out; omega)]; first | exact qq2.out | simpa only [if_min, if_max, if_max'] using qq2.out), by (with_reducible repeat' (first | assumption | (apply hdN; (try simp only [sA, sS, sD]); done) | apply hdA | apply hdD | apply hdS | (apply hdF; case hp => first | (simp; done) | (simp; omega)) | with_unfolding_all rfl)), by (with_reducible repeat' (first | assumption | exact But.refl _ _ | apply But.drew | apply But.alloc | (refine But.set ?_ ?hp _; case hp => first | (simp; done) | (simp; omega))))⟩
  · have hz' := hz
    replace hz := Lib.hid hz
    go_upto_region 4 with fail
    replace HG : Hd (w1.drew) g 83 #[.int .i64 e0] := by (with_reducible repeat' (first | assumption | (apply hdN; (try simp only [sA, sS, sD]); done) | apply hdA | apply hdD | apply hdS | (apply hdF; case hp => first | (simp; done) | (simp; omega)) | with_unfolding_all rfl))
    replace HA : Hd (w1.drew) w.heap.size 23 #[.int .i64 x.lo, .int .i64 x.hi] := by (with_reducible repeat' (first | assumption | (apply hdN; (try simp only [sA, sS, sD]); done) | apply hdA | apply hdD | apply hdS | (apply hdF; case hp => first | (simp; done) | (simp; omega)) | with_unfolding_all rfl))
    replace HO : Hd (w1.drew) (w.heap.size + 1) 23 #[.int .i64 0, .int .i64 0] := by (with_reducible repeat' (first | assumption | (apply hdN; (try simp only [sA, sS, sD]); done) | apply hdA | apply hdD | apply hdS | (apply hdF; case hp => first | (simp; done) | (simp; omega)) | with_unfolding_all rfl))
    replace bw : But g w (w1.drew) := by (with_reducible repeat' (first | assumption | exact But.refl _ _ | apply But.drew | apply But.alloc | (refine But.set ?_ ?hp _; case hp => first | (simp; done) | (simp; omega))))
    (refine wp_region_eag (fun w' => Hd w' w.heap.size 23 #[.int .i64 x.lo, .int .i64 x.hi] ∧ But g w w') [(0, true), (1, true), (2, true), (3, true), (4, true), (6, true), (7, true), (8, true), (9, true), (12, true), (5, false), (10, false), (11, false), (13, false), (14, false)] (by kernel_rfl) (by kernel_rfl) (fun c d v a w h => by cases d <;> exact h) ⟨HA, bw⟩ ?_; simp only [List.map_cons, List.map_nil, List.getD_cons_zero, List.getD_cons_succ, flMark, Nat.reduceEqDiff, ↓reduceIte])
    repeat ((first | with_reducible apply eag_move | with_reducible apply eag_assign | ((with_reducible refine eag_soft (v := ?_) (fun w' hw' => ?_) ?_); rotate_left 1; (focus (obtain ⟨hA, hBw⟩ := hw'; obtain ⟨hcA, hfA⟩ := hA.facts; go_simp; (try with_reducible rfl); done)))); simp only [Act.put, Act.eval, List.setIfInBounds_toArray, List.set_cons_zero, List.set_cons_succ, Array.getD_eq_getD_getElem?, List.getElem?_toArray, List.getElem?_cons_zero, List.getElem?_cons_succ, Option.getD_some])
    refine eag_hard ?_
    go_wp2_with fail
    refine (timesDown_any x.lo x.lo (by omega) (by omega) (by omega) (by omega) _).mono ?_
    rintro e w'' ⟨rfl, rfl⟩
    go_wp2_with fail
    (try refine ⟨⟨HA, bw⟩, ?_⟩)
    repeat ((first | with_reducible apply eag_move | with_reducible apply eag_assign | ((with_reducible refine eag_soft (v := ?_) (fun w' hw' => ?_) ?_); rotate_left 1; (focus (obtain ⟨hA, hBw⟩ := hw'; obtain ⟨hcA, hfA⟩ := hA.facts; go_simp; (try with_reducible rfl); done)))); simp only [Act.put, Act.eval, List.setIfInBounds_toArray, List.set_cons_zero, List.set_cons_succ, Array.getD_eq_getD_getElem?, List.getElem?_toArray, List.getElem?_cons_zero, List.getElem?_cons_succ, Option.getD_some])
    refine eag_hard ?_
    go_wp2_with fail
    refine (timesDown_any x.hi x.hi (by omega) (by omega) (by omega) (by omega) _).mono ?_
    rintro e w'' ⟨rfl, rfl⟩
    go_wp2_with fail
    (try refine ⟨⟨HA, bw⟩, ?_⟩)
    repeat ((first | with_reducible apply eag_move | with_reducible apply eag_assign | ((with_reducible refine eag_soft (v := ?_) (fun w' hw' => ?_) ?_); rotate_left 1; (focus (obtain ⟨hA, hBw⟩ := hw'; obtain ⟨hcA, hfA⟩ := hA.facts; go_simp; (try with_reducible rfl); done)))); simp only [Act.put, Act.eval, List.setIfInBounds_toArray, List.set_cons_zero, List.set_cons_succ, Array.getD_eq_getD_getElem?, List.getElem?_toArray, List.getElem?_cons_zero, List.getElem?_cons_succ, Option.getD_some])
    refine eag_hard ?_
    go_wp2_with fail
    (try refine ⟨⟨HA, bw⟩, ?_⟩)
    repeat ((first | with_reducible apply eag_move | with_reducible apply eag_assign | ((with_reducible refine eag_soft (v := ?_) (fun w' hw' => ?_) ?_); rotate_left 1; (focus (obtain ⟨hA, hBw⟩ := hw'; obtain ⟨hcA, hfA⟩ := hA.facts; go_simp; (try with_reducible rfl); done)))); simp only [Act.put, Act.eval, List.setIfInBounds_toArray, List.set_cons_zero, List.set_cons_succ, Array.getD_eq_getD_getElem?, List.getElem?_toArray, List.getElem?_cons_zero, List.getElem?_cons_succ, Option.getD_some])
    refine eag_hard ?_
    go_wp2_with fail
    refine (wspan_any _ _ e0 g _ HG).mono ?_
    rintro e w2 ⟨z2, e2, rfl, ok2, zz2, qq2, HG2, hb2⟩
    replace bw : But g w w2 := bw.trans hb2
    replace HA := HA.but hb2 (by omega)
    replace HO := HO.but hb2 (by omega)
    replace HG := HG2
    clear HG2
    replace qq2 := Lib.hid qq2
    replace zz2 := Lib.hid zz2
    have lw2 : w.heap.size ≤ w2.heap.size := bw.size
    clear hb2
    go_wp2_with fail
    (try refine ⟨⟨HA, bw⟩, ?_⟩)
    repeat ((first | with_reducible apply eag_move | with_reducible apply eag_assign | ((with_reducible refine eag_soft (v := ?_) (fun w' hw' => ?_) ?_); rotate_left 1; (focus (obtain ⟨hA, hBw⟩ := hw'; obtain ⟨hcA, hfA⟩ := hA.facts; go_simp; (try with_reducible rfl); done)))); simp only [Act.put, Act.eval, List.setIfInBounds_toArray, List.set_cons_zero, List.set_cons_succ, Array.getD_eq_getD_getElem?, List.getElem?_toArray, List.getElem?_cons_zero, List.getElem?_cons_succ, Option.getD_some])
    obtain ⟨hcO, hfO⟩ := HO.facts
    refine eag_hard ?_
    go_wp2_with fail
    replace HG : Hd ((w2.setCell ⟨(w.heap.size + 1), 0, none⟩ (.int .i64 z2.lo)).setCell ⟨(w.heap.size + 1), 1, none⟩ (.int .i64 z2.hi)) g 83 #[.int .i64 e2] := by (with_reducible repeat' (first | assumption | (apply hdN; (try simp only [sA, sS, sD]); done) | apply hdA | apply hdD | apply hdS | (apply hdF; case hp => first | (simp; done) | (simp; omega)) | with_unfolding_all rfl))
    replace HA : Hd ((w2.setCell ⟨(w.heap.size + 1), 0, none⟩ (.int .i64 z2.lo)).setCell ⟨(w.heap.size + 1), 1, none⟩ (.int .i64 z2.hi)) w.heap.size 23 #[.int .i64 x.lo, .int .i64 x.hi] := by (with_reducible repeat' (first | assumption | (apply hdN; (try simp only [sA, sS, sD]); done) | apply hdA | apply hdD | apply hdS | (apply hdF; case hp => first | (simp; done) | (simp; omega)) | with_unfolding_all rfl))
    replace HO : Hd ((w2.setCell ⟨(w.heap.size + 1), 0, none⟩ (.int .i64 z2.lo)).setCell ⟨(w.heap.size + 1), 1, none⟩ (.int .i64 z2.hi)) (w.heap.size + 1) 23 #[.int .i64 z2.lo, .int .i64 z2.hi] := by (with_reducible repeat' (first | assumption | (apply hdN; (try simp only [sA, sS, sD]); done) | apply hdA | apply hdD | apply hdS | (apply hdF; case hp => first | (simp; done) | (simp; omega)) | with_unfolding_all rfl))
    replace bw : But g w ((w2.setCell ⟨(w.heap.size + 1), 0, none⟩ (.int .i64 z2.lo)).setCell ⟨(w.heap.size + 1), 1, none⟩ (.int .i64 z2.hi)) := by (with_reducible repeat' (first | assumption | exact But.refl _ _ | apply But.drew | apply But.alloc | (refine But.set ?_ ?hp _; case hp => first | (simp; done) | (simp; omega))))
    (try refine ⟨⟨HA, bw⟩, ?_⟩)
    refine eag_nil ?_
    go_wp2
    refine bodyPost_ret (run_results1 rfl rfl (by (show Hd _ (w.heap.size + 1) 23 #[.int .i64 z2.lo, .int .i64 z2.hi]); (with_reducible repeat' (first | assumption | (apply hdN; (try simp only [sA, sS, sD]); done) | apply hdA | apply hdD | apply hdS | (apply hdF; case hp => first | (simp; done) | (simp; omega)) | with_unfolding_all rfl))) Try.underlying23 rfl (by kernel_rfl)) rfl ⟨z2, e2, rfl, ok2, zz2.out, (by rw [hsq.out, if_neg (by have := hz.out; omega)]; first | exact qq2.out | simpa only [if_min, if_max, if_max'] using qq2.out), by (with_reducible repeat' (first | assumption | (apply hdN; (try simp only [sA, sS, sD]); done) | apply hdA | apply hdD | apply hdS | (apply hdF; case hp => first | (simp; done) | (simp; omega)) | with_unfolding_all rfl)), by (with_reducible repeat' (first | assumption | exact But.refl _ _ | apply But.drew | apply But.alloc | (refine But.set ?_ ?hp _; case hp => first | (simp; done) | (simp; omega))))⟩

set_option maxHeartbeats 2000000 in
theorem wroot_any (x : En.Sp) (hx : x.fit) (hxl : 0 ≤ x.lo) (hxh : 0 ≤ x.hi) (e0 : Int) (g : Nat) (w : World) (HG : Hd w g 83 #[.int .i64 e0]) :
    Calls Try.prog 85 #[ptr g, spV x] w (PostW (En.roots x) g e0 w) := by
  have hlt := HG.lt
  have bw := But.refl g w
  obtain ⟨hcG, hfG⟩ := HG.facts
  go_enter Try.func85, Try.ntmps85
  go_wp2_with fail
  replace HG : Hd ((w.alloc (.cells #[.int .i64 x.lo, .int .i64 x.hi] 23)).alloc (.cells #[.int .i64 0, .int .i64 0] 23)) g 83 #[.int .i64 e0] := by (with_reducible repeat' (first | assumption | (apply hdN; (try simp only [sA, sS, sD]); done) | apply hdA | apply hdD | apply hdS | (apply hdF; case hp => first | (simp; done) | (simp; omega)) | with_unfolding_all rfl))
  have HA : Hd ((w.alloc (.cells #[.int .i64 x.lo, .int .i64 x.hi] 23)).alloc (.cells #[.int .i64 0, .int .i64 0] 23)) w.heap.size 23 #[.int .i64 x.lo, .int .i64 x.hi] := by (with_reducible repeat' (first | assumption | (apply hdN; (try simp only [sA, sS, sD]); done) | apply hdA | apply hdD | apply hdS | (apply hdF; case hp => first | (simp; done) | (simp; omega)) | with_unfolding_all rfl))
  have HO : Hd ((w.alloc (.cells #[.int .i64 x.lo, .int .i64 x.hi] 23)).alloc (.cells #[.int .i64 0, .int .i64 0] 23)) (w.heap.size + 1) 23 #[.int .i64 0, .int .i64 0] := by (with_reducible repeat' (first | assumption | (apply hdN; (try simp only [sA, sS, sD]); done) | apply hdA | apply hdD | apply hdS | (apply hdF; case hp => first | (simp; done) | (simp; omega)) | with_unfolding_all rfl))
  replace bw : But g w ((w.alloc (.cells #[.int .i64 x.lo, .int .i64 x.hi] 23)).alloc (.cells #[.int .i64 0, .int .i64 0] 23)) := by (with_reducible repeat' (first | assumption | exact But.refl _ _ | apply But.drew | apply But.alloc | (refine But.set ?_ ?hp _; case hp => first | (simp; done) | (simp; omega))))
  obtain ⟨N, hN⟩ : ∃ N, x.lo * 1073741824 = N := ⟨_, rfl⟩
  obtain ⟨K, hK⟩ : ∃ K, x.hi * 1073741824 - 1 = K := ⟨_, rfl⟩
  have HN := Lib.hid hN
  have HK := Lib.hid hK
  clear hN hK
  go_loopw [5, 6, 7] (fun a b c wx => ∃ (t : Nat) (lo hi : Int), a = .int .i64 lo ∧ b = .int .i64 hi ∧ c = .int .i64 (En.bitAt t) ∧ 0 ≤ lo ∧ lo + 2 * En.bitAt t ≤ 137438953472 ∧ 0 ≤ hi ∧ hi + 2 * En.bitAt t ≤ 137438953472 ∧
      RowKit.Hid (En.bis N 37 0 = En.bis N t lo) ∧ RowKit.Hid (En.bis K 37 0 = En.bis K t hi) ∧ Hd wx g 83 #[.int .i64 e0] ∧ Hd wx w.heap.size 23 #[.int .i64 x.lo, .int .i64 x.hi] ∧ Hd wx (w.heap.size + 1) 23 #[.int .i64 0, .int .i64 0] ∧ But g w wx) (fun _ _ c _ => (intOf c).toNat)
  case atStart => exact ⟨37, 0, 0, rfl, rfl, rfl, by decide, by decide, by decide, by decide, Lib.hid rfl, Lib.hid rfl, HG, HA, HO, bw⟩
  case round =>
    clear HG HA HO bw
    obtain ⟨t, lo, hi, rfl, rfl, rfl, l0, l1, k0, k1, HL, HH, HG, HA, HO, bw⟩ := hrel
    have lwr : w.heap.size ≤ wr.heap.size := bw.size
    obtain ⟨hcA, hfA⟩ := HA.facts
    cases t with
    | zero =>
      have hz : En.bitAt 0 = 0 := rfl
      rw [hz] at l1 k1
      have hlo : En.root x.lo = lo := by rw [← En.root_bis x.lo hx.b, HN.out, HL.out]; rfl
      have hhi := En.high_bis x.hi hxh hx.d
      rw [HK.out, HH.out] at hhi
      change (if En.dn hi hi < x.hi then hi + 1 else hi) = _ at hhi
      clear hz
      have hro : En.roots x = En.span lo (if En.dn hi hi < x.hi then hi + 1 else hi) := by unfold En.roots; rw [hlo, hhi]
      have HRO := Lib.hid hro
      clear hro hlo hhi
      go_upto_region 9 with fail
      replace HG : Hd (wr.drew) g 83 #[.int .i64 e0] := by (with_reducible repeat' (first | assumption | (apply hdN; (try simp only [sA, sS, sD]); done) | apply hdA | apply hdD | apply hdS | (apply hdF; case hp => first | (simp; done) | (simp; omega)) | with_unfolding_all rfl))
      replace HA : Hd (wr.drew) w.heap.size 23 #[.int .i64 x.lo, .int .i64 x.hi] := by (with_reducible repeat' (first | assumption | (apply hdN; (try simp only [sA, sS, sD]); done) | apply hdA | apply hdD | apply hdS | (apply hdF; case hp => first | (simp; done) | (simp; omega)) | with_unfolding_all rfl))
      replace HO : Hd (wr.drew) (w.heap.size + 1) 23 #[.int .i64 0, .int .i64 0] := by (with_reducible repeat' (first | assumption | (apply hdN; (try simp only [sA, sS, sD]); done) | apply hdA | apply hdD | apply hdS | (apply hdF; case hp => first | (simp; done) | (simp; omega)) | with_unfolding_all rfl))
      replace bw : But g w (wr.drew) := by (with_reducible repeat' (first | assumption | exact But.refl _ _ | apply But.drew | apply But.alloc | (refine But.set ?_ ?hp _; case hp => first | (simp; done) | (simp; omega))))
      (refine wp_region_eag (fun w' => Hd w' w.heap.size 23 #[.int .i64 x.lo, .int .i64 x.hi] ∧ But g w w') [(0, true), (1, true), (3, true), (4, true), (2, false), (5, true)] (by kernel_rfl) (by kernel_rfl) (fun c d v a w h => by cases d <;> exact h) ⟨HA, bw⟩ ?_; simp only [List.map_cons, List.map_nil, List.getD_cons_zero, List.getD_cons_succ, flMark, Nat.reduceEqDiff, ↓reduceIte])
      repeat ((first | with_reducible apply eag_move | with_reducible apply eag_assign | ((with_reducible refine eag_soft (v := ?_) (fun w' hw' => ?_) ?_); rotate_left 1; (focus (obtain ⟨hA, hBw⟩ := hw'; obtain ⟨hcA, hfA⟩ := hA.facts; go_simp; (try with_reducible rfl); done)))); simp only [Act.put, Act.eval, List.setIfInBounds_toArray, List.set_cons_zero, List.set_cons_succ, Array.getD_eq_getD_getElem?, List.getElem?_toArray, List.getElem?_cons_zero, List.getElem?_cons_succ, Option.getD_some])
      refine eag_hard ?_
      go_wp2_with fail
      refine (timesDown_any hi hi (by omega) (by omega) (by omega) (by omega) _).mono ?_
      rintro e w'' ⟨rfl, rfl⟩
      go_wp2_with fail
      (try refine ⟨⟨HA, bw⟩, ?_⟩)
      repeat ((first | with_reducible apply eag_move | with_reducible apply eag_assign | ((with_reducible refine eag_soft (v := ?_) (fun w' hw' => ?_) ?_); rotate_left 1; (focus (obtain ⟨hA, hBw⟩ := hw'; obtain ⟨hcA, hfA⟩ := hA.facts; go_simp; (try with_reducible rfl); done)))); simp only [Act.put, Act.eval, List.setIfInBounds_toArray, List.set_cons_zero, List.set_cons_succ, Array.getD_eq_getD_getElem?, List.getElem?_toArray, List.getElem?_cons_zero, List.getElem?_cons_succ, Option.getD_some])
      refine eag_nil ?_
      obtain ⟨hcO, hfO⟩ := HO.facts
      by_cases hd : En.dn hi hi < x.hi
      · have hd' := hd
        replace hd := Lib.hid hd
        go_wp2_with fail
        refine (wspan_any _ _ e0 g _ HG).mono ?_
        rintro e w41 ⟨z41, e41, rfl, ok41, zz41, qq41, HG41, hb41⟩
        replace bw : But g w w41 := bw.trans hb41
        replace HA := HA.but hb41 (by omega)
        replace HO := HO.but hb41 (by omega)
        replace HG := HG41
        clear HG41
        replace qq41 := Lib.hid qq41
        replace zz41 := Lib.hid zz41
        have lw41 : w.heap.size ≤ w41.heap.size := bw.size
        clear hb41
        obtain ⟨hcO, hfO⟩ := HO.facts
        go_wp2
        refine bodyPost_ret (run_results1 rfl rfl (by (show Hd _ (w.heap.size + 1) 23 #[.int .i64 z41.lo, .int .i64 z41.hi]); (with_reducible repeat' (first | assumption | (apply hdN; (try simp only [sA, sS, sD]); done) | apply hdA | apply hdD | apply hdS | (apply hdF; case hp => first | (simp; done) | (simp; omega)) | with_unfolding_all rfl))) Try.underlying23 rfl (by kernel_rfl)) rfl ⟨z41, e41, rfl, ok41, zz41.out, (by rw [HRO.out, if_pos hd.out]; exact qq41.out), by (with_reducible repeat' (first | assumption | (apply hdN; (try simp only [sA, sS, sD]); done) | apply hdA | apply hdD | apply hdS | (apply hdF; case hp => first | (simp; done) | (simp; omega)) | with_unfolding_all rfl)), by (with_reducible repeat' (first | assumption | exact But.refl _ _ | apply But.drew | apply But.alloc | (refine But.set ?_ ?hp _; case hp => first | (simp; done) | (simp; omega))))⟩
      · have hd' := hd
        replace hd := Lib.hid hd
        go_wp2_with fail
        refine (wspan_any _ _ e0 g _ HG).mono ?_
        rintro e w41 ⟨z41, e41, rfl, ok41, zz41, qq41, HG41, hb41⟩
        replace bw : But g w w41 := bw.trans hb41
        replace HA := HA.but hb41 (by omega)
        replace HO := HO.but hb41 (by omega)
        replace HG := HG41
        clear HG41
        replace qq41 := Lib.hid qq41
        replace zz41 := Lib.hid zz41
        have lw41 : w.heap.size ≤ w41.heap.size := bw.size
        clear hb41
        obtain ⟨hcO, hfO⟩ := HO.facts
        go_wp2
        refine bodyPost_ret (run_results1 rfl rfl (by (show Hd _ (w.heap.size + 1) 23 #[.int .i64 z41.lo, .int .i64 z41.hi]); (with_reducible repeat' (first | assumption | (apply hdN; (try simp only [sA, sS, sD]); done) | apply hdA | apply hdD | apply hdS | (apply hdF; case hp => first | (simp; done) | (simp; omega)) | with_unfolding_all rfl))) Try.underlying23 rfl (by kernel_rfl)) rfl ⟨z41, e41, rfl, ok41, zz41.out, (by rw [HRO.out, if_neg (by have := hd.out; omega)]; exact qq41.out), by (with_reducible repeat' (first | assumption | (apply hdN; (try simp only [sA, sS, sD]); done) | apply hdA | apply hdD | apply hdS | (apply hdF; case hp => first | (simp; done) | (simp; omega)) | with_unfolding_all rfl)), by (with_reducible repeat' (first | assumption | exact But.refl _ _ | apply But.drew | apply But.alloc | (refine But.set ?_ ?hp _; case hp => first | (simp; done) | (simp; omega))))⟩
    | succ k =>
      have hb0 := En.bitAt_pos k
      have hb1 := En.bitAt_half k
      have HU := Lib.hid (En.bis_up x.lo k lo)
      have HD := Lib.hid (En.bis_dn x.hi k hi)
      obtain ⟨B, hB⟩ : ∃ B, En.bitAt (k + 1) = B := ⟨_, rfl⟩
      rw [hB] at hb0 hb1 l1 k1
      replace HU := HU.out
      replace HD := HD.out
      rw [hB, HN.out] at HU
      rw [hB, HK.out] at HD
      replace HU := Lib.hid HU
      replace HD := Lib.hid HD
      rw [show (En.bitAt (k + 1)) = B from hB]
      clear hB
      have hbB : 2 * En.bitAt k ≤ B := by rw [← hb1, Int.tdiv_eq_ediv_of_nonneg (by omega)]; omega
      have hbN : 0 ≤ En.bitAt k := by rw [← hb1, Int.tdiv_eq_ediv_of_nonneg (by omega)]; omega
      have HB1 := Lib.hid hb1
      go_upto_region 5 with fail
      replace HG : Hd (wr.drew) g 83 #[.int .i64 e0] := by (with_reducible repeat' (first | assumption | (apply hdN; (try simp only [sA, sS, sD]); done) | apply hdA | apply hdD | apply hdS | (apply hdF; case hp => first | (simp; done) | (simp; omega)) | with_unfolding_all rfl))
      replace HA : Hd (wr.drew) w.heap.size 23 #[.int .i64 x.lo, .int .i64 x.hi] := by (with_reducible repeat' (first | assumption | (apply hdN; (try simp only [sA, sS, sD]); done) | apply hdA | apply hdD | apply hdS | (apply hdF; case hp => first | (simp; done) | (simp; omega)) | with_unfolding_all rfl))
      replace HO : Hd (wr.drew) (w.heap.size + 1) 23 #[.int .i64 0, .int .i64 0] := by (with_reducible repeat' (first | assumption | (apply hdN; (try simp only [sA, sS, sD]); done) | apply hdA | apply hdD | apply hdS | (apply hdF; case hp => first | (simp; done) | (simp; omega)) | with_unfolding_all rfl))
      replace bw : But g w (wr.drew) := by (with_reducible repeat' (first | assumption | exact But.refl _ _ | apply But.drew | apply But.alloc | (refine But.set ?_ ?hp _; case hp => first | (simp; done) | (simp; omega))))
      (refine wp_region_eag (fun w' => Hd w' w.heap.size 23 #[.int .i64 x.lo, .int .i64 x.hi] ∧ But g w w') [(0, true), (1, true), (2, true), (3, true), (4, true), (5, true), (7, true), (8, true), (6, false), (9, true)] (by kernel_rfl) (by kernel_rfl) (fun c d v a w h => by cases d <;> exact h) ⟨HA, bw⟩ ?_; simp only [List.map_cons, List.map_nil, List.getD_cons_zero, List.getD_cons_succ, flMark, Nat.reduceEqDiff, ↓reduceIte])
      repeat ((first | with_reducible apply eag_move | with_reducible apply eag_assign | ((with_reducible refine eag_soft (v := ?_) (fun w' hw' => ?_) ?_); rotate_left 1; (focus (obtain ⟨hA, hBw⟩ := hw'; obtain ⟨hcA, hfA⟩ := hA.facts; go_simp; (try with_reducible rfl); done)))); simp only [Act.put, Act.eval, List.setIfInBounds_toArray, List.set_cons_zero, List.set_cons_succ, Array.getD_eq_getD_getElem?, List.getElem?_toArray, List.getElem?_cons_zero, List.getElem?_cons_succ, Option.getD_some])
      refine eag_hard ?_
      go_wp2_with fail
      refine (timesUp_any (lo + B) (lo + B) (by omega) (by omega) (by omega) (by omega) _).mono ?_
      rintro e w'' ⟨rfl, rfl⟩
      go_wp2_with fail
      (try refine ⟨⟨HA, bw⟩, ?_⟩)
      repeat ((first | with_reducible apply eag_move | with_reducible apply eag_assign | ((with_reducible refine eag_soft (v := ?_) (fun w' hw' => ?_) ?_); rotate_left 1; (focus (obtain ⟨hA, hBw⟩ := hw'; obtain ⟨hcA, hfA⟩ := hA.facts; go_simp; (try with_reducible rfl); done)))); simp only [Act.put, Act.eval, List.setIfInBounds_toArray, List.set_cons_zero, List.set_cons_succ, Array.getD_eq_getD_getElem?, List.getElem?_toArray, List.getElem?_cons_zero, List.getElem?_cons_succ, Option.getD_some])
      refine eag_nil ?_
      by_cases hu : En.up (lo + B) (lo + B) ≤ x.lo
      · have hu' := hu
        replace hu := Lib.hid hu
        go_upto_region 7 with fail
        replace HG : Hd ((wr.drew).drew) g 83 #[.int .i64 e0] := by (with_reducible repeat' (first | assumption | (apply hdN; (try simp only [sA, sS, sD]); done) | apply hdA | apply hdD | apply hdS | (apply hdF; case hp => first | (simp; done) | (simp; omega)) | with_unfolding_all rfl))
        replace HA : Hd ((wr.drew).drew) w.heap.size 23 #[.int .i64 x.lo, .int .i64 x.hi] := by (with_reducible repeat' (first | assumption | (apply hdN; (try simp only [sA, sS, sD]); done) | apply hdA | apply hdD | apply hdS | (apply hdF; case hp => first | (simp; done) | (simp; omega)) | with_unfolding_all rfl))
        replace HO : Hd ((wr.drew).drew) (w.heap.size + 1) 23 #[.int .i64 0, .int .i64 0] := by (with_reducible repeat' (first | assumption | (apply hdN; (try simp only [sA, sS, sD]); done) | apply hdA | apply hdD | apply hdS | (apply hdF; case hp => first | (simp; done) | (simp; omega)) | with_unfolding_all rfl))
        replace bw : But g w ((wr.drew).drew) := by (with_reducible repeat' (first | assumption | exact But.refl _ _ | apply But.drew | apply But.alloc | (refine But.set ?_ ?hp _; case hp => first | (simp; done) | (simp; omega))))
        (refine wp_region_eag (fun w' => Hd w' w.heap.size 23 #[.int .i64 x.lo, .int .i64 x.hi] ∧ But g w w') [(0, true), (1, true), (2, true), (3, true), (4, true), (5, true), (7, true), (8, true), (6, false), (9, true)] (by kernel_rfl) (by kernel_rfl) (fun c d v a w h => by cases d <;> exact h) ⟨HA, bw⟩ ?_; simp only [List.map_cons, List.map_nil, List.getD_cons_zero, List.getD_cons_succ, flMark, Nat.reduceEqDiff, ↓reduceIte])
        repeat ((first | with_reducible apply eag_move | with_reducible apply eag_assign | ((with_reducible refine eag_soft (v := ?_) (fun w' hw' => ?_) ?_); rotate_left 1; (focus (obtain ⟨hA, hBw⟩ := hw'; obtain ⟨hcA, hfA⟩ := hA.facts; go_simp; (try with_reducible rfl); done)))); simp only [Act.put, Act.eval, List.setIfInBounds_toArray, List.set_cons_zero, List.set_cons_succ, Array.getD_eq_getD_getElem?, List.getElem?_toArray, List.getElem?_cons_zero, List.getElem?_cons_succ, Option.getD_some])
        refine eag_hard ?_
        go_wp2_with fail
        refine (timesDown_any (hi + B) (hi + B) (by omega) (by omega) (by omega) (by omega) _).mono ?_
        rintro e w'' ⟨rfl, rfl⟩
        go_wp2_with fail
        (try refine ⟨⟨HA, bw⟩, ?_⟩)
        repeat ((first | with_reducible apply eag_move | with_reducible apply eag_assign | ((with_reducible refine eag_soft (v := ?_) (fun w' hw' => ?_) ?_); rotate_left 1; (focus (obtain ⟨hA, hBw⟩ := hw'; obtain ⟨hcA, hfA⟩ := hA.facts; go_simp; (try with_reducible rfl); done)))); simp only [Act.put, Act.eval, List.setIfInBounds_toArray, List.set_cons_zero, List.set_cons_succ, Array.getD_eq_getD_getElem?, List.getElem?_toArray, List.getElem?_cons_zero, List.getElem?_cons_succ, Option.getD_some])
        refine eag_nil ?_
        by_cases hd : En.dn (hi + B) (hi + B) < x.hi
        · have hd' := hd
          replace hd := Lib.hid hd
          go_wp2_with fail
          refine ⟨⟨k, lo + B, hi + B, rfl, rfl, by rw [← HB1.out], by omega, by omega, by omega, by omega, Lib.hid (by rw [HL.out, HU.out, if_pos (by have := hu.out; omega)]), Lib.hid (by rw [HH.out, HD.out, if_pos (by have := hd.out; omega)]), HG, HA, HO, bw⟩, ?_⟩
          simp only [intOf]
          omega
        · have hd' := hd
          replace hd := Lib.hid hd
          go_wp2_with fail
          refine ⟨⟨k, lo + B, hi, rfl, rfl, by rw [← HB1.out], by omega, by omega, by omega, by omega, Lib.hid (by rw [HL.out, HU.out, if_pos (by have := hu.out; omega)]), Lib.hid (by rw [HH.out, HD.out, if_neg (by have := hd.out; omega)]), HG, HA, HO, bw⟩, ?_⟩
          simp only [intOf]
          omega
      · have hu' := hu
        replace hu := Lib.hid hu
        go_upto_region 7 with fail
        replace HG : Hd ((wr.drew).drew) g 83 #[.int .i64 e0] := by (with_reducible repeat' (first | assumption | (apply hdN; (try simp only [sA, sS, sD]); done) | apply hdA | apply hdD | apply hdS | (apply hdF; case hp => first | (simp; done) | (simp; omega)) | with_unfolding_all rfl))
        replace HA : Hd ((wr.drew).drew) w.heap.size 23 #[.int .i64 x.lo, .int .i64 x.hi] := by (with_reducible repeat' (first | assumption | (apply hdN; (try simp only [sA, sS, sD]); done) | apply hdA | apply hdD | apply hdS | (apply hdF; case hp => first | (simp; done) | (simp; omega)) | with_unfolding_all rfl))
        replace HO : Hd ((wr.drew).drew) (w.heap.size + 1) 23 #[.int .i64 0, .int .i64 0] := by (with_reducible repeat' (first | assumption | (apply hdN; (try simp only [sA, sS, sD]); done) | apply hdA | apply hdD | apply hdS | (apply hdF; case hp => first | (simp; done) | (simp; omega)) | with_unfolding_all rfl))
        replace bw : But g w ((wr.drew).drew) := by (with_reducible repeat' (first | assumption | exact But.refl _ _ | apply But.drew | apply But.alloc | (refine But.set ?_ ?hp _; case hp => first | (simp; done) | (simp; omega))))
        (refine wp_region_eag (fun w' => Hd w' w.heap.size 23 #[.int .i64 x.lo, .int .i64 x.hi] ∧ But g w w') [(0, true), (1, true), (2, true), (3, true), (4, true), (5, true), (7, true), (8, true), (6, false), (9, true)] (by kernel_rfl) (by kernel_rfl) (fun c d v a w h => by cases d <;> exact h) ⟨HA, bw⟩ ?_; simp only [List.map_cons, List.map_nil, List.getD_cons_zero, List.getD_cons_succ, flMark, Nat.reduceEqDiff, ↓reduceIte])
        repeat ((first | with_reducible apply eag_move | with_reducible apply eag_assign | ((with_reducible refine eag_soft (v := ?_) (fun w' hw' => ?_) ?_); rotate_left 1; (focus (obtain ⟨hA, hBw⟩ := hw'; obtain ⟨hcA, hfA⟩ := hA.facts; go_simp; (try with_reducible rfl); done)))); simp only [Act.put, Act.eval, List.setIfInBounds_toArray, List.set_cons_zero, List.set_cons_succ, Array.getD_eq_getD_getElem?, List.getElem?_toArray, List.getElem?_cons_zero, List.getElem?_cons_succ, Option.getD_some])
        refine eag_hard ?_
        go_wp2_with fail
        refine (timesDown_any (hi + B) (hi + B) (by omega) (by omega) (by omega) (by omega) _).mono ?_
        rintro e w'' ⟨rfl, rfl⟩
        go_wp2_with fail
        (try refine ⟨⟨HA, bw⟩, ?_⟩)
        repeat ((first | with_reducible apply eag_move | with_reducible apply eag_assign | ((with_reducible refine eag_soft (v := ?_) (fun w' hw' => ?_) ?_); rotate_left 1; (focus (obtain ⟨hA, hBw⟩ := hw'; obtain ⟨hcA, hfA⟩ := hA.facts; go_simp; (try with_reducible rfl); done)))); simp only [Act.put, Act.eval, List.setIfInBounds_toArray, List.set_cons_zero, List.set_cons_succ, Array.getD_eq_getD_getElem?, List.getElem?_toArray, List.getElem?_cons_zero, List.getElem?_cons_succ, Option.getD_some])
        refine eag_nil ?_
        by_cases hd : En.dn (hi + B) (hi + B) < x.hi
        · have hd' := hd
          replace hd := Lib.hid hd
          go_wp2_with fail
          refine ⟨⟨k, lo, hi + B, rfl, rfl, by rw [← HB1.out], by omega, by omega, by omega, by omega, Lib.hid (by rw [HL.out, HU.out, if_neg (by have := hu.out; omega)]), Lib.hid (by rw [HH.out, HD.out, if_pos (by have := hd.out; omega)]), HG, HA, HO, bw⟩, ?_⟩
          simp only [intOf]
          omega
        · have hd' := hd
          replace hd := Lib.hid hd
          go_wp2_with fail
          refine ⟨⟨k, lo, hi, rfl, rfl, by rw [← HB1.out], by omega, by omega, by omega, by omega, Lib.hid (by rw [HL.out, HU.out, if_neg (by have := hu.out; omega)]), Lib.hid (by rw [HH.out, HD.out, if_neg (by have := hd.out; omega)]), HG, HA, HO, bw⟩, ?_⟩
          simp only [intOf]
          omega

theorem wpower_any (x : En.Rc) (hx : x.ok = true) (e0 : Int) (g : Nat) (w : World) (HG : Hd w g 83 #[.int .i64 e0]) :
    Calls Try.prog 83 #[ptr g, rcV x] w (PostW (En.power x) g e0 w) := by
  have hlt := HG.lt
  have bw := But.refl g w
  obtain ⟨xr, xi⟩ := En.Rc.fit_of_ok hx
  obtain ⟨hcG, hfG⟩ := HG.facts
  go_enter Try.func83, Try.ntmps83
  go_wp2_with fail
  replace HG : Hd ((w.alloc (.cells #[.int .i64 x.re.lo, .int .i64 x.re.hi, .int .i64 x.im.lo, .int .i64 x.im.hi] 25)).alloc (.cells #[.int .i64 0, .int .i64 0] 23)) g 83 #[.int .i64 e0] := by (with_reducible repeat' (first | assumption | (apply hdN; (try simp only [sA, sS, sD]); done) | apply hdA | apply hdD | apply hdS | (apply hdF; case hp => first | (simp; done) | (simp; omega)) | with_unfolding_all rfl))
  have HA : Hd ((w.alloc (.cells #[.int .i64 x.re.lo, .int .i64 x.re.hi, .int .i64 x.im.lo, .int .i64 x.im.hi] 25)).alloc (.cells #[.int .i64 0, .int .i64 0] 23)) w.heap.size 25 #[.int .i64 x.re.lo, .int .i64 x.re.hi, .int .i64 x.im.lo, .int .i64 x.im.hi] := by (with_reducible repeat' (first | assumption | (apply hdN; (try simp only [sA, sS, sD]); done) | apply hdA | apply hdD | apply hdS | (apply hdF; case hp => first | (simp; done) | (simp; omega)) | with_unfolding_all rfl))
  have HO : Hd ((w.alloc (.cells #[.int .i64 x.re.lo, .int .i64 x.re.hi, .int .i64 x.im.lo, .int .i64 x.im.hi] 25)).alloc (.cells #[.int .i64 0, .int .i64 0] 23)) (w.heap.size + 1) 23 #[.int .i64 0, .int .i64 0] := by (with_reducible repeat' (first | assumption | (apply hdN; (try simp only [sA, sS, sD]); done) | apply hdA | apply hdD | apply hdS | (apply hdF; case hp => first | (simp; done) | (simp; omega)) | with_unfolding_all rfl))
  replace bw : But g w ((w.alloc (.cells #[.int .i64 x.re.lo, .int .i64 x.re.hi, .int .i64 x.im.lo, .int .i64 x.im.hi] 25)).alloc (.cells #[.int .i64 0, .int .i64 0] 23)) := by (with_reducible repeat' (first | assumption | exact But.refl _ _ | apply But.drew | apply But.alloc | (refine But.set ?_ ?hp _; case hp => first | (simp; done) | (simp; omega))))
  replace HG : Hd (((w.alloc (.cells #[.int .i64 x.re.lo, .int .i64 x.re.hi, .int .i64 x.im.lo, .int .i64 x.im.hi] 25)).alloc (.cells #[.int .i64 0, .int .i64 0] 23)).drew) g 83 #[.int .i64 e0] := by (with_reducible repeat' (first | assumption | (apply hdN; (try simp only [sA, sS, sD]); done) | apply hdA | apply hdD | apply hdS | (apply hdF; case hp => first | (simp; done) | (simp; omega)) | with_unfolding_all rfl))
  replace HA : Hd (((w.alloc (.cells #[.int .i64 x.re.lo, .int .i64 x.re.hi, .int .i64 x.im.lo, .int .i64 x.im.hi] 25)).alloc (.cells #[.int .i64 0, .int .i64 0] 23)).drew) w.heap.size 25 #[.int .i64 x.re.lo, .int .i64 x.re.hi, .int .i64 x.im.lo, .int .i64 x.im.hi] := by (with_reducible repeat' (first | assumption | (apply hdN; (try simp only [sA, sS, sD]); done) | apply hdA | apply hdD | apply hdS | (apply hdF; case hp => first | (simp; done) | (simp; omega)) | with_unfolding_all rfl))
  replace HO : Hd (((w.alloc (.cells #[.int .i64 x.re.lo, .int .i64 x.re.hi, .int .i64 x.im.lo, .int .i64 x.im.hi] 25)).alloc (.cells #[.int .i64 0, .int .i64 0] 23)).drew) (w.heap.size + 1) 23 #[.int .i64 0, .int .i64 0] := by (with_reducible repeat' (first | assumption | (apply hdN; (try simp only [sA, sS, sD]); done) | apply hdA | apply hdD | apply hdS | (apply hdF; case hp => first | (simp; done) | (simp; omega)) | with_unfolding_all rfl))
  replace bw : But g w (((w.alloc (.cells #[.int .i64 x.re.lo, .int .i64 x.re.hi, .int .i64 x.im.lo, .int .i64 x.im.hi] 25)).alloc (.cells #[.int .i64 0, .int .i64 0] 23)).drew) := by (with_reducible repeat' (first | assumption | exact But.refl _ _ | apply But.drew | apply But.alloc | (refine But.set ?_ ?hp _; case hp => first | (simp; done) | (simp; omega))))
  (refine wp_region_eag (fun w' => Hd w' w.heap.size 25 #[.int .i64 x.re.lo, .int .i64 x.re.hi, .int .i64 x.im.lo, .int .i64 x.im.hi] ∧ But g w w') [(0, true), (1, true), (2, true), (3, true), (5, true), (6, true), (7, true), (4, false), (8, false), (9, false), (10, false)] (by kernel_rfl) (by kernel_rfl) (fun c d v a w h => by cases d <;> exact h) ⟨HA, bw⟩ ?_; simp only [List.map_cons, List.map_nil, List.getD_cons_zero, List.getD_cons_succ, flMark, Nat.reduceEqDiff, ↓reduceIte])
  repeat ((first | with_reducible apply eag_move | with_reducible apply eag_assign | ((with_reducible refine eag_soft (v := ?_) (fun w' hw' => ?_) ?_); rotate_left 1; (focus (obtain ⟨hA, hBw⟩ := hw'; obtain ⟨hcA, hfA⟩ := hA.facts; go_simp; (try with_reducible rfl); done)))); simp only [Act.put, Act.eval, List.setIfInBounds_toArray, List.set_cons_zero, List.set_cons_succ, Array.getD_eq_getD_getElem?, List.getElem?_toArray, List.getElem?_cons_zero, List.getElem?_cons_succ, Option.getD_some])
  refine eag_hard ?_
  go_wp2_with fail
  refine (wsquare_any x.re xr e0 g _ HG).mono ?_
  rintro e w1 ⟨z1, e1, rfl, ok1, zz1, qq1, HG1, hb1⟩
  replace bw : But g w w1 := bw.trans hb1
  replace HA := HA.but hb1 (by omega)
  replace HO := HO.but hb1 (by omega)
  replace HG := HG1
  clear HG1
  replace qq1 := Lib.hid qq1
  replace zz1 := Lib.hid zz1
  have lw1 : w.heap.size ≤ w1.heap.size := bw.size
  clear hb1
  go_wp2_with fail
  (try refine ⟨⟨HA, bw⟩, ?_⟩)
  repeat ((first | with_reducible apply eag_move | with_reducible apply eag_assign | ((with_reducible refine eag_soft (v := ?_) (fun w' hw' => ?_) ?_); rotate_left 1; (focus (obtain ⟨hA, hBw⟩ := hw'; obtain ⟨hcA, hfA⟩ := hA.facts; go_simp; (try with_reducible rfl); done)))); simp only [Act.put, Act.eval, List.setIfInBounds_toArray, List.set_cons_zero, List.set_cons_succ, Array.getD_eq_getD_getElem?, List.getElem?_toArray, List.getElem?_cons_zero, List.getElem?_cons_succ, Option.getD_some])
  refine eag_hard ?_
  go_wp2_with fail
  refine (wsquare_any x.im xi e1 g _ HG).mono ?_
  rintro e w2 ⟨z2, e2, rfl, ok2, zz2, qq2, HG2, hb2⟩
  replace bw : But g w w2 := bw.trans hb2
  replace HA := HA.but hb2 (by omega)
  replace HO := HO.but hb2 (by omega)
  replace HG := HG2
  clear HG2
  replace qq2 := Lib.hid qq2
  replace zz2 := Lib.hid zz2
  have lw2 : w.heap.size ≤ w2.heap.size := bw.size
  clear hb2
  go_wp2_with fail
  (try refine ⟨⟨HA, bw⟩, ?_⟩)
  repeat ((first | with_reducible apply eag_move | with_reducible apply eag_assign | ((with_reducible refine eag_soft (v := ?_) (fun w' hw' => ?_) ?_); rotate_left 1; (focus (obtain ⟨hA, hBw⟩ := hw'; obtain ⟨hcA, hfA⟩ := hA.facts; go_simp; (try with_reducible rfl); done)))); simp only [Act.put, Act.eval, List.setIfInBounds_toArray, List.set_cons_zero, List.set_cons_succ, Array.getD_eq_getD_getElem?, List.getElem?_toArray, List.getElem?_cons_zero, List.getElem?_cons_succ, Option.getD_some])
  refine eag_hard ?_
  go_wp2_with fail
  refine (wsum_any z1 z2 (En.Sp.fit_of_ok ok1) (En.Sp.fit_of_ok ok2) e2 g _ HG).mono ?_
  rintro e w3 ⟨z3, e3, rfl, ok3, zz3, qq3, HG3, hb3⟩
  replace bw : But g w w3 := bw.trans hb3
  replace HA := HA.but hb3 (by omega)
  replace HO := HO.but hb3 (by omega)
  replace HG := HG3
  clear HG3
  replace qq3 := Lib.hid qq3
  replace zz3 := Lib.hid zz3
  have lw3 : w.heap.size ≤ w3.heap.size := bw.size
  clear hb3
  go_wp2_with fail
  (try refine ⟨⟨HA, bw⟩, ?_⟩)
  repeat ((first | with_reducible apply eag_move | with_reducible apply eag_assign | ((with_reducible refine eag_soft (v := ?_) (fun w' hw' => ?_) ?_); rotate_left 1; (focus (obtain ⟨hA, hBw⟩ := hw'; obtain ⟨hcA, hfA⟩ := hA.facts; go_simp; (try with_reducible rfl); done)))); simp only [Act.put, Act.eval, List.setIfInBounds_toArray, List.set_cons_zero, List.set_cons_succ, Array.getD_eq_getD_getElem?, List.getElem?_toArray, List.getElem?_cons_zero, List.getElem?_cons_succ, Option.getD_some])
  obtain ⟨hcO, hfO⟩ := HO.facts
  refine eag_hard ?_
  go_wp2_with fail
  replace HG : Hd ((w3.setCell ⟨(w.heap.size + 1), 0, none⟩ (.int .i64 z3.lo)).setCell ⟨(w.heap.size + 1), 1, none⟩ (.int .i64 z3.hi)) g 83 #[.int .i64 e3] := by (with_reducible repeat' (first | assumption | (apply hdN; (try simp only [sA, sS, sD]); done) | apply hdA | apply hdD | apply hdS | (apply hdF; case hp => first | (simp; done) | (simp; omega)) | with_unfolding_all rfl))
  replace HA : Hd ((w3.setCell ⟨(w.heap.size + 1), 0, none⟩ (.int .i64 z3.lo)).setCell ⟨(w.heap.size + 1), 1, none⟩ (.int .i64 z3.hi)) w.heap.size 25 #[.int .i64 x.re.lo, .int .i64 x.re.hi, .int .i64 x.im.lo, .int .i64 x.im.hi] := by (with_reducible repeat' (first | assumption | (apply hdN; (try simp only [sA, sS, sD]); done) | apply hdA | apply hdD | apply hdS | (apply hdF; case hp => first | (simp; done) | (simp; omega)) | with_unfolding_all rfl))
  replace HO : Hd ((w3.setCell ⟨(w.heap.size + 1), 0, none⟩ (.int .i64 z3.lo)).setCell ⟨(w.heap.size + 1), 1, none⟩ (.int .i64 z3.hi)) (w.heap.size + 1) 23 #[.int .i64 z3.lo, .int .i64 z3.hi] := by (with_reducible repeat' (first | assumption | (apply hdN; (try simp only [sA, sS, sD]); done) | apply hdA | apply hdD | apply hdS | (apply hdF; case hp => first | (simp; done) | (simp; omega)) | with_unfolding_all rfl))
  replace bw : But g w ((w3.setCell ⟨(w.heap.size + 1), 0, none⟩ (.int .i64 z3.lo)).setCell ⟨(w.heap.size + 1), 1, none⟩ (.int .i64 z3.hi)) := by (with_reducible repeat' (first | assumption | exact But.refl _ _ | apply But.drew | apply But.alloc | (refine But.set ?_ ?hp _; case hp => first | (simp; done) | (simp; omega))))
  (try refine ⟨⟨HA, bw⟩, ?_⟩)
  refine eag_nil ?_
  go_wp2
  refine bodyPost_ret (run_results1 rfl rfl (by (show Hd _ (w.heap.size + 1) 23 #[.int .i64 z3.lo, .int .i64 z3.hi]); (with_reducible repeat' (first | assumption | (apply hdN; (try simp only [sA, sS, sD]); done) | apply hdA | apply hdD | apply hdS | (apply hdF; case hp => first | (simp; done) | (simp; omega)) | with_unfolding_all rfl))) Try.underlying23 rfl (by kernel_rfl)) rfl ⟨z3, e3, rfl, ok3, zz3.out, qq1.out.bind (qq2.out.bind qq3.out), by (with_reducible repeat' (first | assumption | (apply hdN; (try simp only [sA, sS, sD]); done) | apply hdA | apply hdD | apply hdS | (apply hdF; case hp => first | (simp; done) | (simp; omega)) | with_unfolding_all rfl)), by (with_reducible repeat' (first | assumption | exact But.refl _ _ | apply But.drew | apply But.alloc | (refine But.set ?_ ?hp _; case hp => first | (simp; done) | (simp; omega))))⟩
end Go.Proofs.Ytpbbbfglecbceaa
