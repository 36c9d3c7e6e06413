/- The document's sums and differences of rectangles. -/
import Derived.Test.YtpbbbfglecbceaaRe4
namespace Go.Proofs.Ytpbbbfglecbceaa
set_option linter.all false
open Go.RowKit

/-- The document's operation on rectangles: its result where there is no error; the cell of the error; all other blocks are kept. -/
def PostR (r : En.R En.Rc) (g : Nat) (e0 : Int) (w : World) (e : Ending) (w' : World) : Prop :=
  ∃ z e1, e = .returned (rcV z) ∧ z.ok = true ∧ En.Stk r e0 z e1 ∧ Hd w' g 83 #[.int .i64 e1] ∧ But g w w'

theorem radd_any (x y : En.Rc) (hx : x.ok = true) (hy : y.ok = true) (e0 : Int) (g : Nat) (w : World) (HG : Hd w g 83 #[.int .i64 e0]) :
    Calls Try.prog 71 #[ptr g, rcV x, rcV y] w (PostR (En.plus x y) g e0 w) := by
  have hlt := HG.lt
  have bw := But.refl g w
  obtain ⟨xr, xi⟩ := En.Rc.fit_of_ok hx
  obtain ⟨yr, yi⟩ := En.Rc.fit_of_ok hy
  obtain ⟨hcG, hfG⟩ := HG.facts
  go_enter Try.func71, Try.ntmps71
  go_wp2_with fail
  replace HG : Hd ((((w.alloc (.cells #[.int .i64 x.re.lo, .int .i64 x.re.hi, .int .i64 x.im.lo, .int .i64 x.im.hi] 25)).alloc (.cells #[.int .i64 y.re.lo, .int .i64 y.re.hi, .int .i64 y.im.lo, .int .i64 y.im.hi] 25)).alloc (.cells #[.int .i64 0, .int .i64 0, .int .i64 0, .int .i64 0] 25)).drew) g 83 #[.int .i64 e0] := by (with_reducible repeat' (first | assumption | (apply hdN; (try simp only [sA, sS, sD]); done) | apply hdA | apply hdD | apply hdS | (apply hdF; case hp => first | (simp; done) | (simp; omega)) | with_unfolding_all rfl))
  have HA : Hd ((((w.alloc (.cells #[.int .i64 x.re.lo, .int .i64 x.re.hi, .int .i64 x.im.lo, .int .i64 x.im.hi] 25)).alloc (.cells #[.int .i64 y.re.lo, .int .i64 y.re.hi, .int .i64 y.im.lo, .int .i64 y.im.hi] 25)).alloc (.cells #[.int .i64 0, .int .i64 0, .int .i64 0, .int .i64 0] 25)).drew) w.heap.size 25 #[.int .i64 x.re.lo, .int .i64 x.re.hi, .int .i64 x.im.lo, .int .i64 x.im.hi] := by (with_reducible repeat' (first | assumption | (apply hdN; (try simp only [sA, sS, sD]); done) | apply hdA | apply hdD | apply hdS | (apply hdF; case hp => first | (simp; done) | (simp; omega)) | with_unfolding_all rfl))
  have HB : Hd ((((w.alloc (.cells #[.int .i64 x.re.lo, .int .i64 x.re.hi, .int .i64 x.im.lo, .int .i64 x.im.hi] 25)).alloc (.cells #[.int .i64 y.re.lo, .int .i64 y.re.hi, .int .i64 y.im.lo, .int .i64 y.im.hi] 25)).alloc (.cells #[.int .i64 0, .int .i64 0, .int .i64 0, .int .i64 0] 25)).drew) (w.heap.size + 1) 25 #[.int .i64 y.re.lo, .int .i64 y.re.hi, .int .i64 y.im.lo, .int .i64 y.im.hi] := by (with_reducible repeat' (first | assumption | (apply hdN; (try simp only [sA, sS, sD]); done) | apply hdA | apply hdD | apply hdS | (apply hdF; case hp => first | (simp; done) | (simp; omega)) | with_unfolding_all rfl))
  have HO : Hd ((((w.alloc (.cells #[.int .i64 x.re.lo, .int .i64 x.re.hi, .int .i64 x.im.lo, .int .i64 x.im.hi] 25)).alloc (.cells #[.int .i64 y.re.lo, .int .i64 y.re.hi, .int .i64 y.im.lo, .int .i64 y.im.hi] 25)).alloc (.cells #[.int .i64 0, .int .i64 0, .int .i64 0, .int .i64 0] 25)).drew) (w.heap.size + 2) 25 #[.int .i64 0, .int .i64 0, .int .i64 0, .int .i64 0] := by (with_reducible repeat' (first | assumption | (apply hdN; (try simp only [sA, sS, sD]); done) | apply hdA | apply hdD | apply hdS | (apply hdF; case hp => first | (simp; done) | (simp; omega)) | with_unfolding_all rfl))
  replace bw : But g w ((((w.alloc (.cells #[.int .i64 x.re.lo, .int .i64 x.re.hi, .int .i64 x.im.lo, .int .i64 x.im.hi] 25)).alloc (.cells #[.int .i64 y.re.lo, .int .i64 y.re.hi, .int .i64 y.im.lo, .int .i64 y.im.hi] 25)).alloc (.cells #[.int .i64 0, .int .i64 0, .int .i64 0, .int .i64 0] 25)).drew) := by (with_reducible repeat' (first | assumption | exact But.refl _ _ | apply But.drew | apply But.alloc | (refine But.set ?_ ?hp _; case hp => first | (simp; done) | (simp; omega))))
  (refine wp_region_eag (fun w' => Hd w' w.heap.size 25 #[.int .i64 x.re.lo, .int .i64 x.re.hi, .int .i64 x.im.lo, .int .i64 x.im.hi] ∧ Hd w' (w.heap.size + 1) 25 #[.int .i64 y.re.lo, .int .i64 y.re.hi, .int .i64 y.im.lo, .int .i64 y.im.hi] ∧ But g w w') [(0, true), (1, true), (2, true), (3, true), (4, true), (6, true), (7, true), (8, true), (9, true), (10, true), (5, false), (11, false), (12, true), (13, false)] (by kernel_rfl) (by kernel_rfl) (fun c d v a w h => by cases d <;> exact h) ⟨HA, HB, bw⟩ ?_; simp only [List.map_cons, List.map_nil, List.getD_cons_zero, List.getD_cons_succ, flMark, Nat.reduceEqDiff, ↓reduceIte])
  repeat ((first | with_reducible apply eag_move | with_reducible apply eag_assign | ((with_reducible refine eag_soft (v := ?_) (fun w' hw' => ?_) ?_); rotate_left 1; (focus (obtain ⟨hA, hB, hBw⟩ := hw'; obtain ⟨hcA, hfA⟩ := hA.facts; obtain ⟨hcB, hfB⟩ := hB.facts; go_simp; (try with_reducible rfl); done)))); simp only [Act.put, Act.eval, List.setIfInBounds_toArray, List.set_cons_zero, List.set_cons_succ, Array.getD_eq_getD_getElem?, List.getElem?_toArray, List.getElem?_cons_zero, List.getElem?_cons_succ, Option.getD_some])
  refine eag_hard ?_
  go_wp2_with fail
  refine (wsum_any x.re y.re xr yr e0 g _ HG).mono ?_
  rintro e w1 ⟨z1, e1, rfl, ok1, zz1, qq1, HG1, hb1⟩
  replace bw : But g w w1 := bw.trans hb1
  replace HA := HA.but hb1 (by omega)
  replace HB := HB.but hb1 (by omega)
  replace HO := HO.but hb1 (by omega)
  replace HG := HG1
  clear HG1
  replace qq1 := Lib.hid qq1
  replace zz1 := Lib.hid zz1
  have lw1 : w.heap.size ≤ w1.heap.size := bw.size
  clear hb1
  go_wp2_with fail
  (try refine ⟨⟨HA, HB, bw⟩, ?_⟩)
  repeat ((first | with_reducible apply eag_move | with_reducible apply eag_assign | ((with_reducible refine eag_soft (v := ?_) (fun w' hw' => ?_) ?_); rotate_left 1; (focus (obtain ⟨hA, hB, hBw⟩ := hw'; obtain ⟨hcA, hfA⟩ := hA.facts; obtain ⟨hcB, hfB⟩ := hB.facts; go_simp; (try with_reducible rfl); done)))); simp only [Act.put, Act.eval, List.setIfInBounds_toArray, List.set_cons_zero, List.set_cons_succ, Array.getD_eq_getD_getElem?, List.getElem?_toArray, List.getElem?_cons_zero, List.getElem?_cons_succ, Option.getD_some])
  refine eag_hard ?_
  go_wp2_with fail
  refine (wsum_any x.im y.im xi yi e1 g _ HG).mono ?_
  rintro e w2 ⟨z2, e2, rfl, ok2, zz2, qq2, HG2, hb2⟩
  replace bw : But g w w2 := bw.trans hb2
  replace HA := HA.but hb2 (by omega)
  replace HB := HB.but hb2 (by omega)
  replace HO := HO.but hb2 (by omega)
  replace HG := HG2
  clear HG2
  replace qq2 := Lib.hid qq2
  replace zz2 := Lib.hid zz2
  have lw2 : w.heap.size ≤ w2.heap.size := bw.size
  clear hb2
  go_wp2_with fail
  (try refine ⟨⟨HA, HB, bw⟩, ?_⟩)
  repeat ((first | with_reducible apply eag_move | with_reducible apply eag_assign | ((with_reducible refine eag_soft (v := ?_) (fun w' hw' => ?_) ?_); rotate_left 1; (focus (obtain ⟨hA, hB, hBw⟩ := hw'; obtain ⟨hcA, hfA⟩ := hA.facts; obtain ⟨hcB, hfB⟩ := hB.facts; go_simp; (try with_reducible rfl); done)))); simp only [Act.put, Act.eval, List.setIfInBounds_toArray, List.set_cons_zero, List.set_cons_succ, Array.getD_eq_getD_getElem?, List.getElem?_toArray, List.getElem?_cons_zero, List.getElem?_cons_succ, Option.getD_some])
  obtain ⟨hcO, hfO⟩ := HO.facts
  refine eag_hard ?_
  go_wp2_with fail
  replace HG : Hd ((((w2.setCell ⟨(w.heap.size + 2), 0, none⟩ (.int .i64 z1.lo)).setCell ⟨(w.heap.size + 2), 1, none⟩ (.int .i64 z1.hi)).setCell ⟨(w.heap.size + 2), 2, none⟩ (.int .i64 z2.lo)).setCell ⟨(w.heap.size + 2), 3, none⟩ (.int .i64 z2.hi)) g 83 #[.int .i64 e2] := by (with_reducible repeat' (first | assumption | (apply hdN; (try simp only [sA, sS, sD]); done) | apply hdA | apply hdD | apply hdS | (apply hdF; case hp => first | (simp; done) | (simp; omega)) | with_unfolding_all rfl))
  replace HA : Hd ((((w2.setCell ⟨(w.heap.size + 2), 0, none⟩ (.int .i64 z1.lo)).setCell ⟨(w.heap.size + 2), 1, none⟩ (.int .i64 z1.hi)).setCell ⟨(w.heap.size + 2), 2, none⟩ (.int .i64 z2.lo)).setCell ⟨(w.heap.size + 2), 3, none⟩ (.int .i64 z2.hi)) w.heap.size 25 #[.int .i64 x.re.lo, .int .i64 x.re.hi, .int .i64 x.im.lo, .int .i64 x.im.hi] := by (with_reducible repeat' (first | assumption | (apply hdN; (try simp only [sA, sS, sD]); done) | apply hdA | apply hdD | apply hdS | (apply hdF; case hp => first | (simp; done) | (simp; omega)) | with_unfolding_all rfl))
  replace HB : Hd ((((w2.setCell ⟨(w.heap.size + 2), 0, none⟩ (.int .i64 z1.lo)).setCell ⟨(w.heap.size + 2), 1, none⟩ (.int .i64 z1.hi)).setCell ⟨(w.heap.size + 2), 2, none⟩ (.int .i64 z2.lo)).setCell ⟨(w.heap.size + 2), 3, none⟩ (.int .i64 z2.hi)) (w.heap.size + 1) 25 #[.int .i64 y.re.lo, .int .i64 y.re.hi, .int .i64 y.im.lo, .int .i64 y.im.hi] := by (with_reducible repeat' (first | assumption | (apply hdN; (try simp only [sA, sS, sD]); done) | apply hdA | apply hdD | apply hdS | (apply hdF; case hp => first | (simp; done) | (simp; omega)) | with_unfolding_all rfl))
  replace HO : Hd ((((w2.setCell ⟨(w.heap.size + 2), 0, none⟩ (.int .i64 z1.lo)).setCell ⟨(w.heap.size + 2), 1, none⟩ (.int .i64 z1.hi)).setCell ⟨(w.heap.size + 2), 2, none⟩ (.int .i64 z2.lo)).setCell ⟨(w.heap.size + 2), 3, none⟩ (.int .i64 z2.hi)) (w.heap.size + 2) 25 #[.int .i64 z1.lo, .int .i64 z1.hi, .int .i64 z2.lo, .int .i64 z2.hi] := by (with_reducible repeat' (first | assumption | (apply hdN; (try simp only [sA, sS, sD]); done) | apply hdA | apply hdD | apply hdS | (apply hdF; case hp => first | (simp; done) | (simp; omega)) | with_unfolding_all rfl))
  replace bw : But g w ((((w2.setCell ⟨(w.heap.size + 2), 0, none⟩ (.int .i64 z1.lo)).setCell ⟨(w.heap.size + 2), 1, none⟩ (.int .i64 z1.hi)).setCell ⟨(w.heap.size + 2), 2, none⟩ (.int .i64 z2.lo)).setCell ⟨(w.heap.size + 2), 3, none⟩ (.int .i64 z2.hi)) := by (with_reducible repeat' (first | assumption | exact But.refl _ _ | apply But.drew | apply But.alloc | (refine But.set ?_ ?hp _; case hp => first | (simp; done) | (simp; omega))))
  (try refine ⟨⟨HA, HB, bw⟩, ?_⟩)
  refine eag_nil ?_
  go_wp2
  refine bodyPost_ret (run_results1 rfl rfl (by (show Hd _ ((w.heap.size + 2)) 25 #[.int .i64 z1.lo, .int .i64 z1.hi, .int .i64 z2.lo, .int .i64 z2.hi]); (with_reducible repeat' (first | assumption | (apply hdN; (try simp only [sA, sS, sD]); done) | apply hdA | apply hdD | apply hdS | (apply hdF; case hp => first | (simp; done) | (simp; omega)) | with_unfolding_all rfl))) Try.underlying25 rfl (by kernel_rfl)) rfl ⟨⟨z1, z2⟩, e2, rfl, En.Rc.ok_mk ok1 ok2, qq1.out.bind (qq2.out.bind (En.Stk.pure _ _)), by (with_reducible repeat' (first | assumption | (apply hdN; (try simp only [sA, sS, sD]); done) | apply hdA | apply hdD | apply hdS | (apply hdF; case hp => first | (simp; done) | (simp; omega)) | with_unfolding_all rfl)), by (with_reducible repeat' (first | assumption | exact But.refl _ _ | apply But.drew | apply But.alloc | (refine But.set ?_ ?hp _; case hp => first | (simp; done) | (simp; omega))))⟩

theorem rsub_any (x y : En.Rc) (hx : x.ok = true) (hy : y.ok = true) (e0 : Int) (g : Nat) (w : World) (HG : Hd w g 83 #[.int .i64 e0]) :
    Calls Try.prog 73 #[ptr g, rcV x, rcV y] w (PostR (En.minus x y) g e0 w) := by
  have hlt := HG.lt
  have bw := But.refl g w
  obtain ⟨xr, xi⟩ := En.Rc.fit_of_ok hx
  obtain ⟨yr, yi⟩ := En.Rc.fit_of_ok hy
  obtain ⟨hcG, hfG⟩ := HG.facts
  go_enter Try.func73, Try.ntmps73
  go_wp2_with fail
  replace HG : Hd ((((w.alloc (.cells #[.int .i64 x.re.lo, .int .i64 x.re.hi, .int .i64 x.im.lo, .int .i64 x.im.hi] 25)).alloc (.cells #[.int .i64 y.re.lo, .int .i64 y.re.hi, .int .i64 y.im.lo, .int .i64 y.im.hi] 25)).alloc (.cells #[.int .i64 0, .int .i64 0, .int .i64 0, .int .i64 0] 25)).drew) g 83 #[.int .i64 e0] := by (with_reducible repeat' (first | assumption | (apply hdN; (try simp only [sA, sS, sD]); done) | apply hdA | apply hdD | apply hdS | (apply hdF; case hp => first | (simp; done) | (simp; omega)) | with_unfolding_all rfl))
  have HA : Hd ((((w.alloc (.cells #[.int .i64 x.re.lo, .int .i64 x.re.hi, .int .i64 x.im.lo, .int .i64 x.im.hi] 25)).alloc (.cells #[.int .i64 y.re.lo, .int .i64 y.re.hi, .int .i64 y.im.lo, .int .i64 y.im.hi] 25)).alloc (.cells #[.int .i64 0, .int .i64 0, .int .i64 0, .int .i64 0] 25)).drew) w.heap.size 25 #[.int .i64 x.re.lo, .int .i64 x.re.hi, .int .i64 x.im.lo, .int .i64 x.im.hi] := by (with_reducible repeat' (first | assumption | (apply hdN; (try simp only [sA, sS, sD]); done) | apply hdA | apply hdD | apply hdS | (apply hdF; case hp => first | (simp; done) | (simp; omega)) | with_unfolding_all rfl))
  have HB : Hd ((((w.alloc (.cells #[.int .i64 x.re.lo, .int .i64 x.re.hi, .int .i64 x.im.lo, .int .i64 x.im.hi] 25)).alloc (.cells #[.int .i64 y.re.lo, .int .i64 y.re.hi, .int .i64 y.im.lo, .int .i64 y.im.hi] 25)).alloc (.cells #[.int .i64 0, .int .i64 0, .int .i64 0, .int .i64 0] 25)).drew) (w.heap.size + 1) 25 #[.int .i64 y.re.lo, .int .i64 y.re.hi, .int .i64 y.im.lo, .int .i64 y.im.hi] := by (with_reducible repeat' (first | assumption | (apply hdN; (try simp only [sA, sS, sD]); done) | apply hdA | apply hdD | apply hdS | (apply hdF; case hp => first | (simp; done) | (simp; omega)) | with_unfolding_all rfl))
  have HO : Hd ((((w.alloc (.cells #[.int .i64 x.re.lo, .int .i64 x.re.hi, .int .i64 x.im.lo, .int .i64 x.im.hi] 25)).alloc (.cells #[.int .i64 y.re.lo, .int .i64 y.re.hi, .int .i64 y.im.lo, .int .i64 y.im.hi] 25)).alloc (.cells #[.int .i64 0, .int .i64 0, .int .i64 0, .int .i64 0] 25)).drew) (w.heap.size + 2) 25 #[.int .i64 0, .int .i64 0, .int .i64 0, .int .i64 0] := by (with_reducible repeat' (first | assumption | (apply hdN; (try simp only [sA, sS, sD]); done) | apply hdA | apply hdD | apply hdS | (apply hdF; case hp => first | (simp; done) | (simp; omega)) | with_unfolding_all rfl))
  replace bw : But g w ((((w.alloc (.cells #[.int .i64 x.re.lo, .int .i64 x.re.hi, .int .i64 x.im.lo, .int .i64 x.im.hi] 25)).alloc (.cells #[.int .i64 y.re.lo, .int .i64 y.re.hi, .int .i64 y.im.lo, .int .i64 y.im.hi] 25)).alloc (.cells #[.int .i64 0, .int .i64 0, .int .i64 0, .int .i64 0] 25)).drew) := by (with_reducible repeat' (first | assumption | exact But.refl _ _ | apply But.drew | apply But.alloc | (refine But.set ?_ ?hp _; case hp => first | (simp; done) | (simp; omega))))
  (refine wp_region_eag (fun w' => Hd w' w.heap.size 25 #[.int .i64 x.re.lo, .int .i64 x.re.hi, .int .i64 x.im.lo, .int .i64 x.im.hi] ∧ Hd w' (w.heap.size + 1) 25 #[.int .i64 y.re.lo, .int .i64 y.re.hi, .int .i64 y.im.lo, .int .i64 y.im.hi] ∧ But g w w') [(0, true), (1, true), (2, true), (3, true), (4, true), (6, true), (7, true), (8, true), (9, true), (10, true), (5, false), (11, false), (12, true), (13, false)] (by kernel_rfl) (by kernel_rfl) (fun c d v a w h => by cases d <;> exact h) ⟨HA, HB, bw⟩ ?_; simp only [List.map_cons, List.map_nil, List.getD_cons_zero, List.getD_cons_succ, flMark, Nat.reduceEqDiff, ↓reduceIte])
  repeat ((first | with_reducible apply eag_move | with_reducible apply eag_assign | ((with_reducible refine eag_soft (v := ?_) (fun w' hw' => ?_) ?_); rotate_left 1; (focus (obtain ⟨hA, hB, hBw⟩ := hw'; obtain ⟨hcA, hfA⟩ := hA.facts; obtain ⟨hcB, hfB⟩ := hB.facts; go_simp; (try with_reducible rfl); done)))); simp only [Act.put, Act.eval, List.setIfInBounds_toArray, List.set_cons_zero, List.set_cons_succ, Array.getD_eq_getD_getElem?, List.getElem?_toArray, List.getElem?_cons_zero, List.getElem?_cons_succ, Option.getD_some])
  refine eag_hard ?_
  go_wp2_with fail
  refine (wless_any x.re y.re xr yr e0 g _ HG).mono ?_
  rintro e w1 ⟨z1, e1, rfl, ok1, zz1, qq1, HG1, hb1⟩
  replace bw : But g w w1 := bw.trans hb1
  replace HA := HA.but hb1 (by omega)
  replace HB := HB.but hb1 (by omega)
  replace HO := HO.but hb1 (by omega)
  replace HG := HG1
  clear HG1
  replace qq1 := Lib.hid qq1
  replace zz1 := Lib.hid zz1
  have lw1 : w.heap.size ≤ w1.heap.size := bw.size
  clear hb1
  go_wp2_with fail
  (try refine ⟨⟨HA, HB, bw⟩, ?_⟩)
  repeat ((first | with_reducible apply eag_move | with_reducible apply eag_assign | ((with_reducible refine eag_soft (v := ?_) (fun w' hw' => ?_) ?_); rotate_left 1; (focus (obtain ⟨hA, hB, hBw⟩ := hw'; obtain ⟨hcA, hfA⟩ := hA.facts; obtain ⟨hcB, hfB⟩ := hB.facts; go_simp; (try with_reducible rfl); done)))); simp only [Act.put, Act.eval, List.setIfInBounds_toArray, List.set_cons_zero, List.set_cons_succ, Array.getD_eq_getD_getElem?, List.getElem?_toArray, List.getElem?_cons_zero, List.getElem?_cons_succ, Option.getD_some])
  refine eag_hard ?_
  go_wp2_with fail
  refine (wless_any x.im y.im xi yi e1 g _ HG).mono ?_
  rintro e w2 ⟨z2, e2, rfl, ok2, zz2, qq2, HG2, hb2⟩
  replace bw : But g w w2 := bw.trans hb2
  replace HA := HA.but hb2 (by omega)
  replace HB := HB.but hb2 (by omega)
  replace HO := HO.but hb2 (by omega)
  replace HG := HG2
  clear HG2
  replace qq2 := Lib.hid qq2
  replace zz2 := Lib.hid zz2
  have lw2 : w.heap.size ≤ w2.heap.size := bw.size
  clear hb2
  go_wp2_with fail
  (try refine ⟨⟨HA, HB, bw⟩, ?_⟩)
  repeat ((first | with_reducible apply eag_move | with_reducible apply eag_assign | ((with_reducible refine eag_soft (v := ?_) (fun w' hw' => ?_) ?_); rotate_left 1; (focus (obtain ⟨hA, hB, hBw⟩ := hw'; obtain ⟨hcA, hfA⟩ := hA.facts; obtain ⟨hcB, hfB⟩ := hB.facts; go_simp; (try with_reducible rfl); done)))); simp only [Act.put, Act.eval, List.setIfInBounds_toArray, List.set_cons_zero, List.set_cons_succ, Array.getD_eq_getD_getElem?, List.getElem?_toArray, List.getElem?_cons_zero, List.getElem?_cons_succ, Option.getD_some])
  obtain ⟨hcO, hfO⟩ := HO.facts
  refine eag_hard ?_
  go_wp2_with fail
  replace HG : Hd ((((w2.setCell ⟨(w.heap.size + 2), 0, none⟩ (.int .i64 z1.lo)).setCell ⟨(w.heap.size + 2), 1, none⟩ (.int .i64 z1.hi)).setCell ⟨(w.heap.size + 2), 2, none⟩ (.int .i64 z2.lo)).setCell ⟨(w.heap.size + 2), 3, none⟩ (.int .i64 z2.hi)) g 83 #[.int .i64 e2] := by (with_reducible repeat' (first | assumption | (apply hdN; (try simp only [sA, sS, sD]); done) | apply hdA | apply hdD | apply hdS | (apply hdF; case hp => first | (simp; done) | (simp; omega)) | with_unfolding_all rfl))
  replace HA : Hd ((((w2.setCell ⟨(w.heap.size + 2), 0, none⟩ (.int .i64 z1.lo)).setCell ⟨(w.heap.size + 2), 1, none⟩ (.int .i64 z1.hi)).setCell ⟨(w.heap.size + 2), 2, none⟩ (.int .i64 z2.lo)).setCell ⟨(w.heap.size + 2), 3, none⟩ (.int .i64 z2.hi)) w.heap.size 25 #[.int .i64 x.re.lo, .int .i64 x.re.hi, .int .i64 x.im.lo, .int .i64 x.im.hi] := by (with_reducible repeat' (first | assumption | (apply hdN; (try simp only [sA, sS, sD]); done) | apply hdA | apply hdD | apply hdS | (apply hdF; case hp => first | (simp; done) | (simp; omega)) | with_unfolding_all rfl))
  replace HB : Hd ((((w2.setCell ⟨(w.heap.size + 2), 0, none⟩ (.int .i64 z1.lo)).setCell ⟨(w.heap.size + 2), 1, none⟩ (.int .i64 z1.hi)).setCell ⟨(w.heap.size + 2), 2, none⟩ (.int .i64 z2.lo)).setCell ⟨(w.heap.size + 2), 3, none⟩ (.int .i64 z2.hi)) (w.heap.size + 1) 25 #[.int .i64 y.re.lo, .int .i64 y.re.hi, .int .i64 y.im.lo, .int .i64 y.im.hi] := by (with_reducible repeat' (first | assumption | (apply hdN; (try simp only [sA, sS, sD]); done) | apply hdA | apply hdD | apply hdS | (apply hdF; case hp => first | (simp; done) | (simp; omega)) | with_unfolding_all rfl))
  replace HO : Hd ((((w2.setCell ⟨(w.heap.size + 2), 0, none⟩ (.int .i64 z1.lo)).setCell ⟨(w.heap.size + 2), 1, none⟩ (.int .i64 z1.hi)).setCell ⟨(w.heap.size + 2), 2, none⟩ (.int .i64 z2.lo)).setCell ⟨(w.heap.size + 2), 3, none⟩ (.int .i64 z2.hi)) (w.heap.size + 2) 25 #[.int .i64 z1.lo, .int .i64 z1.hi, .int .i64 z2.lo, .int .i64 z2.hi] := by (with_reducible repeat' (first | assumption | (apply hdN; (try simp only [sA, sS, sD]); done) | apply hdA | apply hdD | apply hdS | (apply hdF; case hp => first | (simp; done) | (simp; omega)) | with_unfolding_all rfl))
  replace bw : But g w ((((w2.setCell ⟨(w.heap.size + 2), 0, none⟩ (.int .i64 z1.lo)).setCell ⟨(w.heap.size + 2), 1, none⟩ (.int .i64 z1.hi)).setCell ⟨(w.heap.size + 2), 2, none⟩ (.int .i64 z2.lo)).setCell ⟨(w.heap.size + 2), 3, none⟩ (.int .i64 z2.hi)) := by (with_reducible repeat' (first | assumption | exact But.refl _ _ | apply But.drew | apply But.alloc | (refine But.set ?_ ?hp _; case hp => first | (simp; done) | (simp; omega))))
  (try refine ⟨⟨HA, HB, bw⟩, ?_⟩)
  refine eag_nil ?_
  go_wp2
  refine bodyPost_ret (run_results1 rfl rfl (by (show Hd _ ((w.heap.size + 2)) 25 #[.int .i64 z1.lo, .int .i64 z1.hi, .int .i64 z2.lo, .int .i64 z2.hi]); (with_reducible repeat' (first | assumption | (apply hdN; (try simp only [sA, sS, sD]); done) | apply hdA | apply hdD | apply hdS | (apply hdF; case hp => first | (simp; done) | (simp; omega)) | with_unfolding_all rfl))) Try.underlying25 rfl (by kernel_rfl)) rfl ⟨⟨z1, z2⟩, e2, rfl, En.Rc.ok_mk ok1 ok2, qq1.out.bind (qq2.out.bind (En.Stk.pure _ _)), by (with_reducible repeat' (first | assumption | (apply hdN; (try simp only [sA, sS, sD]); done) | apply hdA | apply hdD | apply hdS | (apply hdF; case hp => first | (simp; done) | (simp; omega)) | with_unfolding_all rfl)), by (with_reducible repeat' (first | assumption | exact But.refl _ _ | apply But.drew | apply But.alloc | (refine But.set ?_ ?hp _; case hp => first | (simp; done) | (simp; omega))))⟩

theorem rboth_any (x y : En.Rc) (w : World) : Calls Try.prog 70 #[rcV x, rcV y] w fun e w' => e = .returned (.bool (x.ok && y.ok)) ∧ Below w.heap.size w w' := by
  have CX := rvalidRect_any x
  have CY := rvalidRect_any y
  obtain ⟨ox, hox⟩ : ∃ o, x.ok = o := ⟨_, rfl⟩
  obtain ⟨oy, hoy⟩ : ∃ o, y.ok = o := ⟨_, rfl⟩
  rw [hox] at CX
  rw [hoy] at CY
  rw [hox, hoy]
  clear hox hoy
  replace CX := Lib.hid CX
  replace CY := Lib.hid CY
  go_enter Try.func70, Try.ntmps70
  go_wp2_with fail
  have HA : Hd ((w.alloc (.cells #[.int .i64 x.re.lo, .int .i64 x.re.hi, .int .i64 x.im.lo, .int .i64 x.im.hi] 25)).alloc (.cells #[.int .i64 y.re.lo, .int .i64 y.re.hi, .int .i64 y.im.lo, .int .i64 y.im.hi] 25)) w.heap.size 25 #[.int .i64 x.re.lo, .int .i64 x.re.hi, .int .i64 x.im.lo, .int .i64 x.im.hi] := by (with_reducible repeat' (first | assumption | (apply hdN; (try simp only [sA, sS, sD]); done) | apply hdA | apply hdD | apply hdS | (apply hdF; case hp => first | (simp; done) | (simp; omega)) | with_unfolding_all rfl))
  have HB : Hd ((w.alloc (.cells #[.int .i64 x.re.lo, .int .i64 x.re.hi, .int .i64 x.im.lo, .int .i64 x.im.hi] 25)).alloc (.cells #[.int .i64 y.re.lo, .int .i64 y.re.hi, .int .i64 y.im.lo, .int .i64 y.im.hi] 25)) (w.heap.size + 1) 25 #[.int .i64 y.re.lo, .int .i64 y.re.hi, .int .i64 y.im.lo, .int .i64 y.im.hi] := by (with_reducible repeat' (first | assumption | (apply hdN; (try simp only [sA, sS, sD]); done) | apply hdA | apply hdD | apply hdS | (apply hdF; case hp => first | (simp; done) | (simp; omega)) | with_unfolding_all rfl))
  have bw : Below w.heap.size w ((w.alloc (.cells #[.int .i64 x.re.lo, .int .i64 x.re.hi, .int .i64 x.im.lo, .int .i64 x.im.hi] 25)).alloc (.cells #[.int .i64 y.re.lo, .int .i64 y.re.hi, .int .i64 y.im.lo, .int .i64 y.im.hi] 25)) := by go_grown
  refine (CX.out _).mono ?_
  rintro e w1 ⟨rfl, hb1⟩
  replace bw : Below w.heap.size w w1 := below_next bw hb1
  replace HA := HA.call hb1
  replace HB := HB.call hb1
  have lw1 : w.heap.size ≤ w1.heap.size := bw.size
  clear hb1
  obtain ⟨hcA, hfA⟩ := HA.facts
  obtain ⟨hcB, hfB⟩ := HB.facts
  cases ox
  · go_wp2_with fail
    go_ret
    exact ⟨rfl, by go_grown⟩
  · go_wp2_with fail
    refine (CY.out _).mono ?_
    rintro e w2 ⟨rfl, hb2⟩
    replace bw : Below w.heap.size w w2 := below_next bw hb2
    replace HA := HA.call hb2
    replace HB := HB.call hb2
    have lw2 : w.heap.size ≤ w2.heap.size := bw.size
    clear hb2
    obtain ⟨hcA, hfA⟩ := HA.facts
    obtain ⟨hcB, hfB⟩ := HB.facts
    cases oy
    all_goals
      go_wp2_with fail
      go_ret
      exact ⟨rfl, by go_grown⟩

set_option maxHeartbeats 2000000 in
theorem rdone_any (x : En.Rc) (e0 : Int) (g : Nat) (w : World) (HG : Hd w g 83 #[.int .i64 e0]) :
    Calls Try.prog 67 #[ptr g, rcV x] w fun e w' => e = .returned (rcE (if e0 = 0 then (x, 0) else (⟨⟨0, 0⟩, ⟨0, 0⟩⟩, e0))) ∧ Below w.heap.size w w' := by
  have hlt := HG.lt
  by_cases h0 : e0 = 0
  · rw [if_pos h0]
    subst h0
    obtain ⟨hcG, hfG⟩ := HG.facts
    go_enter Try.func67, Try.ntmps67
    go_wp2
    refine bodyPost_ret (run_results2 rfl rfl (by (show Hd _ (w.heap.size + 1) 25 #[.int .i64 x.re.lo, .int .i64 x.re.hi, .int .i64 x.im.lo, .int .i64 x.im.hi]); (with_reducible repeat' (first | assumption | (apply hdN; (try simp only [sA, sS, sD]); done) | apply hdA | apply hdD | apply hdS | (apply hdF; case hp => first | (simp; done) | (simp; omega)) | with_unfolding_all rfl))) Try.underlying25 rfl (by kernel_rfl)) rfl ⟨rfl, by go_grown⟩
  · rw [if_neg h0]
    obtain ⟨hcG, hfG⟩ := HG.facts
    go_enter Try.func67, Try.ntmps67
    go_upto_region 2 with fail
    replace HG : Hd (((w.alloc (.cells #[.int .i64 x.re.lo, .int .i64 x.re.hi, .int .i64 x.im.lo, .int .i64 x.im.hi] 25)).alloc (.cells #[.int .i64 0, .int .i64 0, .int .i64 0, .int .i64 0] 25)).drew) g 83 #[.int .i64 e0] := by (with_reducible repeat' (first | assumption | (apply hdN; (try simp only [sA, sS, sD]); done) | apply hdA | apply hdD | apply hdS | (apply hdF; case hp => first | (simp; done) | (simp; omega)) | with_unfolding_all rfl))
    have HA : Hd (((w.alloc (.cells #[.int .i64 x.re.lo, .int .i64 x.re.hi, .int .i64 x.im.lo, .int .i64 x.im.hi] 25)).alloc (.cells #[.int .i64 0, .int .i64 0, .int .i64 0, .int .i64 0] 25)).drew) w.heap.size 25 #[.int .i64 x.re.lo, .int .i64 x.re.hi, .int .i64 x.im.lo, .int .i64 x.im.hi] := by (with_reducible repeat' (first | assumption | (apply hdN; (try simp only [sA, sS, sD]); done) | apply hdA | apply hdD | apply hdS | (apply hdF; case hp => first | (simp; done) | (simp; omega)) | with_unfolding_all rfl))
    have HO : Hd (((w.alloc (.cells #[.int .i64 x.re.lo, .int .i64 x.re.hi, .int .i64 x.im.lo, .int .i64 x.im.hi] 25)).alloc (.cells #[.int .i64 0, .int .i64 0, .int .i64 0, .int .i64 0] 25)).drew) (w.heap.size + 1) 25 #[.int .i64 0, .int .i64 0, .int .i64 0, .int .i64 0] := by (with_reducible repeat' (first | assumption | (apply hdN; (try simp only [sA, sS, sD]); done) | apply hdA | apply hdD | apply hdS | (apply hdF; case hp => first | (simp; done) | (simp; omega)) | with_unfolding_all rfl))
    have bw : Below w.heap.size w (((w.alloc (.cells #[.int .i64 x.re.lo, .int .i64 x.re.hi, .int .i64 x.im.lo, .int .i64 x.im.hi] 25)).alloc (.cells #[.int .i64 0, .int .i64 0, .int .i64 0, .int .i64 0] 25)).drew) := by go_grown
    (refine wp_region_eag (fun w' => Hd w' g 83 #[.int .i64 e0] ∧ Below w.heap.size w w') [(0, true), (1, true), (2, true), (3, true), (4, true), (5, false), (6, true)] (by kernel_rfl) (by kernel_rfl) (fun c d v a w h => by cases d <;> exact h) ⟨HG, bw⟩ ?_; simp only [List.map_cons, List.map_nil, List.getD_cons_zero, List.getD_cons_succ, flMark, Nat.reduceEqDiff, ↓reduceIte])
    repeat ((first | with_reducible apply eag_move | with_reducible apply eag_assign | ((with_reducible refine eag_soft (v := ?_) (fun w' hw' => ?_) ?_); rotate_left 1; (focus (obtain ⟨hG, hBw⟩ := hw'; obtain ⟨hcG, hfG⟩ := hG.facts; go_simp; (try with_reducible rfl); done)))); simp only [Act.put, Act.eval, List.setIfInBounds_toArray, List.set_cons_zero, List.set_cons_succ, Array.getD_eq_getD_getElem?, List.getElem?_toArray, List.getElem?_cons_zero, List.getElem?_cons_succ, Option.getD_some])
    generalize hW : ((w.alloc (.cells #[.int .i64 x.re.lo, .int .i64 x.re.hi, .int .i64 x.im.lo, .int .i64 x.im.hi] 25)).alloc (.cells #[.int .i64 0, .int .i64 0, .int .i64 0, .int .i64 0] 25)).drew = w1 at HG HA HO bw ⊢
    clear hW
    have lw1 : w.heap.size ≤ w1.heap.size := bw.size
    obtain ⟨hcO, hfO⟩ := HO.facts
    refine eag_hard ?_
    go_wp2_with fail
    replace HG : Hd ((((w1.setCell ⟨(w.heap.size + 1), 0, none⟩ (.int .i64 0)).setCell ⟨(w.heap.size + 1), 1, none⟩ (.int .i64 0)).setCell ⟨(w.heap.size + 1), 2, none⟩ (.int .i64 0)).setCell ⟨(w.heap.size + 1), 3, none⟩ (.int .i64 0)) g 83 #[.int .i64 e0] := by (with_reducible repeat' (first | assumption | (apply hdN; (try simp only [sA, sS, sD]); done) | apply hdA | apply hdD | apply hdS | (apply hdF; case hp => first | (simp; done) | (simp; omega)) | with_unfolding_all rfl))
    replace HA : Hd ((((w1.setCell ⟨(w.heap.size + 1), 0, none⟩ (.int .i64 0)).setCell ⟨(w.heap.size + 1), 1, none⟩ (.int .i64 0)).setCell ⟨(w.heap.size + 1), 2, none⟩ (.int .i64 0)).setCell ⟨(w.heap.size + 1), 3, none⟩ (.int .i64 0)) w.heap.size 25 #[.int .i64 x.re.lo, .int .i64 x.re.hi, .int .i64 x.im.lo, .int .i64 x.im.hi] := by (with_reducible repeat' (first | assumption | (apply hdN; (try simp only [sA, sS, sD]); done) | apply hdA | apply hdD | apply hdS | (apply hdF; case hp => first | (simp; done) | (simp; omega)) | with_unfolding_all rfl))
    replace HO : Hd ((((w1.setCell ⟨(w.heap.size + 1), 0, none⟩ (.int .i64 0)).setCell ⟨(w.heap.size + 1), 1, none⟩ (.int .i64 0)).setCell ⟨(w.heap.size + 1), 2, none⟩ (.int .i64 0)).setCell ⟨(w.heap.size + 1), 3, none⟩ (.int .i64 0)) (w.heap.size + 1) 25 #[.int .i64 0, .int .i64 0, .int .i64 0, .int .i64 0] := by (with_reducible repeat' (first | assumption | (apply hdN; (try simp only [sA, sS, sD]); done) | apply hdA | apply hdD | apply hdS | (apply hdF; case hp => first | (simp; done) | (simp; omega)) | with_unfolding_all rfl))
    replace bw : Below w.heap.size w ((((w1.setCell ⟨(w.heap.size + 1), 0, none⟩ (.int .i64 0)).setCell ⟨(w.heap.size + 1), 1, none⟩ (.int .i64 0)).setCell ⟨(w.heap.size + 1), 2, none⟩ (.int .i64 0)).setCell ⟨(w.heap.size + 1), 3, none⟩ (.int .i64 0)) := by go_grown
    (try refine ⟨⟨HG, bw⟩, ?_⟩)
    repeat ((first | with_reducible apply eag_move | with_reducible apply eag_assign | ((with_reducible refine eag_soft (v := ?_) (fun w' hw' => ?_) ?_); rotate_left 1; (focus (obtain ⟨hG, hBw⟩ := hw'; obtain ⟨hcG, hfG⟩ := hG.facts; go_simp; (try with_reducible rfl); done)))); simp only [Act.put, Act.eval, List.setIfInBounds_toArray, List.set_cons_zero, List.set_cons_succ, Array.getD_eq_getD_getElem?, List.getElem?_toArray, List.getElem?_cons_zero, List.getElem?_cons_succ, Option.getD_some])
    refine eag_nil ?_
    go_wp2
    refine bodyPost_ret (run_results2 rfl rfl (by (show Hd _ (w.heap.size + 1) 25 #[.int .i64 0, .int .i64 0, .int .i64 0, .int .i64 0]); (with_reducible repeat' (first | assumption | (apply hdN; (try simp only [sA, sS, sD]); done) | apply hdA | apply hdD | apply hdS | (apply hdF; case hp => first | (simp; done) | (simp; omega)) | with_unfolding_all rfl))) Try.underlying25 rfl (by kernel_rfl)) rfl ⟨rfl, by go_grown⟩

theorem rtwo_add (x y : En.Rc) (w : World) :
    Calls Try.prog 22 #[rcV x, rcV y] w fun e w' => e = .returned (rcE (twoR En.plus x y)) ∧ Below w.heap.size w w' := by
  have CV := rboth_any x y
  cases hv : (x.ok && y.ok) with
  | false =>
    have ht : twoR En.plus x y = (⟨⟨0, 0⟩, ⟨0, 0⟩⟩, 50) := by unfold twoR; rw [hv]; rfl
    rw [hv] at CV
    rw [ht]
    replace CV := Lib.hid CV
    clear hv ht
    go_enter Try.func22, Try.ntmps22
    go_wp2_with fail
    have HA : Hd (((w.alloc (.cells #[.int .i64 x.re.lo, .int .i64 x.re.hi, .int .i64 x.im.lo, .int .i64 x.im.hi] 25)).alloc (.cells #[.int .i64 y.re.lo, .int .i64 y.re.hi, .int .i64 y.im.lo, .int .i64 y.im.hi] 25)).alloc (.cells #[.int .i64 0, .int .i64 0, .int .i64 0, .int .i64 0] 25)) w.heap.size 25 #[.int .i64 x.re.lo, .int .i64 x.re.hi, .int .i64 x.im.lo, .int .i64 x.im.hi] := by (with_reducible repeat' (first | assumption | (apply hdN; (try simp only [sA, sS, sD]); done) | apply hdA | apply hdD | apply hdS | (apply hdF; case hp => first | (simp; done) | (simp; omega)) | with_unfolding_all rfl))
    have HB : Hd (((w.alloc (.cells #[.int .i64 x.re.lo, .int .i64 x.re.hi, .int .i64 x.im.lo, .int .i64 x.im.hi] 25)).alloc (.cells #[.int .i64 y.re.lo, .int .i64 y.re.hi, .int .i64 y.im.lo, .int .i64 y.im.hi] 25)).alloc (.cells #[.int .i64 0, .int .i64 0, .int .i64 0, .int .i64 0] 25)) (w.heap.size + 1) 25 #[.int .i64 y.re.lo, .int .i64 y.re.hi, .int .i64 y.im.lo, .int .i64 y.im.hi] := by (with_reducible repeat' (first | assumption | (apply hdN; (try simp only [sA, sS, sD]); done) | apply hdA | apply hdD | apply hdS | (apply hdF; case hp => first | (simp; done) | (simp; omega)) | with_unfolding_all rfl))
    have HO : Hd (((w.alloc (.cells #[.int .i64 x.re.lo, .int .i64 x.re.hi, .int .i64 x.im.lo, .int .i64 x.im.hi] 25)).alloc (.cells #[.int .i64 y.re.lo, .int .i64 y.re.hi, .int .i64 y.im.lo, .int .i64 y.im.hi] 25)).alloc (.cells #[.int .i64 0, .int .i64 0, .int .i64 0, .int .i64 0] 25)) (w.heap.size + 2) 25 #[.int .i64 0, .int .i64 0, .int .i64 0, .int .i64 0] := by (with_reducible repeat' (first | assumption | (apply hdN; (try simp only [sA, sS, sD]); done) | apply hdA | apply hdD | apply hdS | (apply hdF; case hp => first | (simp; done) | (simp; omega)) | with_unfolding_all rfl))
    have bw : Below w.heap.size w (((w.alloc (.cells #[.int .i64 x.re.lo, .int .i64 x.re.hi, .int .i64 x.im.lo, .int .i64 x.im.hi] 25)).alloc (.cells #[.int .i64 y.re.lo, .int .i64 y.re.hi, .int .i64 y.im.lo, .int .i64 y.im.hi] 25)).alloc (.cells #[.int .i64 0, .int .i64 0, .int .i64 0, .int .i64 0] 25)) := by go_grown
    refine (CV.out _).mono ?_
    rintro e w1 ⟨rfl, hb1⟩
    replace bw : Below w.heap.size w w1 := below_next bw hb1
    replace HA := HA.call hb1
    replace HB := HB.call hb1
    replace HO := HO.call hb1
    have lw1 : w.heap.size ≤ w1.heap.size := bw.size
    clear hb1
    obtain ⟨hcA, hfA⟩ := HA.facts
    obtain ⟨hcB, hfB⟩ := HB.facts
    obtain ⟨hcO, hfO⟩ := HO.facts
    go_wp2
    refine bodyPost_ret (run_results2 rfl rfl (by (show Hd _ (w.heap.size + 2) 25 #[.int .i64 0, .int .i64 0, .int .i64 0, .int .i64 0]); (with_reducible repeat' (first | assumption | (apply hdN; (try simp only [sA, sS, sD]); done) | apply hdA | apply hdD | apply hdS | (apply hdF; case hp => first | (simp; done) | (simp; omega)) | with_unfolding_all rfl))) Try.underlying25 rfl (by kernel_rfl)) rfl ⟨rfl, by go_grown⟩
  | true =>
    have ht : twoR En.plus x y = outR (En.plus x y) := by unfold twoR; rw [hv]; rfl
    rw [hv] at CV
    rw [ht]
    replace CV := Lib.hid CV
    have hop' := Lib.hid (radd_any x y (by cases h : x.ok <;> simp_all) (by cases h : y.ok <;> simp_all))
    clear hv ht
    go_enter Try.func22, Try.ntmps22
    go_wp2_with fail
    have HA : Hd (((w.alloc (.cells #[.int .i64 x.re.lo, .int .i64 x.re.hi, .int .i64 x.im.lo, .int .i64 x.im.hi] 25)).alloc (.cells #[.int .i64 y.re.lo, .int .i64 y.re.hi, .int .i64 y.im.lo, .int .i64 y.im.hi] 25)).alloc (.cells #[.int .i64 0, .int .i64 0, .int .i64 0, .int .i64 0] 25)) w.heap.size 25 #[.int .i64 x.re.lo, .int .i64 x.re.hi, .int .i64 x.im.lo, .int .i64 x.im.hi] := by (with_reducible repeat' (first | assumption | (apply hdN; (try simp only [sA, sS, sD]); done) | apply hdA | apply hdD | apply hdS | (apply hdF; case hp => first | (simp; done) | (simp; omega)) | with_unfolding_all rfl))
    have HB : Hd (((w.alloc (.cells #[.int .i64 x.re.lo, .int .i64 x.re.hi, .int .i64 x.im.lo, .int .i64 x.im.hi] 25)).alloc (.cells #[.int .i64 y.re.lo, .int .i64 y.re.hi, .int .i64 y.im.lo, .int .i64 y.im.hi] 25)).alloc (.cells #[.int .i64 0, .int .i64 0, .int .i64 0, .int .i64 0] 25)) (w.heap.size + 1) 25 #[.int .i64 y.re.lo, .int .i64 y.re.hi, .int .i64 y.im.lo, .int .i64 y.im.hi] := by (with_reducible repeat' (first | assumption | (apply hdN; (try simp only [sA, sS, sD]); done) | apply hdA | apply hdD | apply hdS | (apply hdF; case hp => first | (simp; done) | (simp; omega)) | with_unfolding_all rfl))
    have HO : Hd (((w.alloc (.cells #[.int .i64 x.re.lo, .int .i64 x.re.hi, .int .i64 x.im.lo, .int .i64 x.im.hi] 25)).alloc (.cells #[.int .i64 y.re.lo, .int .i64 y.re.hi, .int .i64 y.im.lo, .int .i64 y.im.hi] 25)).alloc (.cells #[.int .i64 0, .int .i64 0, .int .i64 0, .int .i64 0] 25)) (w.heap.size + 2) 25 #[.int .i64 0, .int .i64 0, .int .i64 0, .int .i64 0] := by (with_reducible repeat' (first | assumption | (apply hdN; (try simp only [sA, sS, sD]); done) | apply hdA | apply hdD | apply hdS | (apply hdF; case hp => first | (simp; done) | (simp; omega)) | with_unfolding_all rfl))
    have bw : Below w.heap.size w (((w.alloc (.cells #[.int .i64 x.re.lo, .int .i64 x.re.hi, .int .i64 x.im.lo, .int .i64 x.im.hi] 25)).alloc (.cells #[.int .i64 y.re.lo, .int .i64 y.re.hi, .int .i64 y.im.lo, .int .i64 y.im.hi] 25)).alloc (.cells #[.int .i64 0, .int .i64 0, .int .i64 0, .int .i64 0] 25)) := by go_grown
    refine (CV.out _).mono ?_
    rintro e w1 ⟨rfl, hb1⟩
    replace bw : Below w.heap.size w w1 := below_next bw hb1
    replace HA := HA.call hb1
    replace HB := HB.call hb1
    replace HO := HO.call hb1
    have lw1 : w.heap.size ≤ w1.heap.size := bw.size
    clear hb1
    obtain ⟨hcA, hfA⟩ := HA.facts
    obtain ⟨hcB, hfB⟩ := HB.facts
    obtain ⟨hcO, hfO⟩ := HO.facts
    have ltA := HA.lt
    have ltB := HB.lt
    have ltO := HO.lt
    go_wp2_with fail
    replace HA : Hd (w1.alloc (.cells #[.int .i64 0] 83)) w.heap.size 25 #[.int .i64 x.re.lo, .int .i64 x.re.hi, .int .i64 x.im.lo, .int .i64 x.im.hi] := by (with_reducible repeat' (first | assumption | (apply hdN; (try simp only [sA, sS, sD]); done) | apply hdA | apply hdD | apply hdS | (apply hdF; case hp => first | (simp; done) | (simp; omega)) | with_unfolding_all rfl))
    replace HB : Hd (w1.alloc (.cells #[.int .i64 0] 83)) (w.heap.size + 1) 25 #[.int .i64 y.re.lo, .int .i64 y.re.hi, .int .i64 y.im.lo, .int .i64 y.im.hi] := by (with_reducible repeat' (first | assumption | (apply hdN; (try simp only [sA, sS, sD]); done) | apply hdA | apply hdD | apply hdS | (apply hdF; case hp => first | (simp; done) | (simp; omega)) | with_unfolding_all rfl))
    replace HO : Hd (w1.alloc (.cells #[.int .i64 0] 83)) (w.heap.size + 2) 25 #[.int .i64 0, .int .i64 0, .int .i64 0, .int .i64 0] := by (with_reducible repeat' (first | assumption | (apply hdN; (try simp only [sA, sS, sD]); done) | apply hdA | apply hdD | apply hdS | (apply hdF; case hp => first | (simp; done) | (simp; omega)) | with_unfolding_all rfl))
    replace bw : Below w.heap.size w (w1.alloc (.cells #[.int .i64 0] 83)) := by go_grown
    have HG : Hd (w1.alloc (.cells #[.int .i64 0] 83)) w1.heap.size 83 #[.int .i64 0] := by (with_reducible repeat' (first | assumption | (apply hdN; (try simp only [sA, sS, sD]); done) | apply hdA | apply hdD | apply hdS | (apply hdF; case hp => first | (simp; done) | (simp; omega)) | with_unfolding_all rfl))
    refine (hop'.out 0 _ _ HG).mono ?_
    rintro e w2 ⟨z, e1, rfl, okz, qq, HG2, hb2⟩
    replace qq := Lib.hid qq
    replace bw : Below w.heap.size w w2 := But.far bw hb2 (by omega) (by simp only [World.size_alloc]; omega)
    replace HA := HA.but hb2 (by omega)
    replace HB := HB.but hb2 (by omega)
    replace HO := HO.but hb2 (by omega)
    have ltG := HG2.lt
    have lw2 : w.heap.size ≤ w2.heap.size := bw.size
    clear hb2 HG
    have HG := HG2
    clear HG2
    obtain ⟨hcA, hfA⟩ := HA.facts
    obtain ⟨hcB, hfB⟩ := HB.facts
    obtain ⟨hcO, hfO⟩ := HO.facts
    obtain ⟨hcG, hfG⟩ := HG.facts
    have ltA2 := HA.lt
    have ltB2 := HB.lt
    have ltO2 := HO.lt
    go_wp2_with fail
    replace HA : Hd (w2.alloc (.cells #[.int .i64 z.re.lo, .int .i64 z.re.hi, .int .i64 z.im.lo, .int .i64 z.im.hi] 25)) w.heap.size 25 #[.int .i64 x.re.lo, .int .i64 x.re.hi, .int .i64 x.im.lo, .int .i64 x.im.hi] := by (with_reducible repeat' (first | assumption | (apply hdN; (try simp only [sA, sS, sD]); done) | apply hdA | apply hdD | apply hdS | (apply hdF; case hp => first | (simp; done) | (simp; omega)) | with_unfolding_all rfl))
    replace HB : Hd (w2.alloc (.cells #[.int .i64 z.re.lo, .int .i64 z.re.hi, .int .i64 z.im.lo, .int .i64 z.im.hi] 25)) (w.heap.size + 1) 25 #[.int .i64 y.re.lo, .int .i64 y.re.hi, .int .i64 y.im.lo, .int .i64 y.im.hi] := by (with_reducible repeat' (first | assumption | (apply hdN; (try simp only [sA, sS, sD]); done) | apply hdA | apply hdD | apply hdS | (apply hdF; case hp => first | (simp; done) | (simp; omega)) | with_unfolding_all rfl))
    replace HO : Hd (w2.alloc (.cells #[.int .i64 z.re.lo, .int .i64 z.re.hi, .int .i64 z.im.lo, .int .i64 z.im.hi] 25)) (w.heap.size + 2) 25 #[.int .i64 0, .int .i64 0, .int .i64 0, .int .i64 0] := by (with_reducible repeat' (first | assumption | (apply hdN; (try simp only [sA, sS, sD]); done) | apply hdA | apply hdD | apply hdS | (apply hdF; case hp => first | (simp; done) | (simp; omega)) | with_unfolding_all rfl))
    replace HG : Hd (w2.alloc (.cells #[.int .i64 z.re.lo, .int .i64 z.re.hi, .int .i64 z.im.lo, .int .i64 z.im.hi] 25)) w1.heap.size 83 #[.int .i64 e1] := by (with_reducible repeat' (first | assumption | (apply hdN; (try simp only [sA, sS, sD]); done) | apply hdA | apply hdD | apply hdS | (apply hdF; case hp => first | (simp; done) | (simp; omega)) | with_unfolding_all rfl))
    replace bw : Below w.heap.size w (w2.alloc (.cells #[.int .i64 z.re.lo, .int .i64 z.re.hi, .int .i64 z.im.lo, .int .i64 z.im.hi] 25)) := by go_grown
    have HZ : Hd (w2.alloc (.cells #[.int .i64 z.re.lo, .int .i64 z.re.hi, .int .i64 z.im.lo, .int .i64 z.im.hi] 25)) w2.heap.size 25 #[.int .i64 z.re.lo, .int .i64 z.re.hi, .int .i64 z.im.lo, .int .i64 z.im.hi] := by (with_reducible repeat' (first | assumption | (apply hdN; (try simp only [sA, sS, sD]); done) | apply hdA | apply hdD | apply hdS | (apply hdF; case hp => first | (simp; done) | (simp; omega)) | with_unfolding_all rfl))
    refine (rdone_any z e1 _ _ HG).mono ?_
    rintro e w3 ⟨rfl, hb3⟩
    replace bw : Below w.heap.size w w3 := below_next bw hb3
    replace HA := HA.call hb3
    replace HB := HB.call hb3
    replace HO := HO.call hb3
    replace HG := HG.call hb3
    replace HZ := HZ.call hb3
    have lw3 : w.heap.size ≤ w3.heap.size := bw.size
    clear hb3
    obtain ⟨hcO, hfO⟩ := HO.facts
    rcases qq.out.zero with ⟨hr, rfl⟩ | ⟨hr, hne⟩
    · rw [if_pos rfl]
      go_wp2
      refine bodyPost_ret (run_results2 rfl rfl (by (show Hd _ (w.heap.size + 2) 25 #[.int .i64 z.re.lo, .int .i64 z.re.hi, .int .i64 z.im.lo, .int .i64 z.im.hi]); (with_reducible repeat' (first | assumption | (apply hdN; (try simp only [sA, sS, sD]); done) | apply hdA | apply hdD | apply hdS | (apply hdF; case hp => first | (simp; done) | (simp; omega)) | with_unfolding_all rfl))) Try.underlying25 rfl (by kernel_rfl)) rfl ⟨by rw [hr]; rfl, by go_grown⟩
    · rw [if_neg hne]
      go_wp2
      refine bodyPost_ret (run_results2 rfl rfl (by (show Hd _ (w.heap.size + 2) 25 #[.int .i64 0, .int .i64 0, .int .i64 0, .int .i64 0]); (with_reducible repeat' (first | assumption | (apply hdN; (try simp only [sA, sS, sD]); done) | apply hdA | apply hdD | apply hdS | (apply hdF; case hp => first | (simp; done) | (simp; omega)) | with_unfolding_all rfl))) Try.underlying25 rfl (by kernel_rfl)) rfl ⟨by rw [hr]; rfl, by go_grown⟩

theorem rtwo_sub (x y : En.Rc) (w : World) :
    Calls Try.prog 24 #[rcV x, rcV y] w fun e w' => e = .returned (rcE (twoR En.minus x y)) ∧ Below w.heap.size w w' := by
  have CV := rboth_any x y
  cases hv : (x.ok && y.ok) with
  | false =>
    have ht : twoR En.minus x y = (⟨⟨0, 0⟩, ⟨0, 0⟩⟩, 50) := by unfold twoR; rw [hv]; rfl
    rw [hv] at CV
    rw [ht]
    replace CV := Lib.hid CV
    clear hv ht
    go_enter Try.func24, Try.ntmps24
    go_wp2_with fail
    have HA : Hd (((w.alloc (.cells #[.int .i64 x.re.lo, .int .i64 x.re.hi, .int .i64 x.im.lo, .int .i64 x.im.hi] 25)).alloc (.cells #[.int .i64 y.re.lo, .int .i64 y.re.hi, .int .i64 y.im.lo, .int .i64 y.im.hi] 25)).alloc (.cells #[.int .i64 0, .int .i64 0, .int .i64 0, .int .i64 0] 25)) w.heap.size 25 #[.int .i64 x.re.lo, .int .i64 x.re.hi, .int .i64 x.im.lo, .int .i64 x.im.hi] := by (with_reducible repeat' (first | assumption | (apply hdN; (try simp only [sA, sS, sD]); done) | apply hdA | apply hdD | apply hdS | (apply hdF; case hp => first | (simp; done) | (simp; omega)) | with_unfolding_all rfl))
    have HB : Hd (((w.alloc (.cells #[.int .i64 x.re.lo, .int .i64 x.re.hi, .int .i64 x.im.lo, .int .i64 x.im.hi] 25)).alloc (.cells #[.int .i64 y.re.lo, .int .i64 y.re.hi, .int .i64 y.im.lo, .int .i64 y.im.hi] 25)).alloc (.cells #[.int .i64 0, .int .i64 0, .int .i64 0, .int .i64 0] 25)) (w.heap.size + 1) 25 #[.int .i64 y.re.lo, .int .i64 y.re.hi, .int .i64 y.im.lo, .int .i64 y.im.hi] := by (with_reducible repeat' (first | assumption | (apply hdN; (try simp only [sA, sS, sD]); done) | apply hdA | apply hdD | apply hdS | (apply hdF; case hp => first | (simp; done) | (simp; omega)) | with_unfolding_all rfl))
    have HO : Hd (((w.alloc (.cells #[.int .i64 x.re.lo, .int .i64 x.re.hi, .int .i64 x.im.lo, .int .i64 x.im.hi] 25)).alloc (.cells #[.int .i64 y.re.lo, .int .i64 y.re.hi, .int .i64 y.im.lo, .int .i64 y.im.hi] 25)).alloc (.cells #[.int .i64 0, .int .i64 0, .int .i64 0, .int .i64 0] 25)) (w.heap.size + 2) 25 #[.int .i64 0, .int .i64 0, .int .i64 0, .int .i64 0] := by (with_reducible repeat' (first | assumption | (apply hdN; (try simp only [sA, sS, sD]); done) | apply hdA | apply hdD | apply hdS | (apply hdF; case hp => first | (simp; done) | (simp; omega)) | with_unfolding_all rfl))
    have bw : Below w.heap.size w (((w.alloc (.cells #[.int .i64 x.re.lo, .int .i64 x.re.hi, .int .i64 x.im.lo, .int .i64 x.im.hi] 25)).alloc (.cells #[.int .i64 y.re.lo, .int .i64 y.re.hi, .int .i64 y.im.lo, .int .i64 y.im.hi] 25)).alloc (.cells #[.int .i64 0, .int .i64 0, .int .i64 0, .int .i64 0] 25)) := by go_grown
    refine (CV.out _).mono ?_
    rintro e w1 ⟨rfl, hb1⟩
    replace bw : Below w.heap.size w w1 := below_next bw hb1
    replace HA := HA.call hb1
    replace HB := HB.call hb1
    replace HO := HO.call hb1
    have lw1 : w.heap.size ≤ w1.heap.size := bw.size
    clear hb1
    obtain ⟨hcA, hfA⟩ := HA.facts
    obtain ⟨hcB, hfB⟩ := HB.facts
    obtain ⟨hcO, hfO⟩ := HO.facts
    go_wp2
    refine bodyPost_ret (run_results2 rfl rfl (by (show Hd _ (w.heap.size + 2) 25 #[.int .i64 0, .int .i64 0, .int .i64 0, .int .i64 0]); (with_reducible repeat' (first | assumption | (apply hdN; (try simp only [sA, sS, sD]); done) | apply hdA | apply hdD | apply hdS | (apply hdF; case hp => first | (simp; done) | (simp; omega)) | with_unfolding_all rfl))) Try.underlying25 rfl (by kernel_rfl)) rfl ⟨rfl, by go_grown⟩
  | true =>
    have ht : twoR En.minus x y = outR (En.minus x y) := by unfold twoR; rw [hv]; rfl
    rw [hv] at CV
    rw [ht]
    replace CV := Lib.hid CV
    have hop' := Lib.hid (rsub_any x y (by cases h : x.ok <;> simp_all) (by cases h : y.ok <;> simp_all))
    clear hv ht
    go_enter Try.func24, Try.ntmps24
    go_wp2_with fail
    have HA : Hd (((w.alloc (.cells #[.int .i64 x.re.lo, .int .i64 x.re.hi, .int .i64 x.im.lo, .int .i64 x.im.hi] 25)).alloc (.cells #[.int .i64 y.re.lo, .int .i64 y.re.hi, .int .i64 y.im.lo, .int .i64 y.im.hi] 25)).alloc (.cells #[.int .i64 0, .int .i64 0, .int .i64 0, .int .i64 0] 25)) w.heap.size 25 #[.int .i64 x.re.lo, .int .i64 x.re.hi, .int .i64 x.im.lo, .int .i64 x.im.hi] := by (with_reducible repeat' (first | assumption | (apply hdN; (try simp only [sA, sS, sD]); done) | apply hdA | apply hdD | apply hdS | (apply hdF; case hp => first | (simp; done) | (simp; omega)) | with_unfolding_all rfl))
    have HB : Hd (((w.alloc (.cells #[.int .i64 x.re.lo, .int .i64 x.re.hi, .int .i64 x.im.lo, .int .i64 x.im.hi] 25)).alloc (.cells #[.int .i64 y.re.lo, .int .i64 y.re.hi, .int .i64 y.im.lo, .int .i64 y.im.hi] 25)).alloc (.cells #[.int .i64 0, .int .i64 0, .int .i64 0, .int .i64 0] 25)) (w.heap.size + 1) 25 #[.int .i64 y.re.lo, .int .i64 y.re.hi, .int .i64 y.im.lo, .int .i64 y.im.hi] := by (with_reducible repeat' (first | assumption | (apply hdN; (try simp only [sA, sS, sD]); done) | apply hdA | apply hdD | apply hdS | (apply hdF; case hp => first | (simp; done) | (simp; omega)) | with_unfolding_all rfl))
    have HO : Hd (((w.alloc (.cells #[.int .i64 x.re.lo, .int .i64 x.re.hi, .int .i64 x.im.lo, .int .i64 x.im.hi] 25)).alloc (.cells #[.int .i64 y.re.lo, .int .i64 y.re.hi, .int .i64 y.im.lo, .int .i64 y.im.hi] 25)).alloc (.cells #[.int .i64 0, .int .i64 0, .int .i64 0, .int .i64 0] 25)) (w.heap.size + 2) 25 #[.int .i64 0, .int .i64 0, .int .i64 0, .int .i64 0] := by (with_reducible repeat' (first | assumption | (apply hdN; (try simp only [sA, sS, sD]); done) | apply hdA | apply hdD | apply hdS | (apply hdF; case hp => first | (simp; done) | (simp; omega)) | with_unfolding_all rfl))
    have bw : Below w.heap.size w (((w.alloc (.cells #[.int .i64 x.re.lo, .int .i64 x.re.hi, .int .i64 x.im.lo, .int .i64 x.im.hi] 25)).alloc (.cells #[.int .i64 y.re.lo, .int .i64 y.re.hi, .int .i64 y.im.lo, .int .i64 y.im.hi] 25)).alloc (.cells #[.int .i64 0, .int .i64 0, .int .i64 0, .int .i64 0] 25)) := by go_grown
    refine (CV.out _).mono ?_
    rintro e w1 ⟨rfl, hb1⟩
    replace bw : Below w.heap.size w w1 := below_next bw hb1
    replace HA := HA.call hb1
    replace HB := HB.call hb1
    replace HO := HO.call hb1
    have lw1 : w.heap.size ≤ w1.heap.size := bw.size
    clear hb1
    obtain ⟨hcA, hfA⟩ := HA.facts
    obtain ⟨hcB, hfB⟩ := HB.facts
    obtain ⟨hcO, hfO⟩ := HO.facts
    have ltA := HA.lt
    have ltB := HB.lt
    have ltO := HO.lt
    go_wp2_with fail
    replace HA : Hd (w1.alloc (.cells #[.int .i64 0] 83)) w.heap.size 25 #[.int .i64 x.re.lo, .int .i64 x.re.hi, .int .i64 x.im.lo, .int .i64 x.im.hi] := by (with_reducible repeat' (first | assumption | (apply hdN; (try simp only [sA, sS, sD]); done) | apply hdA | apply hdD | apply hdS | (apply hdF; case hp => first | (simp; done) | (simp; omega)) | with_unfolding_all rfl))
    replace HB : Hd (w1.alloc (.cells #[.int .i64 0] 83)) (w.heap.size + 1) 25 #[.int .i64 y.re.lo, .int .i64 y.re.hi, .int .i64 y.im.lo, .int .i64 y.im.hi] := by (with_reducible repeat' (first | assumption | (apply hdN; (try simp only [sA, sS, sD]); done) | apply hdA | apply hdD | apply hdS | (apply hdF; case hp => first | (simp; done) | (simp; omega)) | with_unfolding_all rfl))
    replace HO : Hd (w1.alloc (.cells #[.int .i64 0] 83)) (w.heap.size + 2) 25 #[.int .i64 0, .int .i64 0, .int .i64 0, .int .i64 0] := by (with_reducible repeat' (first | assumption | (apply hdN; (try simp only [sA, sS, sD]); done) | apply hdA | apply hdD | apply hdS | (apply hdF; case hp => first | (simp; done) | (simp; omega)) | with_unfolding_all rfl))
    replace bw : Below w.heap.size w (w1.alloc (.cells #[.int .i64 0] 83)) := by go_grown
    have HG : Hd (w1.alloc (.cells #[.int .i64 0] 83)) w1.heap.size 83 #[.int .i64 0] := by (with_reducible repeat' (first | assumption | (apply hdN; (try simp only [sA, sS, sD]); done) | apply hdA | apply hdD | apply hdS | (apply hdF; case hp => first | (simp; done) | (simp; omega)) | with_unfolding_all rfl))
    refine (hop'.out 0 _ _ HG).mono ?_
    rintro e w2 ⟨z, e1, rfl, okz, qq, HG2, hb2⟩
    replace qq := Lib.hid qq
    replace bw : Below w.heap.size w w2 := But.far bw hb2 (by omega) (by simp only [World.size_alloc]; omega)
    replace HA := HA.but hb2 (by omega)
    replace HB := HB.but hb2 (by omega)
    replace HO := HO.but hb2 (by omega)
    have ltG := HG2.lt
    have lw2 : w.heap.size ≤ w2.heap.size := bw.size
    clear hb2 HG
    have HG := HG2
    clear HG2
    obtain ⟨hcA, hfA⟩ := HA.facts
    obtain ⟨hcB, hfB⟩ := HB.facts
    obtain ⟨hcO, hfO⟩ := HO.facts
    obtain ⟨hcG, hfG⟩ := HG.facts
    have ltA2 := HA.lt
    have ltB2 := HB.lt
    have ltO2 := HO.lt
    go_wp2_with fail
    replace HA : Hd (w2.alloc (.cells #[.int .i64 z.re.lo, .int .i64 z.re.hi, .int .i64 z.im.lo, .int .i64 z.im.hi] 25)) w.heap.size 25 #[.int .i64 x.re.lo, .int .i64 x.re.hi, .int .i64 x.im.lo, .int .i64 x.im.hi] := by (with_reducible repeat' (first | assumption | (apply hdN; (try simp only [sA, sS, sD]); done) | apply hdA | apply hdD | apply hdS | (apply hdF; case hp => first | (simp; done) | (simp; omega)) | with_unfolding_all rfl))
    replace HB : Hd (w2.alloc (.cells #[.int .i64 z.re.lo, .int .i64 z.re.hi, .int .i64 z.im.lo, .int .i64 z.im.hi] 25)) (w.heap.size + 1) 25 #[.int .i64 y.re.lo, .int .i64 y.re.hi, .int .i64 y.im.lo, .int .i64 y.im.hi] := by (with_reducible repeat' (first | assumption | (apply hdN; (try simp only [sA, sS, sD]); done) | apply hdA | apply hdD | apply hdS | (apply hdF; case hp => first | (simp; done) | (simp; omega)) | with_unfolding_all rfl))
    replace HO : Hd (w2.alloc (.cells #[.int .i64 z.re.lo, .int .i64 z.re.hi, .int .i64 z.im.lo, .int .i64 z.im.hi] 25)) (w.heap.size + 2) 25 #[.int .i64 0, .int .i64 0, .int .i64 0, .int .i64 0] := by (with_reducible repeat' (first | assumption | (apply hdN; (try simp only [sA, sS, sD]); done) | apply hdA | apply hdD | apply hdS | (apply hdF; case hp => first | (simp; done) | (simp; omega)) | with_unfolding_all rfl))
    replace HG : Hd (w2.alloc (.cells #[.int .i64 z.re.lo, .int .i64 z.re.hi, .int .i64 z.im.lo, .int .i64 z.im.hi] 25)) w1.heap.size 83 #[.int .i64 e1] := by (with_reducible repeat' (first | assumption | (apply hdN; (try simp only [sA, sS, sD]); done) | apply hdA | apply hdD | apply hdS | (apply hdF; case hp => first | (simp; done) | (simp; omega)) | with_unfolding_all rfl))
    replace bw : Below w.heap.size w (w2.alloc (.cells #[.int .i64 z.re.lo, .int .i64 z.re.hi, .int .i64 z.im.lo, .int .i64 z.im.hi] 25)) := by go_grown
    have HZ : Hd (w2.alloc (.cells #[.int .i64 z.re.lo, .int .i64 z.re.hi, .int .i64 z.im.lo, .int .i64 z.im.hi] 25)) w2.heap.size 25 #[.int .i64 z.re.lo, .int .i64 z.re.hi, .int .i64 z.im.lo, .int .i64 z.im.hi] := by (with_reducible repeat' (first | assumption | (apply hdN; (try simp only [sA, sS, sD]); done) | apply hdA | apply hdD | apply hdS | (apply hdF; case hp => first | (simp; done) | (simp; omega)) | with_unfolding_all rfl))
    refine (rdone_any z e1 _ _ HG).mono ?_
    rintro e w3 ⟨rfl, hb3⟩
    replace bw : Below w.heap.size w w3 := below_next bw hb3
    replace HA := HA.call hb3
    replace HB := HB.call hb3
    replace HO := HO.call hb3
    replace HG := HG.call hb3
    replace HZ := HZ.call hb3
    have lw3 : w.heap.size ≤ w3.heap.size := bw.size
    clear hb3
    obtain ⟨hcO, hfO⟩ := HO.facts
    rcases qq.out.zero with ⟨hr, rfl⟩ | ⟨hr, hne⟩
    · rw [if_pos rfl]
      go_wp2
      refine bodyPost_ret (run_results2 rfl rfl (by (show Hd _ (w.heap.size + 2) 25 #[.int .i64 z.re.lo, .int .i64 z.re.hi, .int .i64 z.im.lo, .int .i64 z.im.hi]); (with_reducible repeat' (first | assumption | (apply hdN; (try simp only [sA, sS, sD]); done) | apply hdA | apply hdD | apply hdS | (apply hdF; case hp => first | (simp; done) | (simp; omega)) | with_unfolding_all rfl))) Try.underlying25 rfl (by kernel_rfl)) rfl ⟨by rw [hr]; rfl, by go_grown⟩
    · rw [if_neg hne]
      go_wp2
      refine bodyPost_ret (run_results2 rfl rfl (by (show Hd _ (w.heap.size + 2) 25 #[.int .i64 0, .int .i64 0, .int .i64 0, .int .i64 0]); (with_reducible repeat' (first | assumption | (apply hdN; (try simp only [sA, sS, sD]); done) | apply hdA | apply hdD | apply hdS | (apply hdF; case hp => first | (simp; done) | (simp; omega)) | with_unfolding_all rfl))) Try.underlying25 rfl (by kernel_rfl)) rfl ⟨by rw [hr]; rfl, by go_grown⟩
end Go.Proofs.Ytpbbbfglecbceaa
