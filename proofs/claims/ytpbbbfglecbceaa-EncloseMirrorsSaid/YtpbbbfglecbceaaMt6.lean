/- Several texts in one. -/
import Derived.Test.YtpbbbfglecbceaaMt5
import Derived.Deep.Cut
import Derived.Deep.CutRange
import Derived.Test.YtpbbbfglecbceaaMt4
import Derived.Test.YtpbbbfglecbceaaMt2
import Derived.Test.YtpbbbfglecbceaaMt3
/- The document's sums and differences of rectangles. -/
namespace Go.Proofs.Ytpbbbfglecbceaa
set_option linter.all false
open Go.RowKit

/-- The document's operation on rectangles: its result where there is no error; the cell of the error; all other blocks are kept. -/
def PostR (r : En.R En.Rc) (g : Nat) (e0 : Int) (w : World) (e : Ending) (w' : World) : Prop :=
  ∃ z e1, e = .returned (rcV z) ∧ z.ok = true ∧ En.Stk r e0 z e1 ∧ Hd w' g 83 #[.int .i64 e1] ∧ But g w w'

theorem radd_any (x y : En.Rc) (hx : x.ok = true) (hy : y.ok = true) (e0 : Int) (g : Nat) (w : World) (HG : Hd w g 83 #[.int .i64 e0]) :
    Calls Try.prog 71 #[ptr g, rcV x, rcV y] w (PostR (En.plus x y) g e0 w) := by
  have hlt := HG.lt
  have bw := But.refl g w
  obtain ⟨xr, xi⟩ := En.Rc.fit_of_ok hx
  obtain ⟨yr, yi⟩ := En.Rc.fit_of_ok hy
  obtain ⟨hcG, hfG⟩ := HG.facts
  go_enter Try.func71, Try.ntmps71
  go_wp2_with fail
  replace HG : Hd ((((w.alloc (.cells #[.int .i64 x.re.lo, .int .i64 x.re.hi, .int .i64 x.im.lo, .int .i64 x.im.hi] 25)).alloc (.cells #[.int .i64 y.re.lo, .int .i64 y.re.hi, .int .i64 y.im.lo, .int .i64 y.im.hi] 25)).alloc (.cells #[.int .i64 0, .int .i64 0, .int .i64 0, .int .i64 0] 25)).drew) g 83 #[.int .i64 e0] := hdx
  have HA : Hd ((((w.alloc (.cells #[.int .i64 x.re.lo, .int .i64 x.re.hi, .int .i64 x.im.lo, .int .i64 x.im.hi] 25)).alloc (.cells #[.int .i64 y.re.lo, .int .i64 y.re.hi, .int .i64 y.im.lo, .int .i64 y.im.hi] 25)).alloc (.cells #[.int .i64 0, .int .i64 0, .int .i64 0, .int .i64 0] 25)).drew) w.heap.size 25 #[.int .i64 x.re.lo, .int .i64 x.re.hi, .int .i64 x.im.lo, .int .i64 x.im.hi] := hdx
  have HB : Hd ((((w.alloc (.cells #[.int .i64 x.re.lo, .int .i64 x.re.hi, .int .i64 x.im.lo, .int .i64 x.im.hi] 25)).alloc (.cells #[.int .i64 y.re.lo, .int .i64 y.re.hi, .int .i64 y.im.lo, .int .i64 y.im.hi] 25)).alloc (.cells #[.int .i64 0, .int .i64 0, .int .i64 0, .int .i64 0] 25)).drew) (w.heap.size + 1) 25 #[.int .i64 y.re.lo, .int .i64 y.re.hi, .int .i64 y.im.lo, .int .i64 y.im.hi] := hdx
  have HO : Hd ((((w.alloc (.cells #[.int .i64 x.re.lo, .int .i64 x.re.hi, .int .i64 x.im.lo, .int .i64 x.im.hi] 25)).alloc (.cells #[.int .i64 y.re.lo, .int .i64 y.re.hi, .int .i64 y.im.lo, .int .i64 y.im.hi] 25)).alloc (.cells #[.int .i64 0, .int .i64 0, .int .i64 0, .int .i64 0] 25)).drew) (w.heap.size + 2) 25 #[.int .i64 0, .int .i64 0, .int .i64 0, .int .i64 0] := hdx
  replace bw : But g w ((((w.alloc (.cells #[.int .i64 x.re.lo, .int .i64 x.re.hi, .int .i64 x.im.lo, .int .i64 x.im.hi] 25)).alloc (.cells #[.int .i64 y.re.lo, .int .i64 y.re.hi, .int .i64 y.im.lo, .int .i64 y.im.hi] 25)).alloc (.cells #[.int .i64 0, .int .i64 0, .int .i64 0, .int .i64 0] 25)).drew) := butx
  (refine wp_region_eag (fun w' => Hd w' w.heap.size 25 #[.int .i64 x.re.lo, .int .i64 x.re.hi, .int .i64 x.im.lo, .int .i64 x.im.hi] ∧ Hd w' (w.heap.size + 1) 25 #[.int .i64 y.re.lo, .int .i64 y.re.hi, .int .i64 y.im.lo, .int .i64 y.im.hi] ∧ But g w w') [(0, true), (1, true), (2, true), (3, true), (4, true), (6, true), (7, true), (8, true), (9, true), (10, true), (5, false), (11, false), (12, true), (13, false)] (by kernel_rfl) (by kernel_rfl) (fun c d v a w h => by cases d <;> exact h) ⟨HA, HB, bw⟩ ?_; simp only [List.map_cons, List.map_nil, List.getD_cons_zero, List.getD_cons_succ, flMark, Nat.reduceEqDiff, ↓reduceIte])
  repeat ((first | with_reducible apply eag_move | with_reducible apply eag_assign | ((with_reducible refine eag_soft (v := ?_) (fun w' hw' => ?_) ?_); rotate_left 1; (focus (obtain ⟨hA, hB, hBw⟩ := hw'; obtain ⟨hcA, hfA⟩ := hA.facts; obtain ⟨hcB, hfB⟩ := hB.facts; go_simp; (try with_reducible rfl); done)))); simp only [Act.put, Act.eval, qs])
  refine eag_hard ?_
  go_wp2_with fail
  refine (wsum_any x.re y.re xr yr e0 g _ HG).mono ?_
  rintro e w1 ⟨z1, e1, rfl, ok1, zz1, qq1, HG1, hb1⟩
  replace bw : But g w w1 := bw.trans hb1
  replace HA := HA.but hb1 (by omega)
  replace HB := HB.but hb1 (by omega)
  replace HO := HO.but hb1 (by omega)
  replace HG := HG1
  clear HG1
  replace qq1 := Lib.hid qq1
  replace zz1 := Lib.hid zz1
  have lw1 : w.heap.size ≤ w1.heap.size := bw.size
  clear hb1
  go_wp2_with fail
  (try refine ⟨⟨HA, HB, bw⟩, ?_⟩)
  repeat ((first | with_reducible apply eag_move | with_reducible apply eag_assign | ((with_reducible refine eag_soft (v := ?_) (fun w' hw' => ?_) ?_); rotate_left 1; (focus (obtain ⟨hA, hB, hBw⟩ := hw'; obtain ⟨hcA, hfA⟩ := hA.facts; obtain ⟨hcB, hfB⟩ := hB.facts; go_simp; (try with_reducible rfl); done)))); simp only [Act.put, Act.eval, qs])
  refine eag_hard ?_
  go_wp2_with fail
  refine (wsum_any x.im y.im xi yi e1 g _ HG).mono ?_
  rintro e w2 ⟨z2, e2, rfl, ok2, zz2, qq2, HG2, hb2⟩
  replace bw : But g w w2 := bw.trans hb2
  replace HA := HA.but hb2 (by omega)
  replace HB := HB.but hb2 (by omega)
  replace HO := HO.but hb2 (by omega)
  replace HG := HG2
  clear HG2
  replace qq2 := Lib.hid qq2
  replace zz2 := Lib.hid zz2
  have lw2 : w.heap.size ≤ w2.heap.size := bw.size
  clear hb2
  go_wp2_with fail
  (try refine ⟨⟨HA, HB, bw⟩, ?_⟩)
  repeat ((first | with_reducible apply eag_move | with_reducible apply eag_assign | ((with_reducible refine eag_soft (v := ?_) (fun w' hw' => ?_) ?_); rotate_left 1; (focus (obtain ⟨hA, hB, hBw⟩ := hw'; obtain ⟨hcA, hfA⟩ := hA.facts; obtain ⟨hcB, hfB⟩ := hB.facts; go_simp; (try with_reducible rfl); done)))); simp only [Act.put, Act.eval, qs])
  obtain ⟨hcO, hfO⟩ := HO.facts
  refine eag_hard ?_
  go_wp2_with fail
  replace HG : Hd ((((w2.setCell ⟨(w.heap.size + 2), 0, none⟩ (.int .i64 z1.lo)).setCell ⟨(w.heap.size + 2), 1, none⟩ (.int .i64 z1.hi)).setCell ⟨(w.heap.size + 2), 2, none⟩ (.int .i64 z2.lo)).setCell ⟨(w.heap.size + 2), 3, none⟩ (.int .i64 z2.hi)) g 83 #[.int .i64 e2] := hdx
  replace HA : Hd ((((w2.setCell ⟨(w.heap.size + 2), 0, none⟩ (.int .i64 z1.lo)).setCell ⟨(w.heap.size + 2), 1, none⟩ (.int .i64 z1.hi)).setCell ⟨(w.heap.size + 2), 2, none⟩ (.int .i64 z2.lo)).setCell ⟨(w.heap.size + 2), 3, none⟩ (.int .i64 z2.hi)) w.heap.size 25 #[.int .i64 x.re.lo, .int .i64 x.re.hi, .int .i64 x.im.lo, .int .i64 x.im.hi] := hdx
  replace HB : Hd ((((w2.setCell ⟨(w.heap.size + 2), 0, none⟩ (.int .i64 z1.lo)).setCell ⟨(w.heap.size + 2), 1, none⟩ (.int .i64 z1.hi)).setCell ⟨(w.heap.size + 2), 2, none⟩ (.int .i64 z2.lo)).setCell ⟨(w.heap.size + 2), 3, none⟩ (.int .i64 z2.hi)) (w.heap.size + 1) 25 #[.int .i64 y.re.lo, .int .i64 y.re.hi, .int .i64 y.im.lo, .int .i64 y.im.hi] := hdx
  replace HO : Hd ((((w2.setCell ⟨(w.heap.size + 2), 0, none⟩ (.int .i64 z1.lo)).setCell ⟨(w.heap.size + 2), 1, none⟩ (.int .i64 z1.hi)).setCell ⟨(w.heap.size + 2), 2, none⟩ (.int .i64 z2.lo)).setCell ⟨(w.heap.size + 2), 3, none⟩ (.int .i64 z2.hi)) (w.heap.size + 2) 25 #[.int .i64 z1.lo, .int .i64 z1.hi, .int .i64 z2.lo, .int .i64 z2.hi] := hdx
  replace bw : But g w ((((w2.setCell ⟨(w.heap.size + 2), 0, none⟩ (.int .i64 z1.lo)).setCell ⟨(w.heap.size + 2), 1, none⟩ (.int .i64 z1.hi)).setCell ⟨(w.heap.size + 2), 2, none⟩ (.int .i64 z2.lo)).setCell ⟨(w.heap.size + 2), 3, none⟩ (.int .i64 z2.hi)) := butx
  (try refine ⟨⟨HA, HB, bw⟩, ?_⟩)
  refine eag_nil ?_
  go_wp2
  refine bodyPost_ret (run_results1 rfl rfl (by (show Hd _ ((w.heap.size + 2)) 25 #[.int .i64 z1.lo, .int .i64 z1.hi, .int .i64 z2.lo, .int .i64 z2.hi]); exact hdx) Try.underlying25 rfl (by kernel_rfl)) rfl ⟨⟨z1, z2⟩, e2, rfl, En.Rc.ok_mk ok1 ok2, qq1.out.bind (qq2.out.bind (En.Stk.pure _ _)), by exact hdx, by exact butx⟩

theorem rsub_any (x y : En.Rc) (hx : x.ok = true) (hy : y.ok = true) (e0 : Int) (g : Nat) (w : World) (HG : Hd w g 83 #[.int .i64 e0]) :
    Calls Try.prog 73 #[ptr g, rcV x, rcV y] w (PostR (En.minus x y) g e0 w) := by
  have hlt := HG.lt
  have bw := But.refl g w
  obtain ⟨xr, xi⟩ := En.Rc.fit_of_ok hx
  obtain ⟨yr, yi⟩ := En.Rc.fit_of_ok hy
  obtain ⟨hcG, hfG⟩ := HG.facts
  go_enter Try.func73, Try.ntmps73
  go_wp2_with fail
  replace HG : Hd ((((w.alloc (.cells #[.int .i64 x.re.lo, .int .i64 x.re.hi, .int .i64 x.im.lo, .int .i64 x.im.hi] 25)).alloc (.cells #[.int .i64 y.re.lo, .int .i64 y.re.hi, .int .i64 y.im.lo, .int .i64 y.im.hi] 25)).alloc (.cells #[.int .i64 0, .int .i64 0, .int .i64 0, .int .i64 0] 25)).drew) g 83 #[.int .i64 e0] := hdx
  have HA : Hd ((((w.alloc (.cells #[.int .i64 x.re.lo, .int .i64 x.re.hi, .int .i64 x.im.lo, .int .i64 x.im.hi] 25)).alloc (.cells #[.int .i64 y.re.lo, .int .i64 y.re.hi, .int .i64 y.im.lo, .int .i64 y.im.hi] 25)).alloc (.cells #[.int .i64 0, .int .i64 0, .int .i64 0, .int .i64 0] 25)).drew) w.heap.size 25 #[.int .i64 x.re.lo, .int .i64 x.re.hi, .int .i64 x.im.lo, .int .i64 x.im.hi] := hdx
  have HB : Hd ((((w.alloc (.cells #[.int .i64 x.re.lo, .int .i64 x.re.hi, .int .i64 x.im.lo, .int .i64 x.im.hi] 25)).alloc (.cells #[.int .i64 y.re.lo, .int .i64 y.re.hi, .int .i64 y.im.lo, .int .i64 y.im.hi] 25)).alloc (.cells #[.int .i64 0, .int .i64 0, .int .i64 0, .int .i64 0] 25)).drew) (w.heap.size + 1) 25 #[.int .i64 y.re.lo, .int .i64 y.re.hi, .int .i64 y.im.lo, .int .i64 y.im.hi] := hdx
  have HO : Hd ((((w.alloc (.cells #[.int .i64 x.re.lo, .int .i64 x.re.hi, .int .i64 x.im.lo, .int .i64 x.im.hi] 25)).alloc (.cells #[.int .i64 y.re.lo, .int .i64 y.re.hi, .int .i64 y.im.lo, .int .i64 y.im.hi] 25)).alloc (.cells #[.int .i64 0, .int .i64 0, .int .i64 0, .int .i64 0] 25)).drew) (w.heap.size + 2) 25 #[.int .i64 0, .int .i64 0, .int .i64 0, .int .i64 0] := hdx
  replace bw : But g w ((((w.alloc (.cells #[.int .i64 x.re.lo, .int .i64 x.re.hi, .int .i64 x.im.lo, .int .i64 x.im.hi] 25)).alloc (.cells #[.int .i64 y.re.lo, .int .i64 y.re.hi, .int .i64 y.im.lo, .int .i64 y.im.hi] 25)).alloc (.cells #[.int .i64 0, .int .i64 0, .int .i64 0, .int .i64 0] 25)).drew) := butx
  (refine wp_region_eag (fun w' => Hd w' w.heap.size 25 #[.int .i64 x.re.lo, .int .i64 x.re.hi, .int .i64 x.im.lo, .int .i64 x.im.hi] ∧ Hd w' (w.heap.size + 1) 25 #[.int .i64 y.re.lo, .int .i64 y.re.hi, .int .i64 y.im.lo, .int .i64 y.im.hi] ∧ But g w w') [(0, true), (1, true), (2, true), (3, true), (4, true), (6, true), (7, true), (8, true), (9, true), (10, true), (5, false), (11, false), (12, true), (13, false)] (by kernel_rfl) (by kernel_rfl) (fun c d v a w h => by cases d <;> exact h) ⟨HA, HB, bw⟩ ?_; simp only [List.map_cons, List.map_nil, List.getD_cons_zero, List.getD_cons_succ, flMark, Nat.reduceEqDiff, ↓reduceIte])
  repeat ((first | with_reducible apply eag_move | with_reducible apply eag_assign | ((with_reducible refine eag_soft (v := ?_) (fun w' hw' => ?_) ?_); rotate_left 1; (focus (obtain ⟨hA, hB, hBw⟩ := hw'; obtain ⟨hcA, hfA⟩ := hA.facts; obtain ⟨hcB, hfB⟩ := hB.facts; go_simp; (try with_reducible rfl); done)))); simp only [Act.put, Act.eval, qs])
  refine eag_hard ?_
  go_wp2_with fail
  refine (wless_any x.re y.re xr yr e0 g _ HG).mono ?_
  rintro e w1 ⟨z1, e1, rfl, ok1, zz1, qq1, HG1, hb1⟩
  replace bw : But g w w1 := bw.trans hb1
  replace HA := HA.but hb1 (by omega)
  replace HB := HB.but hb1 (by omega)
  replace HO := HO.but hb1 (by omega)
  replace HG := HG1
  clear HG1
  replace qq1 := Lib.hid qq1
  replace zz1 := Lib.hid zz1
  have lw1 : w.heap.size ≤ w1.heap.size := bw.size
  clear hb1
  go_wp2_with fail
  (try refine ⟨⟨HA, HB, bw⟩, ?_⟩)
  repeat ((first | with_reducible apply eag_move | with_reducible apply eag_assign | ((with_reducible refine eag_soft (v := ?_) (fun w' hw' => ?_) ?_); rotate_left 1; (focus (obtain ⟨hA, hB, hBw⟩ := hw'; obtain ⟨hcA, hfA⟩ := hA.facts; obtain ⟨hcB, hfB⟩ := hB.facts; go_simp; (try with_reducible rfl); done)))); simp only [Act.put, Act.eval, qs])
  refine eag_hard ?_
  go_wp2_with fail
  refine (wless_any x.im y.im xi yi e1 g _ HG).mono ?_
  rintro e w2 ⟨z2, e2, rfl, ok2, zz2, qq2, HG2, hb2⟩
  replace bw : But g w w2 := bw.trans hb2
  replace HA := HA.but hb2 (by omega)
  replace HB := HB.but hb2 (by omega)
  replace HO := HO.but hb2 (by omega)
  replace HG := HG2
  clear HG2
  replace qq2 := Lib.hid qq2
  replace zz2 := Lib.hid zz2
  have lw2 : w.heap.size ≤ w2.heap.size := bw.size
  clear hb2
  go_wp2_with fail
  (try refine ⟨⟨HA, HB, bw⟩, ?_⟩)
  repeat ((first | with_reducible apply eag_move | with_reducible apply eag_assign | ((with_reducible refine eag_soft (v := ?_) (fun w' hw' => ?_) ?_); rotate_left 1; (focus (obtain ⟨hA, hB, hBw⟩ := hw'; obtain ⟨hcA, hfA⟩ := hA.facts; obtain ⟨hcB, hfB⟩ := hB.facts; go_simp; (try with_reducible rfl); done)))); simp only [Act.put, Act.eval, qs])
  obtain ⟨hcO, hfO⟩ := HO.facts
  refine eag_hard ?_
  go_wp2_with fail
  replace HG : Hd ((((w2.setCell ⟨(w.heap.size + 2), 0, none⟩ (.int .i64 z1.lo)).setCell ⟨(w.heap.size + 2), 1, none⟩ (.int .i64 z1.hi)).setCell ⟨(w.heap.size + 2), 2, none⟩ (.int .i64 z2.lo)).setCell ⟨(w.heap.size + 2), 3, none⟩ (.int .i64 z2.hi)) g 83 #[.int .i64 e2] := hdx
  replace HA : Hd ((((w2.setCell ⟨(w.heap.size + 2), 0, none⟩ (.int .i64 z1.lo)).setCell ⟨(w.heap.size + 2), 1, none⟩ (.int .i64 z1.hi)).setCell ⟨(w.heap.size + 2), 2, none⟩ (.int .i64 z2.lo)).setCell ⟨(w.heap.size + 2), 3, none⟩ (.int .i64 z2.hi)) w.heap.size 25 #[.int .i64 x.re.lo, .int .i64 x.re.hi, .int .i64 x.im.lo, .int .i64 x.im.hi] := hdx
  replace HB : Hd ((((w2.setCell ⟨(w.heap.size + 2), 0, none⟩ (.int .i64 z1.lo)).setCell ⟨(w.heap.size + 2), 1, none⟩ (.int .i64 z1.hi)).setCell ⟨(w.heap.size + 2), 2, none⟩ (.int .i64 z2.lo)).setCell ⟨(w.heap.size + 2), 3, none⟩ (.int .i64 z2.hi)) (w.heap.size + 1) 25 #[.int .i64 y.re.lo, .int .i64 y.re.hi, .int .i64 y.im.lo, .int .i64 y.im.hi] := hdx
  replace HO : Hd ((((w2.setCell ⟨(w.heap.size + 2), 0, none⟩ (.int .i64 z1.lo)).setCell ⟨(w.heap.size + 2), 1, none⟩ (.int .i64 z1.hi)).setCell ⟨(w.heap.size + 2), 2, none⟩ (.int .i64 z2.lo)).setCell ⟨(w.heap.size + 2), 3, none⟩ (.int .i64 z2.hi)) (w.heap.size + 2) 25 #[.int .i64 z1.lo, .int .i64 z1.hi, .int .i64 z2.lo, .int .i64 z2.hi] := hdx
  replace bw : But g w ((((w2.setCell ⟨(w.heap.size + 2), 0, none⟩ (.int .i64 z1.lo)).setCell ⟨(w.heap.size + 2), 1, none⟩ (.int .i64 z1.hi)).setCell ⟨(w.heap.size + 2), 2, none⟩ (.int .i64 z2.lo)).setCell ⟨(w.heap.size + 2), 3, none⟩ (.int .i64 z2.hi)) := butx
  (try refine ⟨⟨HA, HB, bw⟩, ?_⟩)
  refine eag_nil ?_
  go_wp2
  refine bodyPost_ret (run_results1 rfl rfl (by (show Hd _ ((w.heap.size + 2)) 25 #[.int .i64 z1.lo, .int .i64 z1.hi, .int .i64 z2.lo, .int .i64 z2.hi]); exact hdx) Try.underlying25 rfl (by kernel_rfl)) rfl ⟨⟨z1, z2⟩, e2, rfl, En.Rc.ok_mk ok1 ok2, qq1.out.bind (qq2.out.bind (En.Stk.pure _ _)), by exact hdx, by exact butx⟩

theorem rboth_any (x y : En.Rc) (w : World) : Calls Try.prog 70 #[rcV x, rcV y] w fun e w' => e = .returned (.bool (x.ok && y.ok)) ∧ Below w.heap.size w w' := by
  have CX := rvalidRect_any x
  have CY := rvalidRect_any y
  obtain ⟨ox, hox⟩ : ∃ o, x.ok = o := ⟨_, rfl⟩
  obtain ⟨oy, hoy⟩ : ∃ o, y.ok = o := ⟨_, rfl⟩
  rw [hox] at CX
  rw [hoy] at CY
  rw [hox, hoy]
  clear hox hoy
  replace CX := Lib.hid CX
  replace CY := Lib.hid CY
  go_enter Try.func70, Try.ntmps70
  go_wp2_with fail
  have HA : Hd ((w.alloc (.cells #[.int .i64 x.re.lo, .int .i64 x.re.hi, .int .i64 x.im.lo, .int .i64 x.im.hi] 25)).alloc (.cells #[.int .i64 y.re.lo, .int .i64 y.re.hi, .int .i64 y.im.lo, .int .i64 y.im.hi] 25)) w.heap.size 25 #[.int .i64 x.re.lo, .int .i64 x.re.hi, .int .i64 x.im.lo, .int .i64 x.im.hi] := hdx
  have HB : Hd ((w.alloc (.cells #[.int .i64 x.re.lo, .int .i64 x.re.hi, .int .i64 x.im.lo, .int .i64 x.im.hi] 25)).alloc (.cells #[.int .i64 y.re.lo, .int .i64 y.re.hi, .int .i64 y.im.lo, .int .i64 y.im.hi] 25)) (w.heap.size + 1) 25 #[.int .i64 y.re.lo, .int .i64 y.re.hi, .int .i64 y.im.lo, .int .i64 y.im.hi] := hdx
  have bw : Below w.heap.size w ((w.alloc (.cells #[.int .i64 x.re.lo, .int .i64 x.re.hi, .int .i64 x.im.lo, .int .i64 x.im.hi] 25)).alloc (.cells #[.int .i64 y.re.lo, .int .i64 y.re.hi, .int .i64 y.im.lo, .int .i64 y.im.hi] 25)) := by go_grown
  refine (CX.out _).mono ?_
  rintro e w1 ⟨rfl, hb1⟩
  replace bw : Below w.heap.size w w1 := below_next bw hb1
  replace HA := HA.call hb1
  replace HB := HB.call hb1
  have lw1 : w.heap.size ≤ w1.heap.size := bw.size
  clear hb1
  obtain ⟨hcA, hfA⟩ := HA.facts
  obtain ⟨hcB, hfB⟩ := HB.facts
  cases ox
  · go_wp2_with fail
    go_ret
    exact ⟨rfl, by go_grown⟩
  · go_wp2_with fail
    refine (CY.out _).mono ?_
    rintro e w2 ⟨rfl, hb2⟩
    replace bw : Below w.heap.size w w2 := below_next bw hb2
    replace HA := HA.call hb2
    replace HB := HB.call hb2
    have lw2 : w.heap.size ≤ w2.heap.size := bw.size
    clear hb2
    obtain ⟨hcA, hfA⟩ := HA.facts
    obtain ⟨hcB, hfB⟩ := HB.facts
    cases oy
    all_goals
      go_wp2_with fail
      go_ret
      exact ⟨rfl, by go_grown⟩

set_option maxHeartbeats 2000000 in
theorem rdone_any (x : En.Rc) (e0 : Int) (g : Nat) (w : World) (HG : Hd w g 83 #[.int .i64 e0]) :
    Calls Try.prog 67 #[ptr g, rcV x] w fun e w' => e = .returned (rcE (if e0 = 0 then (x, 0) else (⟨⟨0, 0⟩, ⟨0, 0⟩⟩, e0))) ∧ Below w.heap.size w w' := by
  have hlt := HG.lt
  by_cases h0 : e0 = 0
  · rw [if_pos h0]
    subst h0
    obtain ⟨hcG, hfG⟩ := HG.facts
    go_enter Try.func67, Try.ntmps67
    go_wp2
    refine bodyPost_ret (run_results2 rfl rfl (by (show Hd _ (w.heap.size + 1) 25 #[.int .i64 x.re.lo, .int .i64 x.re.hi, .int .i64 x.im.lo, .int .i64 x.im.hi]); exact hdx) Try.underlying25 rfl (by kernel_rfl)) rfl ⟨rfl, by go_grown⟩
  · rw [if_neg h0]
    obtain ⟨hcG, hfG⟩ := HG.facts
    go_enter Try.func67, Try.ntmps67
    go_upto_region 2 with fail
    replace HG : Hd (((w.alloc (.cells #[.int .i64 x.re.lo, .int .i64 x.re.hi, .int .i64 x.im.lo, .int .i64 x.im.hi] 25)).alloc (.cells #[.int .i64 0, .int .i64 0, .int .i64 0, .int .i64 0] 25)).drew) g 83 #[.int .i64 e0] := hdx
    have HA : Hd (((w.alloc (.cells #[.int .i64 x.re.lo, .int .i64 x.re.hi, .int .i64 x.im.lo, .int .i64 x.im.hi] 25)).alloc (.cells #[.int .i64 0, .int .i64 0, .int .i64 0, .int .i64 0] 25)).drew) w.heap.size 25 #[.int .i64 x.re.lo, .int .i64 x.re.hi, .int .i64 x.im.lo, .int .i64 x.im.hi] := hdx
    have HO : Hd (((w.alloc (.cells #[.int .i64 x.re.lo, .int .i64 x.re.hi, .int .i64 x.im.lo, .int .i64 x.im.hi] 25)).alloc (.cells #[.int .i64 0, .int .i64 0, .int .i64 0, .int .i64 0] 25)).drew) (w.heap.size + 1) 25 #[.int .i64 0, .int .i64 0, .int .i64 0, .int .i64 0] := hdx
    have bw : Below w.heap.size w (((w.alloc (.cells #[.int .i64 x.re.lo, .int .i64 x.re.hi, .int .i64 x.im.lo, .int .i64 x.im.hi] 25)).alloc (.cells #[.int .i64 0, .int .i64 0, .int .i64 0, .int .i64 0] 25)).drew) := by go_grown
    (refine wp_region_eag (fun w' => Hd w' g 83 #[.int .i64 e0] ∧ Below w.heap.size w w') [(0, true), (1, true), (2, true), (3, true), (4, true), (5, false), (6, true)] (by kernel_rfl) (by kernel_rfl) (fun c d v a w h => by cases d <;> exact h) ⟨HG, bw⟩ ?_; simp only [List.map_cons, List.map_nil, List.getD_cons_zero, List.getD_cons_succ, flMark, Nat.reduceEqDiff, ↓reduceIte])
    repeat ((first | with_reducible apply eag_move | with_reducible apply eag_assign | ((with_reducible refine eag_soft (v := ?_) (fun w' hw' => ?_) ?_); rotate_left 1; (focus (obtain ⟨hG, hBw⟩ := hw'; obtain ⟨hcG, hfG⟩ := hG.facts; go_simp; (try with_reducible rfl); done)))); simp only [Act.put, Act.eval, qs])
    generalize hW : ((w.alloc (.cells #[.int .i64 x.re.lo, .int .i64 x.re.hi, .int .i64 x.im.lo, .int .i64 x.im.hi] 25)).alloc (.cells #[.int .i64 0, .int .i64 0, .int .i64 0, .int .i64 0] 25)).drew = w1 at HG HA HO bw ⊢
    clear hW
    have lw1 : w.heap.size ≤ w1.heap.size := bw.size
    obtain ⟨hcO, hfO⟩ := HO.facts
    refine eag_hard ?_
    go_wp2_with fail
    replace HG : Hd ((((w1.setCell ⟨(w.heap.size + 1), 0, none⟩ (.int .i64 0)).setCell ⟨(w.heap.size + 1), 1, none⟩ (.int .i64 0)).setCell ⟨(w.heap.size + 1), 2, none⟩ (.int .i64 0)).setCell ⟨(w.heap.size + 1), 3, none⟩ (.int .i64 0)) g 83 #[.int .i64 e0] := hdx
    replace HA : Hd ((((w1.setCell ⟨(w.heap.size + 1), 0, none⟩ (.int .i64 0)).setCell ⟨(w.heap.size + 1), 1, none⟩ (.int .i64 0)).setCell ⟨(w.heap.size + 1), 2, none⟩ (.int .i64 0)).setCell ⟨(w.heap.size + 1), 3, none⟩ (.int .i64 0)) w.heap.size 25 #[.int .i64 x.re.lo, .int .i64 x.re.hi, .int .i64 x.im.lo, .int .i64 x.im.hi] := hdx
    replace HO : Hd ((((w1.setCell ⟨(w.heap.size + 1), 0, none⟩ (.int .i64 0)).setCell ⟨(w.heap.size + 1), 1, none⟩ (.int .i64 0)).setCell ⟨(w.heap.size + 1), 2, none⟩ (.int .i64 0)).setCell ⟨(w.heap.size + 1), 3, none⟩ (.int .i64 0)) (w.heap.size + 1) 25 #[.int .i64 0, .int .i64 0, .int .i64 0, .int .i64 0] := hdx
    replace bw : Below w.heap.size w ((((w1.setCell ⟨(w.heap.size + 1), 0, none⟩ (.int .i64 0)).setCell ⟨(w.heap.size + 1), 1, none⟩ (.int .i64 0)).setCell ⟨(w.heap.size + 1), 2, none⟩ (.int .i64 0)).setCell ⟨(w.heap.size + 1), 3, none⟩ (.int .i64 0)) := by go_grown
    (try refine ⟨⟨HG, bw⟩, ?_⟩)
    repeat ((first | with_reducible apply eag_move | with_reducible apply eag_assign | ((with_reducible refine eag_soft (v := ?_) (fun w' hw' => ?_) ?_); rotate_left 1; (focus (obtain ⟨hG, hBw⟩ := hw'; obtain ⟨hcG, hfG⟩ := hG.facts; go_simp; (try with_reducible rfl); done)))); simp only [Act.put, Act.eval, qs])
    refine eag_nil ?_
    go_wp2
    refine bodyPost_ret (run_results2 rfl rfl (by (show Hd _ (w.heap.size + 1) 25 #[.int .i64 0, .int .i64 0, .int .i64 0, .int .i64 0]); exact hdx) Try.underlying25 rfl (by kernel_rfl)) rfl ⟨rfl, by go_grown⟩

theorem rtwo_add (x y : En.Rc) (w : World) :
    Calls Try.prog 22 #[rcV x, rcV y] w fun e w' => e = .returned (rcE (twoR En.plus x y)) ∧ Below w.heap.size w w' := by
  have CV := rboth_any x y
  cases hv : (x.ok && y.ok) with
  | false =>
    have ht : twoR En.plus x y = (⟨⟨0, 0⟩, ⟨0, 0⟩⟩, 50) := by unfold twoR; rw [hv]; rfl
    rw [hv] at CV
    rw [ht]
    replace CV := Lib.hid CV
    clear hv ht
    go_enter Try.func22, Try.ntmps22
    go_wp2_with fail
    have HA : Hd (((w.alloc (.cells #[.int .i64 x.re.lo, .int .i64 x.re.hi, .int .i64 x.im.lo, .int .i64 x.im.hi] 25)).alloc (.cells #[.int .i64 y.re.lo, .int .i64 y.re.hi, .int .i64 y.im.lo, .int .i64 y.im.hi] 25)).alloc (.cells #[.int .i64 0, .int .i64 0, .int .i64 0, .int .i64 0] 25)) w.heap.size 25 #[.int .i64 x.re.lo, .int .i64 x.re.hi, .int .i64 x.im.lo, .int .i64 x.im.hi] := hdx
    have HB : Hd (((w.alloc (.cells #[.int .i64 x.re.lo, .int .i64 x.re.hi, .int .i64 x.im.lo, .int .i64 x.im.hi] 25)).alloc (.cells #[.int .i64 y.re.lo, .int .i64 y.re.hi, .int .i64 y.im.lo, .int .i64 y.im.hi] 25)).alloc (.cells #[.int .i64 0, .int .i64 0, .int .i64 0, .int .i64 0] 25)) (w.heap.size + 1) 25 #[.int .i64 y.re.lo, .int .i64 y.re.hi, .int .i64 y.im.lo, .int .i64 y.im.hi] := hdx
    have HO : Hd (((w.alloc (.cells #[.int .i64 x.re.lo, .int .i64 x.re.hi, .int .i64 x.im.lo, .int .i64 x.im.hi] 25)).alloc (.cells #[.int .i64 y.re.lo, .int .i64 y.re.hi, .int .i64 y.im.lo, .int .i64 y.im.hi] 25)).alloc (.cells #[.int .i64 0, .int .i64 0, .int .i64 0, .int .i64 0] 25)) (w.heap.size + 2) 25 #[.int .i64 0, .int .i64 0, .int .i64 0, .int .i64 0] := hdx
    have bw : Below w.heap.size w (((w.alloc (.cells #[.int .i64 x.re.lo, .int .i64 x.re.hi, .int .i64 x.im.lo, .int .i64 x.im.hi] 25)).alloc (.cells #[.int .i64 y.re.lo, .int .i64 y.re.hi, .int .i64 y.im.lo, .int .i64 y.im.hi] 25)).alloc (.cells #[.int .i64 0, .int .i64 0, .int .i64 0, .int .i64 0] 25)) := by go_grown
    refine (CV.out _).mono ?_
    rintro e w1 ⟨rfl, hb1⟩
    replace bw : Below w.heap.size w w1 := below_next bw hb1
    replace HA := HA.call hb1
    replace HB := HB.call hb1
    replace HO := HO.call hb1
    have lw1 : w.heap.size ≤ w1.heap.size := bw.size
    clear hb1
    obtain ⟨hcA, hfA⟩ := HA.facts
    obtain ⟨hcB, hfB⟩ := HB.facts
    obtain ⟨hcO, hfO⟩ := HO.facts
    go_wp2
    refine bodyPost_ret (run_results2 rfl rfl (by (show Hd _ (w.heap.size + 2) 25 #[.int .i64 0, .int .i64 0, .int .i64 0, .int .i64 0]); exact hdx) Try.underlying25 rfl (by kernel_rfl)) rfl ⟨rfl, by go_grown⟩
  | true =>
    have ht : twoR En.plus x y = outR (En.plus x y) := by unfold twoR; rw [hv]; rfl
    rw [hv] at CV
    rw [ht]
    replace CV := Lib.hid CV
    have hop' := Lib.hid (radd_any x y (by cases h : x.ok <;> simp_all) (by cases h : y.ok <;> simp_all))
    clear hv ht
    go_enter Try.func22, Try.ntmps22
    go_wp2_with fail
    have HA : Hd (((w.alloc (.cells #[.int .i64 x.re.lo, .int .i64 x.re.hi, .int .i64 x.im.lo, .int .i64 x.im.hi] 25)).alloc (.cells #[.int .i64 y.re.lo, .int .i64 y.re.hi, .int .i64 y.im.lo, .int .i64 y.im.hi] 25)).alloc (.cells #[.int .i64 0, .int .i64 0, .int .i64 0, .int .i64 0] 25)) w.heap.size 25 #[.int .i64 x.re.lo, .int .i64 x.re.hi, .int .i64 x.im.lo, .int .i64 x.im.hi] := hdx
    have HB : Hd (((w.alloc (.cells #[.int .i64 x.re.lo, .int .i64 x.re.hi, .int .i64 x.im.lo, .int .i64 x.im.hi] 25)).alloc (.cells #[.int .i64 y.re.lo, .int .i64 y.re.hi, .int .i64 y.im.lo, .int .i64 y.im.hi] 25)).alloc (.cells #[.int .i64 0, .int .i64 0, .int .i64 0, .int .i64 0] 25)) (w.heap.size + 1) 25 #[.int .i64 y.re.lo, .int .i64 y.re.hi, .int .i64 y.im.lo, .int .i64 y.im.hi] := hdx
    have HO : Hd (((w.alloc (.cells #[.int .i64 x.re.lo, .int .i64 x.re.hi, .int .i64 x.im.lo, .int .i64 x.im.hi] 25)).alloc (.cells #[.int .i64 y.re.lo, .int .i64 y.re.hi, .int .i64 y.im.lo, .int .i64 y.im.hi] 25)).alloc (.cells #[.int .i64 0, .int .i64 0, .int .i64 0, .int .i64 0] 25)) (w.heap.size + 2) 25 #[.int .i64 0, .int .i64 0, .int .i64 0, .int .i64 0] := hdx
    have bw : Below w.heap.size w (((w.alloc (.cells #[.int .i64 x.re.lo, .int .i64 x.re.hi, .int .i64 x.im.lo, .int .i64 x.im.hi] 25)).alloc (.cells #[.int .i64 y.re.lo, .int .i64 y.re.hi, .int .i64 y.im.lo, .int .i64 y.im.hi] 25)).alloc (.cells #[.int .i64 0, .int .i64 0, .int .i64 0, .int .i64 0] 25)) := by go_grown
    refine (CV.out _).mono ?_
    rintro e w1 ⟨rfl, hb1⟩
    replace bw : Below w.heap.size w w1 := below_next bw hb1
    replace HA := HA.call hb1
    replace HB := HB.call hb1
    replace HO := HO.call hb1
    have lw1 : w.heap.size ≤ w1.heap.size := bw.size
    clear hb1
    obtain ⟨hcA, hfA⟩ := HA.facts
    obtain ⟨hcB, hfB⟩ := HB.facts
    obtain ⟨hcO, hfO⟩ := HO.facts
    have ltA := HA.lt
    have ltB := HB.lt
    have ltO := HO.lt
    go_wp2_with fail
    replace HA : Hd (w1.alloc (.cells #[.int .i64 0] 83)) w.heap.size 25 #[.int .i64 x.re.lo, .int .i64 x.re.hi, .int .i64 x.im.lo, .int .i64 x.im.hi] := hdx
    replace HB : Hd (w1.alloc (.cells #[.int .i64 0] 83)) (w.heap.size + 1) 25 #[.int .i64 y.re.lo, .int .i64 y.re.hi, .int .i64 y.im.lo, .int .i64 y.im.hi] := hdx
    replace HO : Hd (w1.alloc (.cells #[.int .i64 0] 83)) (w.heap.size + 2) 25 #[.int .i64 0, .int .i64 0, .int .i64 0, .int .i64 0] := hdx
    replace bw : Below w.heap.size w (w1.alloc (.cells #[.int .i64 0] 83)) := by go_grown
    have HG : Hd (w1.alloc (.cells #[.int .i64 0] 83)) w1.heap.size 83 #[.int .i64 0] := hdx
    refine (hop'.out 0 _ _ HG).mono ?_
    rintro e w2 ⟨z, e1, rfl, okz, qq, HG2, hb2⟩
    replace qq := Lib.hid qq
    replace bw : Below w.heap.size w w2 := But.far bw hb2 (by omega) (by simp only [World.size_alloc]; omega)
    replace HA := HA.but hb2 (by omega)
    replace HB := HB.but hb2 (by omega)
    replace HO := HO.but hb2 (by omega)
    have ltG := HG2.lt
    have lw2 : w.heap.size ≤ w2.heap.size := bw.size
    clear hb2 HG
    have HG := HG2
    clear HG2
    obtain ⟨hcA, hfA⟩ := HA.facts
    obtain ⟨hcB, hfB⟩ := HB.facts
    obtain ⟨hcO, hfO⟩ := HO.facts
    obtain ⟨hcG, hfG⟩ := HG.facts
    have ltA2 := HA.lt
    have ltB2 := HB.lt
    have ltO2 := HO.lt
    go_wp2_with fail
    replace HA : Hd (w2.alloc (.cells #[.int .i64 z.re.lo, .int .i64 z.re.hi, .int .i64 z.im.lo, .int .i64 z.im.hi] 25)) w.heap.size 25 #[.int .i64 x.re.lo, .int .i64 x.re.hi, .int .i64 x.im.lo, .int .i64 x.im.hi] := hdx
    replace HB : Hd (w2.alloc (.cells #[.int .i64 z.re.lo, .int .i64 z.re.hi, .int .i64 z.im.lo, .int .i64 z.im.hi] 25)) (w.heap.size + 1) 25 #[.int .i64 y.re.lo, .int .i64 y.re.hi, .int .i64 y.im.lo, .int .i64 y.im.hi] := hdx
    replace HO : Hd (w2.alloc (.cells #[.int .i64 z.re.lo, .int .i64 z.re.hi, .int .i64 z.im.lo, .int .i64 z.im.hi] 25)) (w.heap.size + 2) 25 #[.int .i64 0, .int .i64 0, .int .i64 0, .int .i64 0] := hdx
    replace HG : Hd (w2.alloc (.cells #[.int .i64 z.re.lo, .int .i64 z.re.hi, .int .i64 z.im.lo, .int .i64 z.im.hi] 25)) w1.heap.size 83 #[.int .i64 e1] := hdx
    replace bw : Below w.heap.size w (w2.alloc (.cells #[.int .i64 z.re.lo, .int .i64 z.re.hi, .int .i64 z.im.lo, .int .i64 z.im.hi] 25)) := by go_grown
    have HZ : Hd (w2.alloc (.cells #[.int .i64 z.re.lo, .int .i64 z.re.hi, .int .i64 z.im.lo, .int .i64 z.im.hi] 25)) w2.heap.size 25 #[.int .i64 z.re.lo, .int .i64 z.re.hi, .int .i64 z.im.lo, .int .i64 z.im.hi] := hdx
    refine (rdone_any z e1 _ _ HG).mono ?_
    rintro e w3 ⟨rfl, hb3⟩
    replace bw : Below w.heap.size w w3 := below_next bw hb3
    replace HA := HA.call hb3
    replace HB := HB.call hb3
    replace HO := HO.call hb3
    replace HG := HG.call hb3
    replace HZ := HZ.call hb3
    have lw3 : w.heap.size ≤ w3.heap.size := bw.size
    clear hb3
    obtain ⟨hcO, hfO⟩ := HO.facts
    rcases qq.out.zero with ⟨hr, rfl⟩ | ⟨hr, hne⟩
    · rw [if_pos rfl]
      go_wp2
      refine bodyPost_ret (run_results2 rfl rfl (by (show Hd _ (w.heap.size + 2) 25 #[.int .i64 z.re.lo, .int .i64 z.re.hi, .int .i64 z.im.lo, .int .i64 z.im.hi]); exact hdx) Try.underlying25 rfl (by kernel_rfl)) rfl ⟨by rw [hr]; rfl, by go_grown⟩
    · rw [if_neg hne]
      go_wp2
      refine bodyPost_ret (run_results2 rfl rfl (by (show Hd _ (w.heap.size + 2) 25 #[.int .i64 0, .int .i64 0, .int .i64 0, .int .i64 0]); exact hdx) Try.underlying25 rfl (by kernel_rfl)) rfl ⟨by rw [hr]; rfl, by go_grown⟩

theorem rtwo_sub (x y : En.Rc) (w : World) :
    Calls Try.prog 24 #[rcV x, rcV y] w fun e w' => e = .returned (rcE (twoR En.minus x y)) ∧ Below w.heap.size w w' := by
  have CV := rboth_any x y
  cases hv : (x.ok && y.ok) with
  | false =>
    have ht : twoR En.minus x y = (⟨⟨0, 0⟩, ⟨0, 0⟩⟩, 50) := by unfold twoR; rw [hv]; rfl
    rw [hv] at CV
    rw [ht]
    replace CV := Lib.hid CV
    clear hv ht
    go_enter Try.func24, Try.ntmps24
    go_wp2_with fail
    have HA : Hd (((w.alloc (.cells #[.int .i64 x.re.lo, .int .i64 x.re.hi, .int .i64 x.im.lo, .int .i64 x.im.hi] 25)).alloc (.cells #[.int .i64 y.re.lo, .int .i64 y.re.hi, .int .i64 y.im.lo, .int .i64 y.im.hi] 25)).alloc (.cells #[.int .i64 0, .int .i64 0, .int .i64 0, .int .i64 0] 25)) w.heap.size 25 #[.int .i64 x.re.lo, .int .i64 x.re.hi, .int .i64 x.im.lo, .int .i64 x.im.hi] := hdx
    have HB : Hd (((w.alloc (.cells #[.int .i64 x.re.lo, .int .i64 x.re.hi, .int .i64 x.im.lo, .int .i64 x.im.hi] 25)).alloc (.cells #[.int .i64 y.re.lo, .int .i64 y.re.hi, .int .i64 y.im.lo, .int .i64 y.im.hi] 25)).alloc (.cells #[.int .i64 0, .int .i64 0, .int .i64 0, .int .i64 0] 25)) (w.heap.size + 1) 25 #[.int .i64 y.re.lo, .int .i64 y.re.hi, .int .i64 y.im.lo, .int .i64 y.im.hi] := hdx
    have HO : Hd (((w.alloc (.cells #[.int .i64 x.re.lo, .int .i64 x.re.hi, .int .i64 x.im.lo, .int .i64 x.im.hi] 25)).alloc (.cells #[.int .i64 y.re.lo, .int .i64 y.re.hi, .int .i64 y.im.lo, .int .i64 y.im.hi] 25)).alloc (.cells #[.int .i64 0, .int .i64 0, .int .i64 0, .int .i64 0] 25)) (w.heap.size + 2) 25 #[.int .i64 0, .int .i64 0, .int .i64 0, .int .i64 0] := hdx
    have bw : Below w.heap.size w (((w.alloc (.cells #[.int .i64 x.re.lo, .int .i64 x.re.hi, .int .i64 x.im.lo, .int .i64 x.im.hi] 25)).alloc (.cells #[.int .i64 y.re.lo, .int .i64 y.re.hi, .int .i64 y.im.lo, .int .i64 y.im.hi] 25)).alloc (.cells #[.int .i64 0, .int .i64 0, .int .i64 0, .int .i64 0] 25)) := by go_grown
    refine (CV.out _).mono ?_
    rintro e w1 ⟨rfl, hb1⟩
    replace bw : Below w.heap.size w w1 := below_next bw hb1
    replace HA := HA.call hb1
    replace HB := HB.call hb1
    replace HO := HO.call hb1
    have lw1 : w.heap.size ≤ w1.heap.size := bw.size
    clear hb1
    obtain ⟨hcA, hfA⟩ := HA.facts
    obtain ⟨hcB, hfB⟩ := HB.facts
    obtain ⟨hcO, hfO⟩ := HO.facts
    go_wp2
    refine bodyPost_ret (run_results2 rfl rfl (by (show Hd _ (w.heap.size + 2) 25 #[.int .i64 0, .int .i64 0, .int .i64 0, .int .i64 0]); exact hdx) Try.underlying25 rfl (by kernel_rfl)) rfl ⟨rfl, by go_grown⟩
  | true =>
    have ht : twoR En.minus x y = outR (En.minus x y) := by unfold twoR; rw [hv]; rfl
    rw [hv] at CV
    rw [ht]
    replace CV := Lib.hid CV
    have hop' := Lib.hid (rsub_any x y (by cases h : x.ok <;> simp_all) (by cases h : y.ok <;> simp_all))
    clear hv ht
    go_enter Try.func24, Try.ntmps24
    go_wp2_with fail
    have HA : Hd (((w.alloc (.cells #[.int .i64 x.re.lo, .int .i64 x.re.hi, .int .i64 x.im.lo, .int .i64 x.im.hi] 25)).alloc (.cells #[.int .i64 y.re.lo, .int .i64 y.re.hi, .int .i64 y.im.lo, .int .i64 y.im.hi] 25)).alloc (.cells #[.int .i64 0, .int .i64 0, .int .i64 0, .int .i64 0] 25)) w.heap.size 25 #[.int .i64 x.re.lo, .int .i64 x.re.hi, .int .i64 x.im.lo, .int .i64 x.im.hi] := hdx
    have HB : Hd (((w.alloc (.cells #[.int .i64 x.re.lo, .int .i64 x.re.hi, .int .i64 x.im.lo, .int .i64 x.im.hi] 25)).alloc (.cells #[.int .i64 y.re.lo, .int .i64 y.re.hi, .int .i64 y.im.lo, .int .i64 y.im.hi] 25)).alloc (.cells #[.int .i64 0, .int .i64 0, .int .i64 0, .int .i64 0] 25)) (w.heap.size + 1) 25 #[.int .i64 y.re.lo, .int .i64 y.re.hi, .int .i64 y.im.lo, .int .i64 y.im.hi] := hdx
    have HO : Hd (((w.alloc (.cells #[.int .i64 x.re.lo, .int .i64 x.re.hi, .int .i64 x.im.lo, .int .i64 x.im.hi] 25)).alloc (.cells #[.int .i64 y.re.lo, .int .i64 y.re.hi, .int .i64 y.im.lo, .int .i64 y.im.hi] 25)).alloc (.cells #[.int .i64 0, .int .i64 0, .int .i64 0, .int .i64 0] 25)) (w.heap.size + 2) 25 #[.int .i64 0, .int .i64 0, .int .i64 0, .int .i64 0] := hdx
    have bw : Below w.heap.size w (((w.alloc (.cells #[.int .i64 x.re.lo, .int .i64 x.re.hi, .int .i64 x.im.lo, .int .i64 x.im.hi] 25)).alloc (.cells #[.int .i64 y.re.lo, .int .i64 y.re.hi, .int .i64 y.im.lo, .int .i64 y.im.hi] 25)).alloc (.cells #[.int .i64 0, .int .i64 0, .int .i64 0, .int .i64 0] 25)) := by go_grown
    refine (CV.out _).mono ?_
    rintro e w1 ⟨rfl, hb1⟩
    replace bw : Below w.heap.size w w1 := below_next bw hb1
    replace HA := HA.call hb1
    replace HB := HB.call hb1
    replace HO := HO.call hb1
    have lw1 : w.heap.size ≤ w1.heap.size := bw.size
    clear hb1
    obtain ⟨hcA, hfA⟩ := HA.facts
    obtain ⟨hcB, hfB⟩ := HB.facts
    obtain ⟨hcO, hfO⟩ := HO.facts
    have ltA := HA.lt
    have ltB := HB.lt
    have ltO := HO.lt
    go_wp2_with fail
    replace HA : Hd (w1.alloc (.cells #[.int .i64 0] 83)) w.heap.size 25 #[.int .i64 x.re.lo, .int .i64 x.re.hi, .int .i64 x.im.lo, .int .i64 x.im.hi] := hdx
    replace HB : Hd (w1.alloc (.cells #[.int .i64 0] 83)) (w.heap.size + 1) 25 #[.int .i64 y.re.lo, .int .i64 y.re.hi, .int .i64 y.im.lo, .int .i64 y.im.hi] := hdx
    replace HO : Hd (w1.alloc (.cells #[.int .i64 0] 83)) (w.heap.size + 2) 25 #[.int .i64 0, .int .i64 0, .int .i64 0, .int .i64 0] := hdx
    replace bw : Below w.heap.size w (w1.alloc (.cells #[.int .i64 0] 83)) := by go_grown
    have HG : Hd (w1.alloc (.cells #[.int .i64 0] 83)) w1.heap.size 83 #[.int .i64 0] := hdx
    refine (hop'.out 0 _ _ HG).mono ?_
    rintro e w2 ⟨z, e1, rfl, okz, qq, HG2, hb2⟩
    replace qq := Lib.hid qq
    replace bw : Below w.heap.size w w2 := But.far bw hb2 (by omega) (by simp only [World.size_alloc]; omega)
    replace HA := HA.but hb2 (by omega)
    replace HB := HB.but hb2 (by omega)
    replace HO := HO.but hb2 (by omega)
    have ltG := HG2.lt
    have lw2 : w.heap.size ≤ w2.heap.size := bw.size
    clear hb2 HG
    have HG := HG2
    clear HG2
    obtain ⟨hcA, hfA⟩ := HA.facts
    obtain ⟨hcB, hfB⟩ := HB.facts
    obtain ⟨hcO, hfO⟩ := HO.facts
    obtain ⟨hcG, hfG⟩ := HG.facts
    have ltA2 := HA.lt
    have ltB2 := HB.lt
    have ltO2 := HO.lt
    go_wp2_with fail
    replace HA : Hd (w2.alloc (.cells #[.int .i64 z.re.lo, .int .i64 z.re.hi, .int .i64 z.im.lo, .int .i64 z.im.hi] 25)) w.heap.size 25 #[.int .i64 x.re.lo, .int .i64 x.re.hi, .int .i64 x.im.lo, .int .i64 x.im.hi] := hdx
    replace HB : Hd (w2.alloc (.cells #[.int .i64 z.re.lo, .int .i64 z.re.hi, .int .i64 z.im.lo, .int .i64 z.im.hi] 25)) (w.heap.size + 1) 25 #[.int .i64 y.re.lo, .int .i64 y.re.hi, .int .i64 y.im.lo, .int .i64 y.im.hi] := hdx
    replace HO : Hd (w2.alloc (.cells #[.int .i64 z.re.lo, .int .i64 z.re.hi, .int .i64 z.im.lo, .int .i64 z.im.hi] 25)) (w.heap.size + 2) 25 #[.int .i64 0, .int .i64 0, .int .i64 0, .int .i64 0] := hdx
    replace HG : Hd (w2.alloc (.cells #[.int .i64 z.re.lo, .int .i64 z.re.hi, .int .i64 z.im.lo, .int .i64 z.im.hi] 25)) w1.heap.size 83 #[.int .i64 e1] := hdx
    replace bw : Below w.heap.size w (w2.alloc (.cells #[.int .i64 z.re.lo, .int .i64 z.re.hi, .int .i64 z.im.lo, .int .i64 z.im.hi] 25)) := by go_grown
    have HZ : Hd (w2.alloc (.cells #[.int .i64 z.re.lo, .int .i64 z.re.hi, .int .i64 z.im.lo, .int .i64 z.im.hi] 25)) w2.heap.size 25 #[.int .i64 z.re.lo, .int .i64 z.re.hi, .int .i64 z.im.lo, .int .i64 z.im.hi] := hdx
    refine (rdone_any z e1 _ _ HG).mono ?_
    rintro e w3 ⟨rfl, hb3⟩
    replace bw : Below w.heap.size w w3 := below_next bw hb3
    replace HA := HA.call hb3
    replace HB := HB.call hb3
    replace HO := HO.call hb3
    replace HG := HG.call hb3
    replace HZ := HZ.call hb3
    have lw3 : w.heap.size ≤ w3.heap.size := bw.size
    clear hb3
    obtain ⟨hcO, hfO⟩ := HO.facts
    rcases qq.out.zero with ⟨hr, rfl⟩ | ⟨hr, hne⟩
    · rw [if_pos rfl]
      go_wp2
      refine bodyPost_ret (run_results2 rfl rfl (by (show Hd _ (w.heap.size + 2) 25 #[.int .i64 z.re.lo, .int .i64 z.re.hi, .int .i64 z.im.lo, .int .i64 z.im.hi]); exact hdx) Try.underlying25 rfl (by kernel_rfl)) rfl ⟨by rw [hr]; rfl, by go_grown⟩
    · rw [if_neg hne]
      go_wp2
      refine bodyPost_ret (run_results2 rfl rfl (by (show Hd _ (w.heap.size + 2) 25 #[.int .i64 0, .int .i64 0, .int .i64 0, .int .i64 0]); exact hdx) Try.underlying25 rfl (by kernel_rfl)) rfl ⟨by rw [hr]; rfl, by go_grown⟩
end Go.Proofs.Ytpbbbfglecbceaa
/- The document's product of rectangles. -/
namespace Go.Proofs.Ytpbbbfglecbceaa
set_option linter.all false
open Go.RowKit

set_option maxHeartbeats 4000000 in
theorem rmul_any (x y : En.Rc) (hx : x.ok = true) (hy : y.ok = true) (e0 : Int) (g : Nat) (w : World) (HG : Hd w g 83 #[.int .i64 e0]) :
    Calls Try.prog 65 #[ptr g, rcV x, rcV y] w (PostR (En.times x y) g e0 w) := by
  have hlt := HG.lt
  have bw := But.refl g w
  obtain ⟨xr, xi⟩ := En.Rc.fit_of_ok hx
  obtain ⟨yr, yi⟩ := En.Rc.fit_of_ok hy
  obtain ⟨hcG, hfG⟩ := HG.facts
  go_enter Try.func65, Try.ntmps65
  go_upto_region 1 with fail
  replace HG : Hd (((w.alloc (.cells #[.int .i64 x.re.lo, .int .i64 x.re.hi, .int .i64 x.im.lo, .int .i64 x.im.hi] 25)).alloc (.cells #[.int .i64 y.re.lo, .int .i64 y.re.hi, .int .i64 y.im.lo, .int .i64 y.im.hi] 25)).alloc (.cells #[.int .i64 0, .int .i64 0, .int .i64 0, .int .i64 0] 25)) g 83 #[.int .i64 e0] := hdx
  have HA : Hd (((w.alloc (.cells #[.int .i64 x.re.lo, .int .i64 x.re.hi, .int .i64 x.im.lo, .int .i64 x.im.hi] 25)).alloc (.cells #[.int .i64 y.re.lo, .int .i64 y.re.hi, .int .i64 y.im.lo, .int .i64 y.im.hi] 25)).alloc (.cells #[.int .i64 0, .int .i64 0, .int .i64 0, .int .i64 0] 25)) w.heap.size 25 #[.int .i64 x.re.lo, .int .i64 x.re.hi, .int .i64 x.im.lo, .int .i64 x.im.hi] := hdx
  have HB : Hd (((w.alloc (.cells #[.int .i64 x.re.lo, .int .i64 x.re.hi, .int .i64 x.im.lo, .int .i64 x.im.hi] 25)).alloc (.cells #[.int .i64 y.re.lo, .int .i64 y.re.hi, .int .i64 y.im.lo, .int .i64 y.im.hi] 25)).alloc (.cells #[.int .i64 0, .int .i64 0, .int .i64 0, .int .i64 0] 25)) (w.heap.size + 1) 25 #[.int .i64 y.re.lo, .int .i64 y.re.hi, .int .i64 y.im.lo, .int .i64 y.im.hi] := hdx
  have HO : Hd (((w.alloc (.cells #[.int .i64 x.re.lo, .int .i64 x.re.hi, .int .i64 x.im.lo, .int .i64 x.im.hi] 25)).alloc (.cells #[.int .i64 y.re.lo, .int .i64 y.re.hi, .int .i64 y.im.lo, .int .i64 y.im.hi] 25)).alloc (.cells #[.int .i64 0, .int .i64 0, .int .i64 0, .int .i64 0] 25)) (w.heap.size + 2) 25 #[.int .i64 0, .int .i64 0, .int .i64 0, .int .i64 0] := hdx
  replace bw : But g w (((w.alloc (.cells #[.int .i64 x.re.lo, .int .i64 x.re.hi, .int .i64 x.im.lo, .int .i64 x.im.hi] 25)).alloc (.cells #[.int .i64 y.re.lo, .int .i64 y.re.hi, .int .i64 y.im.lo, .int .i64 y.im.hi] 25)).alloc (.cells #[.int .i64 0, .int .i64 0, .int .i64 0, .int .i64 0] 25)) := butx
  go_cut [7] from 8 to 21 (fun c wx => ∃ (gr : Nat) (z1 z2 z3 : En.Sp) (e1 e2 e3 : Int), c = .pointer (some ⟨gr, 0, none⟩) ∧ w.heap.size + 2 < gr ∧ z3.ok = true ∧ RowKit.Hid (En.Stk (En.mul x.re y.re) e0 z1 e1) ∧ RowKit.Hid (En.Stk (En.mul x.im y.im) e1 z2 e2) ∧ RowKit.Hid (En.Stk (En.sub z1 z2) e2 z3 e3) ∧ Hd wx g 83 #[.int .i64 e3] ∧ Hd wx w.heap.size 25 #[.int .i64 x.re.lo, .int .i64 x.re.hi, .int .i64 x.im.lo, .int .i64 x.im.hi] ∧ Hd wx (w.heap.size + 1) 25 #[.int .i64 y.re.lo, .int .i64 y.re.hi, .int .i64 y.im.lo, .int .i64 y.im.hi] ∧ Hd wx (w.heap.size + 2) 25 #[.int .i64 0, .int .i64 0, .int .i64 0, .int .i64 0] ∧ Hd wx gr 23 #[.int .i64 z3.lo, .int .i64 z3.hi] ∧ But g w wx)
  case rest =>
    clear HG HA HB HO bw
    obtain ⟨gr, z1, z2, z3, e1, e2, e3, rfl, hgr, ok3, qq1, qq2, qq3, HG, HA, HB, HO, HR, bw⟩ := hcut
    have lwc : w.heap.size ≤ wc.heap.size := bw.size
    go_upto_region 2 with fail
    replace HG : Hd (wc.drew) g 83 #[.int .i64 e3] := hdx
    replace HA : Hd (wc.drew) w.heap.size 25 #[.int .i64 x.re.lo, .int .i64 x.re.hi, .int .i64 x.im.lo, .int .i64 x.im.hi] := hdx
    replace HB : Hd (wc.drew) (w.heap.size + 1) 25 #[.int .i64 y.re.lo, .int .i64 y.re.hi, .int .i64 y.im.lo, .int .i64 y.im.hi] := hdx
    replace HO : Hd (wc.drew) (w.heap.size + 2) 25 #[.int .i64 0, .int .i64 0, .int .i64 0, .int .i64 0] := hdx
    replace HR : Hd (wc.drew) gr 23 #[.int .i64 z3.lo, .int .i64 z3.hi] := hdx
    replace bw : But g w (wc.drew) := butx
    (refine wp_region_eag (fun w' => Hd w' w.heap.size 25 #[.int .i64 x.re.lo, .int .i64 x.re.hi, .int .i64 x.im.lo, .int .i64 x.im.hi] ∧ Hd w' (w.heap.size + 1) 25 #[.int .i64 y.re.lo, .int .i64 y.re.hi, .int .i64 y.im.lo, .int .i64 y.im.hi] ∧ Hd w' gr 23 #[.int .i64 z3.lo, .int .i64 z3.hi] ∧ But g w w') [(0, true), (1, true), (2, true), (3, true), (4, true), (5, true), (6, true), (8, true), (9, true), (10, true), (11, true), (12, true), (7, false), (13, false), (14, false), (15, true), (16, false)] (by kernel_rfl) (by kernel_rfl) (fun c d v a w h => by cases d <;> exact h) ⟨HA, HB, HR, bw⟩ ?_; simp only [List.map_cons, List.map_nil, List.getD_cons_zero, List.getD_cons_succ, flMark, Nat.reduceEqDiff, ↓reduceIte])
    repeat ((first | with_reducible apply eag_move | with_reducible apply eag_assign | ((with_reducible refine eag_soft (v := ?_) (fun w' hw' => ?_) ?_); rotate_left 1; (focus (obtain ⟨hA, hB, hR, hBw⟩ := hw'; obtain ⟨hcA, hfA⟩ := hA.facts; obtain ⟨hcB, hfB⟩ := hB.facts; obtain ⟨hcR, hfR⟩ := hR.facts; go_simp; (try with_reducible rfl); done)))); simp only [Act.put, Act.eval, qs])
    refine eag_hard ?_
    go_wp2_with fail
    refine (wtimes_any x.re y.im xr yi e3 g _ HG).mono ?_
    rintro e w4 ⟨z4, e4, rfl, ok4, zz4, qq4, HG4, hb4⟩
    replace bw : But g w w4 := bw.trans hb4
    replace HA := HA.but hb4 (by omega)
    replace HB := HB.but hb4 (by omega)
    replace HO := HO.but hb4 (by omega)
    replace HR := HR.but hb4 (by omega)
    replace HG := HG4
    clear HG4
    replace qq4 := Lib.hid qq4
    replace zz4 := Lib.hid zz4
    have lw4 : w.heap.size ≤ w4.heap.size := bw.size
    clear hb4
    go_wp2_with fail
    (try refine ⟨⟨HA, HB, HR, bw⟩, ?_⟩)
    repeat ((first | with_reducible apply eag_move | with_reducible apply eag_assign | ((with_reducible refine eag_soft (v := ?_) (fun w' hw' => ?_) ?_); rotate_left 1; (focus (obtain ⟨hA, hB, hR, hBw⟩ := hw'; obtain ⟨hcA, hfA⟩ := hA.facts; obtain ⟨hcB, hfB⟩ := hB.facts; obtain ⟨hcR, hfR⟩ := hR.facts; go_simp; (try with_reducible rfl); done)))); simp only [Act.put, Act.eval, qs])
    refine eag_hard ?_
    go_wp2_with fail
    refine (wtimes_any x.im y.re xi yr e4 g _ HG).mono ?_
    rintro e w5 ⟨z5, e5, rfl, ok5, zz5, qq5, HG5, hb5⟩
    replace bw : But g w w5 := bw.trans hb5
    replace HA := HA.but hb5 (by omega)
    replace HB := HB.but hb5 (by omega)
    replace HO := HO.but hb5 (by omega)
    replace HR := HR.but hb5 (by omega)
    replace HG := HG5
    clear HG5
    replace qq5 := Lib.hid qq5
    replace zz5 := Lib.hid zz5
    have lw5 : w.heap.size ≤ w5.heap.size := bw.size
    clear hb5
    go_wp2_with fail
    (try refine ⟨⟨HA, HB, HR, bw⟩, ?_⟩)
    repeat ((first | with_reducible apply eag_move | with_reducible apply eag_assign | ((with_reducible refine eag_soft (v := ?_) (fun w' hw' => ?_) ?_); rotate_left 1; (focus (obtain ⟨hA, hB, hR, hBw⟩ := hw'; obtain ⟨hcA, hfA⟩ := hA.facts; obtain ⟨hcB, hfB⟩ := hB.facts; obtain ⟨hcR, hfR⟩ := hR.facts; go_simp; (try with_reducible rfl); done)))); simp only [Act.put, Act.eval, qs])
    refine eag_hard ?_
    go_wp2_with fail
    refine (wsum_any z4 z5 (En.Sp.fit_of_ok ok4) (En.Sp.fit_of_ok ok5) e5 g _ HG).mono ?_
    rintro e w6 ⟨z6, e6, rfl, ok6, zz6, qq6, HG6, hb6⟩
    replace bw : But g w w6 := bw.trans hb6
    replace HA := HA.but hb6 (by omega)
    replace HB := HB.but hb6 (by omega)
    replace HO := HO.but hb6 (by omega)
    replace HR := HR.but hb6 (by omega)
    replace HG := HG6
    clear HG6
    replace qq6 := Lib.hid qq6
    replace zz6 := Lib.hid zz6
    have lw6 : w.heap.size ≤ w6.heap.size := bw.size
    clear hb6
    go_wp2_with fail
    (try refine ⟨⟨HA, HB, HR, bw⟩, ?_⟩)
    repeat ((first | with_reducible apply eag_move | with_reducible apply eag_assign | ((with_reducible refine eag_soft (v := ?_) (fun w' hw' => ?_) ?_); rotate_left 1; (focus (obtain ⟨hA, hB, hR, hBw⟩ := hw'; obtain ⟨hcA, hfA⟩ := hA.facts; obtain ⟨hcB, hfB⟩ := hB.facts; obtain ⟨hcR, hfR⟩ := hR.facts; go_simp; (try with_reducible rfl); done)))); simp only [Act.put, Act.eval, qs])
    obtain ⟨hcO, hfO⟩ := HO.facts
    refine eag_hard ?_
    go_wp2_with fail
    replace HG : Hd ((((w6.setCell ⟨(w.heap.size + 2), 0, none⟩ (.int .i64 z3.lo)).setCell ⟨(w.heap.size + 2), 1, none⟩ (.int .i64 z3.hi)).setCell ⟨(w.heap.size + 2), 2, none⟩ (.int .i64 z6.lo)).setCell ⟨(w.heap.size + 2), 3, none⟩ (.int .i64 z6.hi)) g 83 #[.int .i64 e6] := hdx
    replace HA : Hd ((((w6.setCell ⟨(w.heap.size + 2), 0, none⟩ (.int .i64 z3.lo)).setCell ⟨(w.heap.size + 2), 1, none⟩ (.int .i64 z3.hi)).setCell ⟨(w.heap.size + 2), 2, none⟩ (.int .i64 z6.lo)).setCell ⟨(w.heap.size + 2), 3, none⟩ (.int .i64 z6.hi)) w.heap.size 25 #[.int .i64 x.re.lo, .int .i64 x.re.hi, .int .i64 x.im.lo, .int .i64 x.im.hi] := hdx
    replace HB : Hd ((((w6.setCell ⟨(w.heap.size + 2), 0, none⟩ (.int .i64 z3.lo)).setCell ⟨(w.heap.size + 2), 1, none⟩ (.int .i64 z3.hi)).setCell ⟨(w.heap.size + 2), 2, none⟩ (.int .i64 z6.lo)).setCell ⟨(w.heap.size + 2), 3, none⟩ (.int .i64 z6.hi)) (w.heap.size + 1) 25 #[.int .i64 y.re.lo, .int .i64 y.re.hi, .int .i64 y.im.lo, .int .i64 y.im.hi] := hdx
    replace HO : Hd ((((w6.setCell ⟨(w.heap.size + 2), 0, none⟩ (.int .i64 z3.lo)).setCell ⟨(w.heap.size + 2), 1, none⟩ (.int .i64 z3.hi)).setCell ⟨(w.heap.size + 2), 2, none⟩ (.int .i64 z6.lo)).setCell ⟨(w.heap.size + 2), 3, none⟩ (.int .i64 z6.hi)) (w.heap.size + 2) 25 #[.int .i64 z3.lo, .int .i64 z3.hi, .int .i64 z6.lo, .int .i64 z6.hi] := hdx
    replace HR : Hd ((((w6.setCell ⟨(w.heap.size + 2), 0, none⟩ (.int .i64 z3.lo)).setCell ⟨(w.heap.size + 2), 1, none⟩ (.int .i64 z3.hi)).setCell ⟨(w.heap.size + 2), 2, none⟩ (.int .i64 z6.lo)).setCell ⟨(w.heap.size + 2), 3, none⟩ (.int .i64 z6.hi)) gr 23 #[.int .i64 z3.lo, .int .i64 z3.hi] := hdx
    replace bw : But g w ((((w6.setCell ⟨(w.heap.size + 2), 0, none⟩ (.int .i64 z3.lo)).setCell ⟨(w.heap.size + 2), 1, none⟩ (.int .i64 z3.hi)).setCell ⟨(w.heap.size + 2), 2, none⟩ (.int .i64 z6.lo)).setCell ⟨(w.heap.size + 2), 3, none⟩ (.int .i64 z6.hi)) := butx
    (try refine ⟨⟨HA, HB, HR, bw⟩, ?_⟩)
    refine eag_nil ?_
    go_wp2
    refine bodyPost_ret (run_results1 rfl rfl (by (show Hd _ (w.heap.size + 2) 25 #[.int .i64 z3.lo, .int .i64 z3.hi, .int .i64 z6.lo, .int .i64 z6.hi]); exact hdx) Try.underlying25 rfl (by kernel_rfl)) rfl ⟨⟨z3, z6⟩, e6, rfl, En.Rc.ok_mk ok3 ok6, qq1.out.bind (qq2.out.bind (qq3.out.bind (qq4.out.bind (qq5.out.bind (qq6.out.bind (En.Stk.pure _ _)))))), by exact hdx, by exact butx⟩
  case first =>
    replace HG : Hd ((((w.alloc (.cells #[.int .i64 x.re.lo, .int .i64 x.re.hi, .int .i64 x.im.lo, .int .i64 x.im.hi] 25)).alloc (.cells #[.int .i64 y.re.lo, .int .i64 y.re.hi, .int .i64 y.im.lo, .int .i64 y.im.hi] 25)).alloc (.cells #[.int .i64 0, .int .i64 0, .int .i64 0, .int .i64 0] 25)).drew) g 83 #[.int .i64 e0] := hdx
    replace HA : Hd ((((w.alloc (.cells #[.int .i64 x.re.lo, .int .i64 x.re.hi, .int .i64 x.im.lo, .int .i64 x.im.hi] 25)).alloc (.cells #[.int .i64 y.re.lo, .int .i64 y.re.hi, .int .i64 y.im.lo, .int .i64 y.im.hi] 25)).alloc (.cells #[.int .i64 0, .int .i64 0, .int .i64 0, .int .i64 0] 25)).drew) w.heap.size 25 #[.int .i64 x.re.lo, .int .i64 x.re.hi, .int .i64 x.im.lo, .int .i64 x.im.hi] := hdx
    replace HB : Hd ((((w.alloc (.cells #[.int .i64 x.re.lo, .int .i64 x.re.hi, .int .i64 x.im.lo, .int .i64 x.im.hi] 25)).alloc (.cells #[.int .i64 y.re.lo, .int .i64 y.re.hi, .int .i64 y.im.lo, .int .i64 y.im.hi] 25)).alloc (.cells #[.int .i64 0, .int .i64 0, .int .i64 0, .int .i64 0] 25)).drew) (w.heap.size + 1) 25 #[.int .i64 y.re.lo, .int .i64 y.re.hi, .int .i64 y.im.lo, .int .i64 y.im.hi] := hdx
    replace HO : Hd ((((w.alloc (.cells #[.int .i64 x.re.lo, .int .i64 x.re.hi, .int .i64 x.im.lo, .int .i64 x.im.hi] 25)).alloc (.cells #[.int .i64 y.re.lo, .int .i64 y.re.hi, .int .i64 y.im.lo, .int .i64 y.im.hi] 25)).alloc (.cells #[.int .i64 0, .int .i64 0, .int .i64 0, .int .i64 0] 25)).drew) (w.heap.size + 2) 25 #[.int .i64 0, .int .i64 0, .int .i64 0, .int .i64 0] := hdx
    replace bw : But g w ((((w.alloc (.cells #[.int .i64 x.re.lo, .int .i64 x.re.hi, .int .i64 x.im.lo, .int .i64 x.im.hi] 25)).alloc (.cells #[.int .i64 y.re.lo, .int .i64 y.re.hi, .int .i64 y.im.lo, .int .i64 y.im.hi] 25)).alloc (.cells #[.int .i64 0, .int .i64 0, .int .i64 0, .int .i64 0] 25)).drew) := butx
    (refine wp_region_fl (fun w' => Hd w' w.heap.size 25 #[.int .i64 x.re.lo, .int .i64 x.re.hi, .int .i64 x.im.lo, .int .i64 x.im.hi] ∧ Hd w' (w.heap.size + 1) 25 #[.int .i64 y.re.lo, .int .i64 y.re.hi, .int .i64 y.im.lo, .int .i64 y.im.hi] ∧ But g w w') 14 [(0, 0), (1, 0), (2, 0), (3, 0), (4, 0), (5, 0), (7, 0), (8, 0), (9, 0), (10, 0), (11, 0), (6, 2), (12, 2), (13, 2), (14, 1), (15, 1)] (by kernel_rfl) (by kernel_rfl) (fun c d v a w h => by cases d <;> exact h) ⟨HA, HB, bw⟩ ?_; simp only [List.map_cons, List.map_nil, List.getD_cons_zero, List.getD_cons_succ, flMark, Nat.reduceEqDiff, ↓reduceIte])
    generalize hW : (((w.alloc (.cells #[.int .i64 x.re.lo, .int .i64 x.re.hi, .int .i64 x.im.lo, .int .i64 x.im.hi] 25)).alloc (.cells #[.int .i64 y.re.lo, .int .i64 y.re.hi, .int .i64 y.im.lo, .int .i64 y.im.hi] 25)).alloc (.cells #[.int .i64 0, .int .i64 0, .int .i64 0, .int .i64 0] 25)).drew = w1 at HG HA HB HO bw ⊢
    clear hW
    have lw1 : w.heap.size ≤ w1.heap.size := bw.size
    repeat ((first | with_reducible apply fl_move | with_reducible apply fl_assign | ((with_reducible refine fl_soft (v := ?_) (fun w' hw' => ?_) ?_); rotate_left 1; (focus (obtain ⟨hA, hB, hBw⟩ := hw'; obtain ⟨hcA, hfA⟩ := hA.facts; obtain ⟨hcB, hfB⟩ := hB.facts; go_simp; (try with_reducible rfl); done)))); simp only [Act.put, Act.eval, qs])
    refine fl_both ?_ ?_
    · go_wp2_with fail
      refine (wtimes_any x.re y.re xr yr e0 g _ HG).mono ?_
      rintro e w2 ⟨z2, e2, rfl, ok2, zz2, qq2, HG2, hb2⟩
      replace bw : But g w w2 := bw.trans hb2
      replace HA := HA.but hb2 (by omega)
      replace HB := HB.but hb2 (by omega)
      replace HO := HO.but hb2 (by omega)
      replace HG := HG2
      clear HG2
      replace qq2 := Lib.hid qq2
      replace zz2 := Lib.hid zz2
      have lw2 : w.heap.size ≤ w2.heap.size := bw.size
      clear hb2
      go_wp2_with fail
      (try refine ⟨⟨HA, HB, bw⟩, ?_⟩)
      repeat ((first | with_reducible apply fl_move | with_reducible apply fl_assign | ((with_reducible refine fl_soft (v := ?_) (fun w' hw' => ?_) ?_); rotate_left 1; (focus (obtain ⟨hA, hB, hBw⟩ := hw'; obtain ⟨hcA, hfA⟩ := hA.facts; obtain ⟨hcB, hfB⟩ := hB.facts; go_simp; (try with_reducible rfl); done)))); simp only [Act.put, Act.eval, qs])
      refine fl_both ?_ ?_
      · go_wp2_with fail
        refine (wtimes_any x.im y.im xi yi e2 g _ HG).mono ?_
        rintro e w3 ⟨z3, e3, rfl, ok3, zz3, qq3, HG3, hb3⟩
        replace bw : But g w w3 := bw.trans hb3
        replace HA := HA.but hb3 (by omega)
        replace HB := HB.but hb3 (by omega)
        replace HO := HO.but hb3 (by omega)
        replace HG := HG3
        clear HG3
        replace qq3 := Lib.hid qq3
        replace zz3 := Lib.hid zz3
        have lw3 : w.heap.size ≤ w3.heap.size := bw.size
        clear hb3
        go_wp2_with fail
        (try refine ⟨⟨HA, HB, bw⟩, ?_⟩)
        repeat ((first | with_reducible apply fl_move | with_reducible apply fl_assign | ((with_reducible refine fl_soft (v := ?_) (fun w' hw' => ?_) ?_); rotate_left 1; (focus (obtain ⟨hA, hB, hBw⟩ := hw'; obtain ⟨hcA, hfA⟩ := hA.facts; obtain ⟨hcB, hfB⟩ := hB.facts; go_simp; (try with_reducible rfl); done)))); simp only [Act.put, Act.eval, qs])
        refine fl_both ?_ ?_
        · go_wp2_with fail
          refine (wless_any z2 z3 (En.Sp.fit_of_ok ok2) (En.Sp.fit_of_ok ok3) e3 g _ HG).mono ?_
          rintro e w4 ⟨z4, e4, rfl, ok4, zz4, qq4, HG4, hb4⟩
          replace bw : But g w w4 := bw.trans hb4
          replace HA := HA.but hb4 (by omega)
          replace HB := HB.but hb4 (by omega)
          replace HO := HO.but hb4 (by omega)
          replace HG := HG4
          clear HG4
          replace qq4 := Lib.hid qq4
          replace zz4 := Lib.hid zz4
          have lw4 : w.heap.size ≤ w4.heap.size := bw.size
          clear hb4
          go_wp2_with fail
          (try refine ⟨⟨HA, HB, bw⟩, ?_⟩)
          repeat ((first | with_reducible apply fl_move | with_reducible apply fl_assign | ((with_reducible refine fl_soft (v := ?_) (fun w' hw' => ?_) ?_); rotate_left 1; (focus (obtain ⟨hA, hB, hBw⟩ := hw'; obtain ⟨hcA, hfA⟩ := hA.facts; obtain ⟨hcB, hfB⟩ := hB.facts; go_simp; (try with_reducible rfl); done)))); simp only [Act.put, Act.eval, qs])
          refine fl_must ?_
          go_wp2_with fail
          have PG := HG
          have PA := HA
          have PB := HB
          have PO := HO
          have Pbw := bw
          have ltGR : g < w4.heap.size := by (have := HG.lt; (try simp only [World.size_alloc, World.size_setCell, World.size_drew] at this); omega)
          have ltAR : w.heap.size < w4.heap.size := by (have := HA.lt; (try simp only [World.size_alloc, World.size_setCell, World.size_drew] at this); omega)
          have ltBR : (w.heap.size + 1) < w4.heap.size := by (have := HB.lt; (try simp only [World.size_alloc, World.size_setCell, World.size_drew] at this); omega)
          have ltOR : (w.heap.size + 2) < w4.heap.size := by (have := HO.lt; (try simp only [World.size_alloc, World.size_setCell, World.size_drew] at this); omega)
          replace HG : Hd (w4.alloc (.cells #[.int .i64 0, .int .i64 0] 23)) g 83 #[.int .i64 e4] := hdx
          replace HA : Hd (w4.alloc (.cells #[.int .i64 0, .int .i64 0] 23)) w.heap.size 25 #[.int .i64 x.re.lo, .int .i64 x.re.hi, .int .i64 x.im.lo, .int .i64 x.im.hi] := hdx
          replace HB : Hd (w4.alloc (.cells #[.int .i64 0, .int .i64 0] 23)) (w.heap.size + 1) 25 #[.int .i64 y.re.lo, .int .i64 y.re.hi, .int .i64 y.im.lo, .int .i64 y.im.hi] := hdx
          replace HO : Hd (w4.alloc (.cells #[.int .i64 0, .int .i64 0] 23)) (w.heap.size + 2) 25 #[.int .i64 0, .int .i64 0, .int .i64 0, .int .i64 0] := hdx
          replace bw : But g w (w4.alloc (.cells #[.int .i64 0, .int .i64 0] 23)) := butx
          have HR : Hd (w4.alloc (.cells #[.int .i64 0, .int .i64 0] 23)) w4.heap.size 23 #[.int .i64 0, .int .i64 0] := hdx
          (try refine ⟨⟨HA, HB, bw⟩, ?_⟩)
          repeat ((first | with_reducible apply fl_move | with_reducible apply fl_assign | ((with_reducible refine fl_soft (v := ?_) (fun w' hw' => ?_) ?_); rotate_left 1; (focus (obtain ⟨hA, hB, hBw⟩ := hw'; obtain ⟨hcA, hfA⟩ := hA.facts; obtain ⟨hcB, hfB⟩ := hB.facts; go_simp; (try with_reducible rfl); done)))); simp only [Act.put, Act.eval, qs])
          repeat ((first | with_reducible apply fl_move | with_reducible apply fl_assign | ((with_reducible refine fl_soft (v := ?_) (fun w' hw' => ?_) ?_); rotate_left 1; (focus (obtain ⟨hA, hB, hBw⟩ := hw'; obtain ⟨hcA, hfA⟩ := hA.facts; obtain ⟨hcB, hfB⟩ := hB.facts; go_simp; (try with_reducible rfl); done)))); simp only [Act.put, Act.eval, qs])
          refine fl_hard ?_
          obtain ⟨hcR, hfR⟩ := HR.facts
          go_wp2_with fail
          replace HG : Hd (w4.alloc (.cells #[.int .i64 z4.lo, .int .i64 z4.hi] 23)) g 83 #[.int .i64 e4] := hdx
          replace HA : Hd (w4.alloc (.cells #[.int .i64 z4.lo, .int .i64 z4.hi] 23)) w.heap.size 25 #[.int .i64 x.re.lo, .int .i64 x.re.hi, .int .i64 x.im.lo, .int .i64 x.im.hi] := hdx
          replace HB : Hd (w4.alloc (.cells #[.int .i64 z4.lo, .int .i64 z4.hi] 23)) (w.heap.size + 1) 25 #[.int .i64 y.re.lo, .int .i64 y.re.hi, .int .i64 y.im.lo, .int .i64 y.im.hi] := hdx
          replace HO : Hd (w4.alloc (.cells #[.int .i64 z4.lo, .int .i64 z4.hi] 23)) (w.heap.size + 2) 25 #[.int .i64 0, .int .i64 0, .int .i64 0, .int .i64 0] := hdx
          replace HR : Hd (w4.alloc (.cells #[.int .i64 z4.lo, .int .i64 z4.hi] 23)) w4.heap.size 23 #[.int .i64 z4.lo, .int .i64 z4.hi] := hdx
          replace bw : But g w (w4.alloc (.cells #[.int .i64 z4.lo, .int .i64 z4.hi] 23)) := butx
          (try refine ⟨⟨HA, HB, bw⟩, ?_⟩)
          repeat ((first | with_reducible apply fl_move | with_reducible apply fl_assign | ((with_reducible refine fl_soft (v := ?_) (fun w' hw' => ?_) ?_); rotate_left 1; (focus (obtain ⟨hA, hB, hBw⟩ := hw'; obtain ⟨hcA, hfA⟩ := hA.facts; obtain ⟨hcB, hfB⟩ := hB.facts; go_simp; (try with_reducible rfl); done)))); simp only [Act.put, Act.eval, qs])
          refine fl_nil ?_
          go_wp2_with fail
          go_meet
          exact ⟨w4.heap.size, z2, z3, z4, e2, e3, e4, rfl, by omega, ok4, qq2, qq3, qq4, HG, HA, HB, HO, HR, bw⟩
        · go_wp2_with fail
          have PG := HG
          have PA := HA
          have PB := HB
          have PO := HO
          have Pbw := bw
          have ltGR : g < w3.heap.size := by (have := HG.lt; (try simp only [World.size_alloc, World.size_setCell, World.size_drew] at this); omega)
          have ltAR : w.heap.size < w3.heap.size := by (have := HA.lt; (try simp only [World.size_alloc, World.size_setCell, World.size_drew] at this); omega)
          have ltBR : (w.heap.size + 1) < w3.heap.size := by (have := HB.lt; (try simp only [World.size_alloc, World.size_setCell, World.size_drew] at this); omega)
          have ltOR : (w.heap.size + 2) < w3.heap.size := by (have := HO.lt; (try simp only [World.size_alloc, World.size_setCell, World.size_drew] at this); omega)
          replace HG : Hd (w3.alloc (.cells #[.int .i64 0, .int .i64 0] 23)) g 83 #[.int .i64 e3] := hdx
          replace HA : Hd (w3.alloc (.cells #[.int .i64 0, .int .i64 0] 23)) w.heap.size 25 #[.int .i64 x.re.lo, .int .i64 x.re.hi, .int .i64 x.im.lo, .int .i64 x.im.hi] := hdx
          replace HB : Hd (w3.alloc (.cells #[.int .i64 0, .int .i64 0] 23)) (w.heap.size + 1) 25 #[.int .i64 y.re.lo, .int .i64 y.re.hi, .int .i64 y.im.lo, .int .i64 y.im.hi] := hdx
          replace HO : Hd (w3.alloc (.cells #[.int .i64 0, .int .i64 0] 23)) (w.heap.size + 2) 25 #[.int .i64 0, .int .i64 0, .int .i64 0, .int .i64 0] := hdx
          replace bw : But g w (w3.alloc (.cells #[.int .i64 0, .int .i64 0] 23)) := butx
          have HR : Hd (w3.alloc (.cells #[.int .i64 0, .int .i64 0] 23)) w3.heap.size 23 #[.int .i64 0, .int .i64 0] := hdx
          (try refine ⟨⟨HA, HB, bw⟩, ?_⟩)
          repeat ((first | with_reducible apply eag_move | with_reducible apply eag_assign | ((with_reducible refine eag_soft (v := ?_) (fun w' hw' => ?_) ?_); rotate_left 1; (focus (obtain ⟨hA, hB, hBw⟩ := hw'; obtain ⟨hcA, hfA⟩ := hA.facts; obtain ⟨hcB, hfB⟩ := hB.facts; go_simp; (try with_reducible rfl); done)))); simp only [Act.put, Act.eval, qs])
          repeat ((first | with_reducible apply eag_move | with_reducible apply eag_assign | ((with_reducible refine eag_soft (v := ?_) (fun w' hw' => ?_) ?_); rotate_left 1; (focus (obtain ⟨hA, hB, hBw⟩ := hw'; obtain ⟨hcA, hfA⟩ := hA.facts; obtain ⟨hcB, hfB⟩ := hB.facts; go_simp; (try with_reducible rfl); done)))); simp only [Act.put, Act.eval, qs])
          refine eag_hard ?_
          go_wp2_with fail
          refine (wless_any z2 z3 (En.Sp.fit_of_ok ok2) (En.Sp.fit_of_ok ok3) e3 g _ HG).mono ?_
          rintro e w4 ⟨z4, e4, rfl, ok4, zz4, qq4, HG4, hb4⟩
          replace bw : But g w w4 := bw.trans hb4
          replace HA := HA.but hb4 (by omega)
          replace HB := HB.but hb4 (by omega)
          replace HO := HO.but hb4 (by omega)
          replace HR := HR.but hb4 (by omega)
          replace HG := HG4
          clear HG4
          replace qq4 := Lib.hid qq4
          replace zz4 := Lib.hid zz4
          have lw4 : w.heap.size ≤ w4.heap.size := bw.size
          clear hb4
          go_wp2_with fail
          (try refine ⟨⟨HA, HB, bw⟩, ?_⟩)
          repeat ((first | with_reducible apply eag_move | with_reducible apply eag_assign | ((with_reducible refine eag_soft (v := ?_) (fun w' hw' => ?_) ?_); rotate_left 1; (focus (obtain ⟨hA, hB, hBw⟩ := hw'; obtain ⟨hcA, hfA⟩ := hA.facts; obtain ⟨hcB, hfB⟩ := hB.facts; go_simp; (try with_reducible rfl); done)))); simp only [Act.put, Act.eval, qs])
          refine eag_hard ?_
          obtain ⟨hcR, hfR⟩ := HR.facts
          go_wp2_with fail
          have PG := HG
          have PA := HA
          have PB := HB
          have PO := HO
          have PR := HR
          have Pbw := bw
          replace HG : Hd ((w4.setCell ⟨w3.heap.size, 0, none⟩ (.int .i64 z4.lo)).setCell ⟨w3.heap.size, 1, none⟩ (.int .i64 z4.hi)) g 83 #[.int .i64 e4] := hdx
          replace HA : Hd ((w4.setCell ⟨w3.heap.size, 0, none⟩ (.int .i64 z4.lo)).setCell ⟨w3.heap.size, 1, none⟩ (.int .i64 z4.hi)) w.heap.size 25 #[.int .i64 x.re.lo, .int .i64 x.re.hi, .int .i64 x.im.lo, .int .i64 x.im.hi] := hdx
          replace HB : Hd ((w4.setCell ⟨w3.heap.size, 0, none⟩ (.int .i64 z4.lo)).setCell ⟨w3.heap.size, 1, none⟩ (.int .i64 z4.hi)) (w.heap.size + 1) 25 #[.int .i64 y.re.lo, .int .i64 y.re.hi, .int .i64 y.im.lo, .int .i64 y.im.hi] := hdx
          replace HO : Hd ((w4.setCell ⟨w3.heap.size, 0, none⟩ (.int .i64 z4.lo)).setCell ⟨w3.heap.size, 1, none⟩ (.int .i64 z4.hi)) (w.heap.size + 2) 25 #[.int .i64 0, .int .i64 0, .int .i64 0, .int .i64 0] := hdx
          replace HR : Hd ((w4.setCell ⟨w3.heap.size, 0, none⟩ (.int .i64 z4.lo)).setCell ⟨w3.heap.size, 1, none⟩ (.int .i64 z4.hi)) w3.heap.size 23 #[.int .i64 z4.lo, .int .i64 z4.hi] := hdx
          replace bw : But g w ((w4.setCell ⟨w3.heap.size, 0, none⟩ (.int .i64 z4.lo)).setCell ⟨w3.heap.size, 1, none⟩ (.int .i64 z4.hi)) := butx
          (try refine ⟨⟨HA, HB, bw⟩, ?_⟩)
          repeat ((first | with_reducible apply eag_move | with_reducible apply eag_assign | ((with_reducible refine eag_soft (v := ?_) (fun w' hw' => ?_) ?_); rotate_left 1; (focus (obtain ⟨hA, hB, hBw⟩ := hw'; obtain ⟨hcA, hfA⟩ := hA.facts; obtain ⟨hcB, hfB⟩ := hB.facts; go_simp; (try with_reducible rfl); done)))); simp only [Act.put, Act.eval, qs])
          refine eag_nil ?_
          go_wp2_with fail
          go_meet
          exact ⟨w3.heap.size, z2, z3, z4, e2, e3, e4, rfl, by omega, ok4, qq2, qq3, qq4, HG, HA, HB, HO, HR, bw⟩
      · go_wp2_with fail
        have PG := HG
        have PA := HA
        have PB := HB
        have PO := HO
        have Pbw := bw
        have ltGR : g < w2.heap.size := by (have := HG.lt; (try simp only [World.size_alloc, World.size_setCell, World.size_drew] at this); omega)
        have ltAR : w.heap.size < w2.heap.size := by (have := HA.lt; (try simp only [World.size_alloc, World.size_setCell, World.size_drew] at this); omega)
        have ltBR : (w.heap.size + 1) < w2.heap.size := by (have := HB.lt; (try simp only [World.size_alloc, World.size_setCell, World.size_drew] at this); omega)
        have ltOR : (w.heap.size + 2) < w2.heap.size := by (have := HO.lt; (try simp only [World.size_alloc, World.size_setCell, World.size_drew] at this); omega)
        replace HG : Hd (w2.alloc (.cells #[.int .i64 0, .int .i64 0] 23)) g 83 #[.int .i64 e2] := hdx
        replace HA : Hd (w2.alloc (.cells #[.int .i64 0, .int .i64 0] 23)) w.heap.size 25 #[.int .i64 x.re.lo, .int .i64 x.re.hi, .int .i64 x.im.lo, .int .i64 x.im.hi] := hdx
        replace HB : Hd (w2.alloc (.cells #[.int .i64 0, .int .i64 0] 23)) (w.heap.size + 1) 25 #[.int .i64 y.re.lo, .int .i64 y.re.hi, .int .i64 y.im.lo, .int .i64 y.im.hi] := hdx
        replace HO : Hd (w2.alloc (.cells #[.int .i64 0, .int .i64 0] 23)) (w.heap.size + 2) 25 #[.int .i64 0, .int .i64 0, .int .i64 0, .int .i64 0] := hdx
        replace bw : But g w (w2.alloc (.cells #[.int .i64 0, .int .i64 0] 23)) := butx
        have HR : Hd (w2.alloc (.cells #[.int .i64 0, .int .i64 0] 23)) w2.heap.size 23 #[.int .i64 0, .int .i64 0] := hdx
        (try refine ⟨⟨HA, HB, bw⟩, ?_⟩)
        repeat ((first | with_reducible apply eag_move | with_reducible apply eag_assign | ((with_reducible refine eag_soft (v := ?_) (fun w' hw' => ?_) ?_); rotate_left 1; (focus (obtain ⟨hA, hB, hBw⟩ := hw'; obtain ⟨hcA, hfA⟩ := hA.facts; obtain ⟨hcB, hfB⟩ := hB.facts; go_simp; (try with_reducible rfl); done)))); simp only [Act.put, Act.eval, qs])
        repeat ((first | with_reducible apply eag_move | with_reducible apply eag_assign | ((with_reducible refine eag_soft (v := ?_) (fun w' hw' => ?_) ?_); rotate_left 1; (focus (obtain ⟨hA, hB, hBw⟩ := hw'; obtain ⟨hcA, hfA⟩ := hA.facts; obtain ⟨hcB, hfB⟩ := hB.facts; go_simp; (try with_reducible rfl); done)))); simp only [Act.put, Act.eval, qs])
        refine eag_hard ?_
        go_wp2_with fail
        refine (wtimes_any x.im y.im xi yi e2 g _ HG).mono ?_
        rintro e w3 ⟨z3, e3, rfl, ok3, zz3, qq3, HG3, hb3⟩
        replace bw : But g w w3 := bw.trans hb3
        replace HA := HA.but hb3 (by omega)
        replace HB := HB.but hb3 (by omega)
        replace HO := HO.but hb3 (by omega)
        replace HR := HR.but hb3 (by omega)
        replace HG := HG3
        clear HG3
        replace qq3 := Lib.hid qq3
        replace zz3 := Lib.hid zz3
        have lw3 : w.heap.size ≤ w3.heap.size := bw.size
        clear hb3
        go_wp2_with fail
        (try refine ⟨⟨HA, HB, bw⟩, ?_⟩)
        repeat ((first | with_reducible apply eag_move | with_reducible apply eag_assign | ((with_reducible refine eag_soft (v := ?_) (fun w' hw' => ?_) ?_); rotate_left 1; (focus (obtain ⟨hA, hB, hBw⟩ := hw'; obtain ⟨hcA, hfA⟩ := hA.facts; obtain ⟨hcB, hfB⟩ := hB.facts; go_simp; (try with_reducible rfl); done)))); simp only [Act.put, Act.eval, qs])
        refine eag_hard ?_
        go_wp2_with fail
        refine (wless_any z2 z3 (En.Sp.fit_of_ok ok2) (En.Sp.fit_of_ok ok3) e3 g _ HG).mono ?_
        rintro e w4 ⟨z4, e4, rfl, ok4, zz4, qq4, HG4, hb4⟩
        replace bw : But g w w4 := bw.trans hb4
        replace HA := HA.but hb4 (by omega)
        replace HB := HB.but hb4 (by omega)
        replace HO := HO.but hb4 (by omega)
        replace HR := HR.but hb4 (by omega)
        replace HG := HG4
        clear HG4
        replace qq4 := Lib.hid qq4
        replace zz4 := Lib.hid zz4
        have lw4 : w.heap.size ≤ w4.heap.size := bw.size
        clear hb4
        go_wp2_with fail
        (try refine ⟨⟨HA, HB, bw⟩, ?_⟩)
        repeat ((first | with_reducible apply eag_move | with_reducible apply eag_assign | ((with_reducible refine eag_soft (v := ?_) (fun w' hw' => ?_) ?_); rotate_left 1; (focus (obtain ⟨hA, hB, hBw⟩ := hw'; obtain ⟨hcA, hfA⟩ := hA.facts; obtain ⟨hcB, hfB⟩ := hB.facts; go_simp; (try with_reducible rfl); done)))); simp only [Act.put, Act.eval, qs])
        refine eag_hard ?_
        obtain ⟨hcR, hfR⟩ := HR.facts
        go_wp2_with fail
        have PG := HG
        have PA := HA
        have PB := HB
        have PO := HO
        have PR := HR
        have Pbw := bw
        replace HG : Hd ((w4.setCell ⟨w2.heap.size, 0, none⟩ (.int .i64 z4.lo)).setCell ⟨w2.heap.size, 1, none⟩ (.int .i64 z4.hi)) g 83 #[.int .i64 e4] := hdx
        replace HA : Hd ((w4.setCell ⟨w2.heap.size, 0, none⟩ (.int .i64 z4.lo)).setCell ⟨w2.heap.size, 1, none⟩ (.int .i64 z4.hi)) w.heap.size 25 #[.int .i64 x.re.lo, .int .i64 x.re.hi, .int .i64 x.im.lo, .int .i64 x.im.hi] := hdx
        replace HB : Hd ((w4.setCell ⟨w2.heap.size, 0, none⟩ (.int .i64 z4.lo)).setCell ⟨w2.heap.size, 1, none⟩ (.int .i64 z4.hi)) (w.heap.size + 1) 25 #[.int .i64 y.re.lo, .int .i64 y.re.hi, .int .i64 y.im.lo, .int .i64 y.im.hi] := hdx
        replace HO : Hd ((w4.setCell ⟨w2.heap.size, 0, none⟩ (.int .i64 z4.lo)).setCell ⟨w2.heap.size, 1, none⟩ (.int .i64 z4.hi)) (w.heap.size + 2) 25 #[.int .i64 0, .int .i64 0, .int .i64 0, .int .i64 0] := hdx
        replace HR : Hd ((w4.setCell ⟨w2.heap.size, 0, none⟩ (.int .i64 z4.lo)).setCell ⟨w2.heap.size, 1, none⟩ (.int .i64 z4.hi)) w2.heap.size 23 #[.int .i64 z4.lo, .int .i64 z4.hi] := hdx
        replace bw : But g w ((w4.setCell ⟨w2.heap.size, 0, none⟩ (.int .i64 z4.lo)).setCell ⟨w2.heap.size, 1, none⟩ (.int .i64 z4.hi)) := butx
        (try refine ⟨⟨HA, HB, bw⟩, ?_⟩)
        repeat ((first | with_reducible apply eag_move | with_reducible apply eag_assign | ((with_reducible refine eag_soft (v := ?_) (fun w' hw' => ?_) ?_); rotate_left 1; (focus (obtain ⟨hA, hB, hBw⟩ := hw'; obtain ⟨hcA, hfA⟩ := hA.facts; obtain ⟨hcB, hfB⟩ := hB.facts; go_simp; (try with_reducible rfl); done)))); simp only [Act.put, Act.eval, qs])
        refine eag_nil ?_
        go_wp2_with fail
        go_meet
        exact ⟨w2.heap.size, z2, z3, z4, e2, e3, e4, rfl, by omega, ok4, qq2, qq3, qq4, HG, HA, HB, HO, HR, bw⟩
    · go_wp2_with fail
      have PG := HG
      have PA := HA
      have PB := HB
      have PO := HO
      have Pbw := bw
      have ltGR : g < w1.heap.size := by (have := HG.lt; (try simp only [World.size_alloc, World.size_setCell, World.size_drew] at this); omega)
      have ltAR : w.heap.size < w1.heap.size := by (have := HA.lt; (try simp only [World.size_alloc, World.size_setCell, World.size_drew] at this); omega)
      have ltBR : (w.heap.size + 1) < w1.heap.size := by (have := HB.lt; (try simp only [World.size_alloc, World.size_setCell, World.size_drew] at this); omega)
      have ltOR : (w.heap.size + 2) < w1.heap.size := by (have := HO.lt; (try simp only [World.size_alloc, World.size_setCell, World.size_drew] at this); omega)
      replace HG : Hd (w1.alloc (.cells #[.int .i64 0, .int .i64 0] 23)) g 83 #[.int .i64 e0] := hdx
      replace HA : Hd (w1.alloc (.cells #[.int .i64 0, .int .i64 0] 23)) w.heap.size 25 #[.int .i64 x.re.lo, .int .i64 x.re.hi, .int .i64 x.im.lo, .int .i64 x.im.hi] := hdx
      replace HB : Hd (w1.alloc (.cells #[.int .i64 0, .int .i64 0] 23)) (w.heap.size + 1) 25 #[.int .i64 y.re.lo, .int .i64 y.re.hi, .int .i64 y.im.lo, .int .i64 y.im.hi] := hdx
      replace HO : Hd (w1.alloc (.cells #[.int .i64 0, .int .i64 0] 23)) (w.heap.size + 2) 25 #[.int .i64 0, .int .i64 0, .int .i64 0, .int .i64 0] := hdx
      replace bw : But g w (w1.alloc (.cells #[.int .i64 0, .int .i64 0] 23)) := butx
      have HR : Hd (w1.alloc (.cells #[.int .i64 0, .int .i64 0] 23)) w1.heap.size 23 #[.int .i64 0, .int .i64 0] := hdx
      (try refine ⟨⟨HA, HB, bw⟩, ?_⟩)
      repeat ((first | with_reducible apply eag_move | with_reducible apply eag_assign | ((with_reducible refine eag_soft (v := ?_) (fun w' hw' => ?_) ?_); rotate_left 1; (focus (obtain ⟨hA, hB, hBw⟩ := hw'; obtain ⟨hcA, hfA⟩ := hA.facts; obtain ⟨hcB, hfB⟩ := hB.facts; go_simp; (try with_reducible rfl); done)))); simp only [Act.put, Act.eval, qs])
      repeat ((first | with_reducible apply eag_move | with_reducible apply eag_assign | ((with_reducible refine eag_soft (v := ?_) (fun w' hw' => ?_) ?_); rotate_left 1; (focus (obtain ⟨hA, hB, hBw⟩ := hw'; obtain ⟨hcA, hfA⟩ := hA.facts; obtain ⟨hcB, hfB⟩ := hB.facts; go_simp; (try with_reducible rfl); done)))); simp only [Act.put, Act.eval, qs])
      refine eag_hard ?_
      go_wp2_with fail
      refine (wtimes_any x.re y.re xr yr e0 g _ HG).mono ?_
      rintro e w2 ⟨z2, e2, rfl, ok2, zz2, qq2, HG2, hb2⟩
      replace bw : But g w w2 := bw.trans hb2
      replace HA := HA.but hb2 (by omega)
      replace HB := HB.but hb2 (by omega)
      replace HO := HO.but hb2 (by omega)
      replace HR := HR.but hb2 (by omega)
      replace HG := HG2
      clear HG2
      replace qq2 := Lib.hid qq2
      replace zz2 := Lib.hid zz2
      have lw2 : w.heap.size ≤ w2.heap.size := bw.size
      clear hb2
      go_wp2_with fail
      (try refine ⟨⟨HA, HB, bw⟩, ?_⟩)
      repeat ((first | with_reducible apply eag_move | with_reducible apply eag_assign | ((with_reducible refine eag_soft (v := ?_) (fun w' hw' => ?_) ?_); rotate_left 1; (focus (obtain ⟨hA, hB, hBw⟩ := hw'; obtain ⟨hcA, hfA⟩ := hA.facts; obtain ⟨hcB, hfB⟩ := hB.facts; go_simp; (try with_reducible rfl); done)))); simp only [Act.put, Act.eval, qs])
      refine eag_hard ?_
      go_wp2_with fail
      refine (wtimes_any x.im y.im xi yi e2 g _ HG).mono ?_
      rintro e w3 ⟨z3, e3, rfl, ok3, zz3, qq3, HG3, hb3⟩
      replace bw : But g w w3 := bw.trans hb3
      replace HA := HA.but hb3 (by omega)
      replace HB := HB.but hb3 (by omega)
      replace HO := HO.but hb3 (by omega)
      replace HR := HR.but hb3 (by omega)
      replace HG := HG3
      clear HG3
      replace qq3 := Lib.hid qq3
      replace zz3 := Lib.hid zz3
      have lw3 : w.heap.size ≤ w3.heap.size := bw.size
      clear hb3
      go_wp2_with fail
      (try refine ⟨⟨HA, HB, bw⟩, ?_⟩)
      repeat ((first | with_reducible apply eag_move | with_reducible apply eag_assign | ((with_reducible refine eag_soft (v := ?_) (fun w' hw' => ?_) ?_); rotate_left 1; (focus (obtain ⟨hA, hB, hBw⟩ := hw'; obtain ⟨hcA, hfA⟩ := hA.facts; obtain ⟨hcB, hfB⟩ := hB.facts; go_simp; (try with_reducible rfl); done)))); simp only [Act.put, Act.eval, qs])
      refine eag_hard ?_
      go_wp2_with fail
      refine (wless_any z2 z3 (En.Sp.fit_of_ok ok2) (En.Sp.fit_of_ok ok3) e3 g _ HG).mono ?_
      rintro e w4 ⟨z4, e4, rfl, ok4, zz4, qq4, HG4, hb4⟩
      replace bw : But g w w4 := bw.trans hb4
      replace HA := HA.but hb4 (by omega)
      replace HB := HB.but hb4 (by omega)
      replace HO := HO.but hb4 (by omega)
      replace HR := HR.but hb4 (by omega)
      replace HG := HG4
      clear HG4
      replace qq4 := Lib.hid qq4
      replace zz4 := Lib.hid zz4
      have lw4 : w.heap.size ≤ w4.heap.size := bw.size
      clear hb4
      go_wp2_with fail
      (try refine ⟨⟨HA, HB, bw⟩, ?_⟩)
      repeat ((first | with_reducible apply eag_move | with_reducible apply eag_assign | ((with_reducible refine eag_soft (v := ?_) (fun w' hw' => ?_) ?_); rotate_left 1; (focus (obtain ⟨hA, hB, hBw⟩ := hw'; obtain ⟨hcA, hfA⟩ := hA.facts; obtain ⟨hcB, hfB⟩ := hB.facts; go_simp; (try with_reducible rfl); done)))); simp only [Act.put, Act.eval, qs])
      refine eag_hard ?_
      obtain ⟨hcR, hfR⟩ := HR.facts
      go_wp2_with fail
      have PG := HG
      have PA := HA
      have PB := HB
      have PO := HO
      have PR := HR
      have Pbw := bw
      replace HG : Hd ((w4.setCell ⟨w1.heap.size, 0, none⟩ (.int .i64 z4.lo)).setCell ⟨w1.heap.size, 1, none⟩ (.int .i64 z4.hi)) g 83 #[.int .i64 e4] := hdx
      replace HA : Hd ((w4.setCell ⟨w1.heap.size, 0, none⟩ (.int .i64 z4.lo)).setCell ⟨w1.heap.size, 1, none⟩ (.int .i64 z4.hi)) w.heap.size 25 #[.int .i64 x.re.lo, .int .i64 x.re.hi, .int .i64 x.im.lo, .int .i64 x.im.hi] := hdx
      replace HB : Hd ((w4.setCell ⟨w1.heap.size, 0, none⟩ (.int .i64 z4.lo)).setCell ⟨w1.heap.size, 1, none⟩ (.int .i64 z4.hi)) (w.heap.size + 1) 25 #[.int .i64 y.re.lo, .int .i64 y.re.hi, .int .i64 y.im.lo, .int .i64 y.im.hi] := hdx
      replace HO : Hd ((w4.setCell ⟨w1.heap.size, 0, none⟩ (.int .i64 z4.lo)).setCell ⟨w1.heap.size, 1, none⟩ (.int .i64 z4.hi)) (w.heap.size + 2) 25 #[.int .i64 0, .int .i64 0, .int .i64 0, .int .i64 0] := hdx
      replace HR : Hd ((w4.setCell ⟨w1.heap.size, 0, none⟩ (.int .i64 z4.lo)).setCell ⟨w1.heap.size, 1, none⟩ (.int .i64 z4.hi)) w1.heap.size 23 #[.int .i64 z4.lo, .int .i64 z4.hi] := hdx
      replace bw : But g w ((w4.setCell ⟨w1.heap.size, 0, none⟩ (.int .i64 z4.lo)).setCell ⟨w1.heap.size, 1, none⟩ (.int .i64 z4.hi)) := butx
      (try refine ⟨⟨HA, HB, bw⟩, ?_⟩)
      repeat ((first | with_reducible apply eag_move | with_reducible apply eag_assign | ((with_reducible refine eag_soft (v := ?_) (fun w' hw' => ?_) ?_); rotate_left 1; (focus (obtain ⟨hA, hB, hBw⟩ := hw'; obtain ⟨hcA, hfA⟩ := hA.facts; obtain ⟨hcB, hfB⟩ := hB.facts; go_simp; (try with_reducible rfl); done)))); simp only [Act.put, Act.eval, qs])
      refine eag_nil ?_
      go_wp2_with fail
      go_meet
      exact ⟨w1.heap.size, z2, z3, z4, e2, e3, e4, rfl, by omega, ok4, qq2, qq3, qq4, HG, HA, HB, HO, HR, bw⟩

theorem rtwo_mul (x y : En.Rc) (w : World) :
    Calls Try.prog 46 #[rcV x, rcV y] w fun e w' => e = .returned (rcE (twoR En.times x y)) ∧ Below w.heap.size w w' := by
  have CV := rboth_any x y
  cases hv : (x.ok && y.ok) with
  | false =>
    have ht : twoR En.times x y = (⟨⟨0, 0⟩, ⟨0, 0⟩⟩, 50) := by unfold twoR; rw [hv]; rfl
    rw [hv] at CV
    rw [ht]
    replace CV := Lib.hid CV
    clear hv ht
    go_enter Try.func46, Try.ntmps46
    go_wp2_with fail
    have HA : Hd (((w.alloc (.cells #[.int .i64 x.re.lo, .int .i64 x.re.hi, .int .i64 x.im.lo, .int .i64 x.im.hi] 25)).alloc (.cells #[.int .i64 y.re.lo, .int .i64 y.re.hi, .int .i64 y.im.lo, .int .i64 y.im.hi] 25)).alloc (.cells #[.int .i64 0, .int .i64 0, .int .i64 0, .int .i64 0] 25)) w.heap.size 25 #[.int .i64 x.re.lo, .int .i64 x.re.hi, .int .i64 x.im.lo, .int .i64 x.im.hi] := hdx
    have HB : Hd (((w.alloc (.cells #[.int .i64 x.re.lo, .int .i64 x.re.hi, .int .i64 x.im.lo, .int .i64 x.im.hi] 25)).alloc (.cells #[.int .i64 y.re.lo, .int .i64 y.re.hi, .int .i64 y.im.lo, .int .i64 y.im.hi] 25)).alloc (.cells #[.int .i64 0, .int .i64 0, .int .i64 0, .int .i64 0] 25)) (w.heap.size + 1) 25 #[.int .i64 y.re.lo, .int .i64 y.re.hi, .int .i64 y.im.lo, .int .i64 y.im.hi] := hdx
    have HO : Hd (((w.alloc (.cells #[.int .i64 x.re.lo, .int .i64 x.re.hi, .int .i64 x.im.lo, .int .i64 x.im.hi] 25)).alloc (.cells #[.int .i64 y.re.lo, .int .i64 y.re.hi, .int .i64 y.im.lo, .int .i64 y.im.hi] 25)).alloc (.cells #[.int .i64 0, .int .i64 0, .int .i64 0, .int .i64 0] 25)) (w.heap.size + 2) 25 #[.int .i64 0, .int .i64 0, .int .i64 0, .int .i64 0] := hdx
    have bw : Below w.heap.size w (((w.alloc (.cells #[.int .i64 x.re.lo, .int .i64 x.re.hi, .int .i64 x.im.lo, .int .i64 x.im.hi] 25)).alloc (.cells #[.int .i64 y.re.lo, .int .i64 y.re.hi, .int .i64 y.im.lo, .int .i64 y.im.hi] 25)).alloc (.cells #[.int .i64 0, .int .i64 0, .int .i64 0, .int .i64 0] 25)) := by go_grown
    refine (CV.out _).mono ?_
    rintro e w1 ⟨rfl, hb1⟩
    replace bw : Below w.heap.size w w1 := below_next bw hb1
    replace HA := HA.call hb1
    replace HB := HB.call hb1
    replace HO := HO.call hb1
    have lw1 : w.heap.size ≤ w1.heap.size := bw.size
    clear hb1
    obtain ⟨hcA, hfA⟩ := HA.facts
    obtain ⟨hcB, hfB⟩ := HB.facts
    obtain ⟨hcO, hfO⟩ := HO.facts
    go_wp2
    refine bodyPost_ret (run_results2 rfl rfl (by (show Hd _ (w.heap.size + 2) 25 #[.int .i64 0, .int .i64 0, .int .i64 0, .int .i64 0]); exact hdx) Try.underlying25 rfl (by kernel_rfl)) rfl ⟨rfl, by go_grown⟩
  | true =>
    have ht : twoR En.times x y = outR (En.times x y) := by unfold twoR; rw [hv]; rfl
    rw [hv] at CV
    rw [ht]
    replace CV := Lib.hid CV
    have hop' := Lib.hid (rmul_any x y (by cases h : x.ok <;> simp_all) (by cases h : y.ok <;> simp_all))
    clear hv ht
    go_enter Try.func46, Try.ntmps46
    go_wp2_with fail
    have HA : Hd (((w.alloc (.cells #[.int .i64 x.re.lo, .int .i64 x.re.hi, .int .i64 x.im.lo, .int .i64 x.im.hi] 25)).alloc (.cells #[.int .i64 y.re.lo, .int .i64 y.re.hi, .int .i64 y.im.lo, .int .i64 y.im.hi] 25)).alloc (.cells #[.int .i64 0, .int .i64 0, .int .i64 0, .int .i64 0] 25)) w.heap.size 25 #[.int .i64 x.re.lo, .int .i64 x.re.hi, .int .i64 x.im.lo, .int .i64 x.im.hi] := hdx
    have HB : Hd (((w.alloc (.cells #[.int .i64 x.re.lo, .int .i64 x.re.hi, .int .i64 x.im.lo, .int .i64 x.im.hi] 25)).alloc (.cells #[.int .i64 y.re.lo, .int .i64 y.re.hi, .int .i64 y.im.lo, .int .i64 y.im.hi] 25)).alloc (.cells #[.int .i64 0, .int .i64 0, .int .i64 0, .int .i64 0] 25)) (w.heap.size + 1) 25 #[.int .i64 y.re.lo, .int .i64 y.re.hi, .int .i64 y.im.lo, .int .i64 y.im.hi] := hdx
    have HO : Hd (((w.alloc (.cells #[.int .i64 x.re.lo, .int .i64 x.re.hi, .int .i64 x.im.lo, .int .i64 x.im.hi] 25)).alloc (.cells #[.int .i64 y.re.lo, .int .i64 y.re.hi, .int .i64 y.im.lo, .int .i64 y.im.hi] 25)).alloc (.cells #[.int .i64 0, .int .i64 0, .int .i64 0, .int .i64 0] 25)) (w.heap.size + 2) 25 #[.int .i64 0, .int .i64 0, .int .i64 0, .int .i64 0] := hdx
    have bw : Below w.heap.size w (((w.alloc (.cells #[.int .i64 x.re.lo, .int .i64 x.re.hi, .int .i64 x.im.lo, .int .i64 x.im.hi] 25)).alloc (.cells #[.int .i64 y.re.lo, .int .i64 y.re.hi, .int .i64 y.im.lo, .int .i64 y.im.hi] 25)).alloc (.cells #[.int .i64 0, .int .i64 0, .int .i64 0, .int .i64 0] 25)) := by go_grown
    refine (CV.out _).mono ?_
    rintro e w1 ⟨rfl, hb1⟩
    replace bw : Below w.heap.size w w1 := below_next bw hb1
    replace HA := HA.call hb1
    replace HB := HB.call hb1
    replace HO := HO.call hb1
    have lw1 : w.heap.size ≤ w1.heap.size := bw.size
    clear hb1
    obtain ⟨hcA, hfA⟩ := HA.facts
    obtain ⟨hcB, hfB⟩ := HB.facts
    obtain ⟨hcO, hfO⟩ := HO.facts
    have ltA := HA.lt
    have ltB := HB.lt
    have ltO := HO.lt
    go_wp2_with fail
    replace HA : Hd (w1.alloc (.cells #[.int .i64 0] 83)) w.heap.size 25 #[.int .i64 x.re.lo, .int .i64 x.re.hi, .int .i64 x.im.lo, .int .i64 x.im.hi] := hdx
    replace HB : Hd (w1.alloc (.cells #[.int .i64 0] 83)) (w.heap.size + 1) 25 #[.int .i64 y.re.lo, .int .i64 y.re.hi, .int .i64 y.im.lo, .int .i64 y.im.hi] := hdx
    replace HO : Hd (w1.alloc (.cells #[.int .i64 0] 83)) (w.heap.size + 2) 25 #[.int .i64 0, .int .i64 0, .int .i64 0, .int .i64 0] := hdx
    replace bw : Below w.heap.size w (w1.alloc (.cells #[.int .i64 0] 83)) := by go_grown
    have HG : Hd (w1.alloc (.cells #[.int .i64 0] 83)) w1.heap.size 83 #[.int .i64 0] := hdx
    refine (hop'.out 0 _ _ HG).mono ?_
    rintro e w2 ⟨z, e1, rfl, okz, qq, HG2, hb2⟩
    replace qq := Lib.hid qq
    replace bw : Below w.heap.size w w2 := But.far bw hb2 (by omega) (by simp only [World.size_alloc]; omega)
    replace HA := HA.but hb2 (by omega)
    replace HB := HB.but hb2 (by omega)
    replace HO := HO.but hb2 (by omega)
    have ltG := HG2.lt
    have lw2 : w.heap.size ≤ w2.heap.size := bw.size
    clear hb2 HG
    have HG := HG2
    clear HG2
    obtain ⟨hcA, hfA⟩ := HA.facts
    obtain ⟨hcB, hfB⟩ := HB.facts
    obtain ⟨hcO, hfO⟩ := HO.facts
    obtain ⟨hcG, hfG⟩ := HG.facts
    have ltA2 := HA.lt
    have ltB2 := HB.lt
    have ltO2 := HO.lt
    go_wp2_with fail
    replace HA : Hd (w2.alloc (.cells #[.int .i64 z.re.lo, .int .i64 z.re.hi, .int .i64 z.im.lo, .int .i64 z.im.hi] 25)) w.heap.size 25 #[.int .i64 x.re.lo, .int .i64 x.re.hi, .int .i64 x.im.lo, .int .i64 x.im.hi] := hdx
    replace HB : Hd (w2.alloc (.cells #[.int .i64 z.re.lo, .int .i64 z.re.hi, .int .i64 z.im.lo, .int .i64 z.im.hi] 25)) (w.heap.size + 1) 25 #[.int .i64 y.re.lo, .int .i64 y.re.hi, .int .i64 y.im.lo, .int .i64 y.im.hi] := hdx
    replace HO : Hd (w2.alloc (.cells #[.int .i64 z.re.lo, .int .i64 z.re.hi, .int .i64 z.im.lo, .int .i64 z.im.hi] 25)) (w.heap.size + 2) 25 #[.int .i64 0, .int .i64 0, .int .i64 0, .int .i64 0] := hdx
    replace HG : Hd (w2.alloc (.cells #[.int .i64 z.re.lo, .int .i64 z.re.hi, .int .i64 z.im.lo, .int .i64 z.im.hi] 25)) w1.heap.size 83 #[.int .i64 e1] := hdx
    replace bw : Below w.heap.size w (w2.alloc (.cells #[.int .i64 z.re.lo, .int .i64 z.re.hi, .int .i64 z.im.lo, .int .i64 z.im.hi] 25)) := by go_grown
    have HZ : Hd (w2.alloc (.cells #[.int .i64 z.re.lo, .int .i64 z.re.hi, .int .i64 z.im.lo, .int .i64 z.im.hi] 25)) w2.heap.size 25 #[.int .i64 z.re.lo, .int .i64 z.re.hi, .int .i64 z.im.lo, .int .i64 z.im.hi] := hdx
    refine (rdone_any z e1 _ _ HG).mono ?_
    rintro e w3 ⟨rfl, hb3⟩
    replace bw : Below w.heap.size w w3 := below_next bw hb3
    replace HA := HA.call hb3
    replace HB := HB.call hb3
    replace HO := HO.call hb3
    replace HG := HG.call hb3
    replace HZ := HZ.call hb3
    have lw3 : w.heap.size ≤ w3.heap.size := bw.size
    clear hb3
    obtain ⟨hcO, hfO⟩ := HO.facts
    rcases qq.out.zero with ⟨hr, rfl⟩ | ⟨hr, hne⟩
    · rw [if_pos rfl]
      go_wp2
      refine bodyPost_ret (run_results2 rfl rfl (by (show Hd _ (w.heap.size + 2) 25 #[.int .i64 z.re.lo, .int .i64 z.re.hi, .int .i64 z.im.lo, .int .i64 z.im.hi]); exact hdx) Try.underlying25 rfl (by kernel_rfl)) rfl ⟨by rw [hr]; rfl, by go_grown⟩
    · rw [if_neg hne]
      go_wp2
      refine bodyPost_ret (run_results2 rfl rfl (by (show Hd _ (w.heap.size + 2) 25 #[.int .i64 0, .int .i64 0, .int .i64 0, .int .i64 0]); exact hdx) Try.underlying25 rfl (by kernel_rfl)) rfl ⟨by rw [hr]; rfl, by go_grown⟩
end Go.Proofs.Ytpbbbfglecbceaa
/- Plain: the document's root is package enclose's root. -/
namespace Go.Proofs.Ytpbbbfglecbceaa.En
set_option linter.all false

theorem up_le (m x : Int) : up m m ≤ x ↔ m * m ≤ x * 1073741824 := by
  unfold up
  omega
theorem dn_lt (m x : Int) : dn m m < x ↔ m * m ≤ x * 1073741824 - 1 := by
  unfold dn
  omega

/-- The bit of a round of which so many are still to come. -/
def bitAt : Nat → Int
  | 0 => 0
  | k + 1 => 2 ^ k
theorem bitAt_half (k : Nat) : (bitAt (k + 1)).tdiv 2 = bitAt k := by
  cases k with
  | zero => rfl
  | succ k =>
    show ((2 : Int) ^ (k + 1)).tdiv 2 = 2 ^ k
    rw [Int.pow_succ, Int.mul_tdiv_cancel _ (by omega)]
theorem bitAt_pos (k : Nat) : 0 < bitAt (k + 1) := Int.pow_pos (by omega)

theorem bis_up (x : Int) (k : Nat) (lo : Int) : bis (x * 1073741824) (k + 1) lo = if up (lo + bitAt (k + 1)) (lo + bitAt (k + 1)) ≤ x then bis (x * 1073741824) k (lo + bitAt (k + 1)) else bis (x * 1073741824) k lo := by
  show (if (lo + 2 ^ k) * (lo + 2 ^ k) ≤ x * 1073741824 then _ else _) = if up (lo + 2 ^ k) (lo + 2 ^ k) ≤ x then _ else _
  by_cases h : (lo + 2 ^ k) * (lo + 2 ^ k) ≤ x * 1073741824
  · rw [if_pos h, if_pos ((up_le _ _).2 h)]; rfl
  · rw [if_neg h, if_neg (fun h' => h ((up_le _ _).1 h'))]
theorem bis_dn (x : Int) (k : Nat) (lo : Int) : bis (x * 1073741824 - 1) (k + 1) lo = if dn (lo + bitAt (k + 1)) (lo + bitAt (k + 1)) < x then bis (x * 1073741824 - 1) k (lo + bitAt (k + 1)) else bis (x * 1073741824 - 1) k lo := by
  show (if (lo + 2 ^ k) * (lo + 2 ^ k) ≤ x * 1073741824 - 1 then _ else _) = if dn (lo + 2 ^ k) (lo + 2 ^ k) < x then _ else _
  by_cases h : (lo + 2 ^ k) * (lo + 2 ^ k) ≤ x * 1073741824 - 1
  · rw [if_pos h, if_pos ((dn_lt _ _).2 h)]; rfl
  · rw [if_neg h, if_neg (fun h' => h ((dn_lt _ _).1 h'))]

theorem root_bis (x : Int) (h : x ≤ 1099511627776) : bis (x * 1073741824) 37 0 = root x := by
  show (if ((0 : Int) + 68719476736) * (0 + 68719476736) ≤ x * 1073741824 then _ else bis (x * 1073741824) 36 0) = root x
  rw [if_neg (by omega)]
  rfl

theorem high_bis (x : Int) (h0 : 0 ≤ x) (h : x ≤ 1099511627776) :
    (if dn (bis (x * 1073741824 - 1) 37 0) (bis (x * 1073741824 - 1) 37 0) < x then bis (x * 1073741824 - 1) 37 0 + 1 else bis (x * 1073741824 - 1) 37 0) = (if root x * root x = x * 1073741824 then root x else root x + 1) := by
  by_cases hz : x = 0
  · subst hz
    kernel_rfl
  · obtain ⟨b0, b1, b2, b3⟩ := bis_spec (x * 1073741824 - 1) 37 0 (by omega) (by omega) (by
      show _ < (0 + (137438953472 : Int)) * (0 + 137438953472)
      omega)
    obtain ⟨r0, r1, r2, r3⟩ := root_spec h0 h
    generalize bis (x * 1073741824 - 1) 37 0 = m at *
    generalize root x = r at *
    rw [if_pos ((dn_lt _ _).2 b2)]
    split
    · next he =>
      by_cases h1 : m + 1 < r
      · have := sq_le (a := m + 2) (b := r) (by omega) (by omega)
        have := sq_le (a := m + 1) (b := m + 2) (by omega) (by omega)
        have e : (m + 2) * (m + 2) = (m + 1) * (m + 1) + (m + 1) + (m + 2) := by rw [show m + 2 = (m + 1) + 1 by omega, Int.add_mul, Int.mul_add]; omega
        omega
      · by_cases h2 : r < m + 1
        · have := sq_le (a := r) (b := m) (by omega) (by omega)
          omega
        · omega
    · next he =>
      by_cases h1 : m < r
      · have := sq_le (a := m + 1) (b := r) (by omega) (by omega)
        omega
      · by_cases h2 : r < m
        · have := sq_le (a := r + 1) (b := m) (by omega) (by omega)
          omega
        · omega
end Go.Proofs.Ytpbbbfglecbceaa.En
/- The document's squares, roots and powers. -/
namespace Go.Proofs.Ytpbbbfglecbceaa
set_option linter.all false
open Go.RowKit

theorem if_max' (a b : Int) : (if a < b then b else a) = max a b := by split <;> omega
set_option maxHeartbeats 1000000 in
theorem wsquare_any (x : En.Sp) (hx : x.fit) (e0 : Int) (g : Nat) (w : World) (HG : Hd w g 83 #[.int .i64 e0]) :
    Calls Try.prog 124 #[ptr g, spV x] w (PostW (En.square x) g e0 w) := by
  have hlt := HG.lt
  have bw := But.refl g w
  obtain ⟨x1, x2, x3, x4⟩ := hx
  obtain ⟨hcG, hfG⟩ := HG.facts
  go_enter Try.func124, Try.ntmps124
  go_wp2_with fail
  replace HG : Hd (((w.alloc (.cells #[.int .i64 x.lo, .int .i64 x.hi] 23)).alloc (.cells #[.int .i64 0, .int .i64 0] 23)).drew) g 83 #[.int .i64 e0] := hdx
  have HA : Hd (((w.alloc (.cells #[.int .i64 x.lo, .int .i64 x.hi] 23)).alloc (.cells #[.int .i64 0, .int .i64 0] 23)).drew) w.heap.size 23 #[.int .i64 x.lo, .int .i64 x.hi] := hdx
  have HO : Hd (((w.alloc (.cells #[.int .i64 x.lo, .int .i64 x.hi] 23)).alloc (.cells #[.int .i64 0, .int .i64 0] 23)).drew) (w.heap.size + 1) 23 #[.int .i64 0, .int .i64 0] := hdx
  replace bw : But g w (((w.alloc (.cells #[.int .i64 x.lo, .int .i64 x.hi] 23)).alloc (.cells #[.int .i64 0, .int .i64 0] 23)).drew) := butx
  (refine wp_region_eag (fun w' => Hd w' w.heap.size 23 #[.int .i64 x.lo, .int .i64 x.hi] ∧ But g w w') [(0, true), (1, true), (2, true), (3, true), (5, true), (6, true), (7, true), (8, true), (4, false), (9, false), (10, false), (11, true)] (by kernel_rfl) (by kernel_rfl) (fun c d v a w h => by cases d <;> exact h) ⟨HA, bw⟩ ?_; simp only [List.map_cons, List.map_nil, List.getD_cons_zero, List.getD_cons_succ, flMark, Nat.reduceEqDiff, ↓reduceIte])
  repeat ((first | with_reducible apply eag_move | with_reducible apply eag_assign | ((with_reducible refine eag_soft (v := ?_) (fun w' hw' => ?_) ?_); rotate_left 1; (focus (obtain ⟨hA, hBw⟩ := hw'; obtain ⟨hcA, hfA⟩ := hA.facts; go_simp; (try with_reducible rfl); done)))); simp only [Act.put, Act.eval, qs])
  refine eag_hard ?_
  go_wp2_with fail
  refine (timesUp_any x.lo x.lo (by omega) (by omega) (by omega) (by omega) _).mono ?_
  rintro e w'' ⟨rfl, rfl⟩
  go_wp2_with fail
  (try refine ⟨⟨HA, bw⟩, ?_⟩)
  repeat ((first | with_reducible apply eag_move | with_reducible apply eag_assign | ((with_reducible refine eag_soft (v := ?_) (fun w' hw' => ?_) ?_); rotate_left 1; (focus (obtain ⟨hA, hBw⟩ := hw'; obtain ⟨hcA, hfA⟩ := hA.facts; go_simp; (try with_reducible rfl); done)))); simp only [Act.put, Act.eval, qs])
  refine eag_hard ?_
  go_wp2_with fail
  refine (timesUp_any x.hi x.hi (by omega) (by omega) (by omega) (by omega) _).mono ?_
  rintro e w'' ⟨rfl, rfl⟩
  go_wp2_with fail
  (try refine ⟨⟨HA, bw⟩, ?_⟩)
  repeat ((first | with_reducible apply eag_move | with_reducible apply eag_assign | ((with_reducible refine eag_soft (v := ?_) (fun w' hw' => ?_) ?_); rotate_left 1; (focus (obtain ⟨hA, hBw⟩ := hw'; obtain ⟨hcA, hfA⟩ := hA.facts; go_simp; (try with_reducible rfl); done)))); simp only [Act.put, Act.eval, qs])
  refine eag_hard ?_
  go_wp2_with fail
  (try refine ⟨⟨HA, bw⟩, ?_⟩)
  repeat ((first | with_reducible apply eag_move | with_reducible apply eag_assign | ((with_reducible refine eag_soft (v := ?_) (fun w' hw' => ?_) ?_); rotate_left 1; (focus (obtain ⟨hA, hBw⟩ := hw'; obtain ⟨hcA, hfA⟩ := hA.facts; go_simp; (try with_reducible rfl); done)))); simp only [Act.put, Act.eval, qs])
  refine eag_nil ?_
  generalize hW : ((w.alloc (.cells #[.int .i64 x.lo, .int .i64 x.hi] 23)).alloc (.cells #[.int .i64 0, .int .i64 0] 23)).drew = w1 at HG HA HO bw ⊢
  clear hW
  have lw1 : w.heap.size ≤ w1.heap.size := bw.size
  have hsq := Lib.hid (En.square_eq (s := x) ⟨x1, x2, x3, x4⟩)
  obtain ⟨hcA, hfA⟩ := HA.facts
  obtain ⟨hcO, hfO⟩ := HO.facts
  by_cases hz : x.lo ≤ 0
  · by_cases hz2 : 0 ≤ x.hi
    · have hz' := hz
      have hz2' := hz2
      replace hz := Lib.hid hz
      replace hz2 := Lib.hid hz2
      go_wp2_with fail
      refine (wspan_any _ _ e0 g _ HG).mono ?_
      rintro e w2 ⟨z2, e2, rfl, ok2, zz2, qq2, HG2, hb2⟩
      replace bw : But g w w2 := bw.trans hb2
      replace HA := HA.but hb2 (by omega)
      replace HO := HO.but hb2 (by omega)
      replace HG := HG2
      clear HG2
      replace qq2 := Lib.hid qq2
      replace zz2 := Lib.hid zz2
      have lw2 : w.heap.size ≤ w2.heap.size := bw.size
      clear hb2
      obtain ⟨hcO, hfO⟩ := HO.facts
      go_wp2
      refine bodyPost_ret (run_results1 rfl rfl (by (show Hd _ (w.heap.size + 1) 23 #[.int .i64 z2.lo, .int .i64 z2.hi]); exact hdx) Try.underlying23 rfl (by kernel_rfl)) rfl ⟨z2, e2, rfl, ok2, zz2.out, (by rw [hsq.out, if_pos ⟨hz.out, hz2.out⟩]; first | exact qq2.out | simpa only [if_min, if_max, if_max'] using qq2.out), by exact hdx, by exact butx⟩
    · have hz' := hz
      have hz2' := hz2
      replace hz := Lib.hid hz
      replace hz2 := Lib.hid hz2
      go_upto_region 4 with fail
      replace HG : Hd (w1.drew) g 83 #[.int .i64 e0] := hdx
      replace HA : Hd (w1.drew) w.heap.size 23 #[.int .i64 x.lo, .int .i64 x.hi] := hdx
      replace HO : Hd (w1.drew) (w.heap.size + 1) 23 #[.int .i64 0, .int .i64 0] := hdx
      replace bw : But g w (w1.drew) := butx
      (refine wp_region_eag (fun w' => Hd w' w.heap.size 23 #[.int .i64 x.lo, .int .i64 x.hi] ∧ But g w w') [(0, true), (1, true), (2, true), (3, true), (4, true), (6, true), (7, true), (8, true), (9, true), (12, true), (5, false), (10, false), (11, false), (13, false), (14, false)] (by kernel_rfl) (by kernel_rfl) (fun c d v a w h => by cases d <;> exact h) ⟨HA, bw⟩ ?_; simp only [List.map_cons, List.map_nil, List.getD_cons_zero, List.getD_cons_succ, flMark, Nat.reduceEqDiff, ↓reduceIte])
      repeat ((first | with_reducible apply eag_move | with_reducible apply eag_assign | ((with_reducible refine eag_soft (v := ?_) (fun w' hw' => ?_) ?_); rotate_left 1; (focus (obtain ⟨hA, hBw⟩ := hw'; obtain ⟨hcA, hfA⟩ := hA.facts; go_simp; (try with_reducible rfl); done)))); simp only [Act.put, Act.eval, qs])
      refine eag_hard ?_
      go_wp2_with fail
      refine (timesDown_any x.lo x.lo (by omega) (by omega) (by omega) (by omega) _).mono ?_
      rintro e w'' ⟨rfl, rfl⟩
      go_wp2_with fail
      (try refine ⟨⟨HA, bw⟩, ?_⟩)
      repeat ((first | with_reducible apply eag_move | with_reducible apply eag_assign | ((with_reducible refine eag_soft (v := ?_) (fun w' hw' => ?_) ?_); rotate_left 1; (focus (obtain ⟨hA, hBw⟩ := hw'; obtain ⟨hcA, hfA⟩ := hA.facts; go_simp; (try with_reducible rfl); done)))); simp only [Act.put, Act.eval, qs])
      refine eag_hard ?_
      go_wp2_with fail
      refine (timesDown_any x.hi x.hi (by omega) (by omega) (by omega) (by omega) _).mono ?_
      rintro e w'' ⟨rfl, rfl⟩
      go_wp2_with fail
      (try refine ⟨⟨HA, bw⟩, ?_⟩)
      repeat ((first | with_reducible apply eag_move | with_reducible apply eag_assign | ((with_reducible refine eag_soft (v := ?_) (fun w' hw' => ?_) ?_); rotate_left 1; (focus (obtain ⟨hA, hBw⟩ := hw'; obtain ⟨hcA, hfA⟩ := hA.facts; go_simp; (try with_reducible rfl); done)))); simp only [Act.put, Act.eval, qs])
      refine eag_hard ?_
      go_wp2_with fail
      (try refine ⟨⟨HA, bw⟩, ?_⟩)
      repeat ((first | with_reducible apply eag_move | with_reducible apply eag_assign | ((with_reducible refine eag_soft (v := ?_) (fun w' hw' => ?_) ?_); rotate_left 1; (focus (obtain ⟨hA, hBw⟩ := hw'; obtain ⟨hcA, hfA⟩ := hA.facts; go_simp; (try with_reducible rfl); done)))); simp only [Act.put, Act.eval, qs])
      refine eag_hard ?_
      go_wp2_with fail
      refine (wspan_any _ _ e0 g _ HG).mono ?_
      rintro e w2 ⟨z2, e2, rfl, ok2, zz2, qq2, HG2, hb2⟩
      replace bw : But g w w2 := bw.trans hb2
      replace HA := HA.but hb2 (by omega)
      replace HO := HO.but hb2 (by omega)
      replace HG := HG2
      clear HG2
      replace qq2 := Lib.hid qq2
      replace zz2 := Lib.hid zz2
      have lw2 : w.heap.size ≤ w2.heap.size := bw.size
      clear hb2
      go_wp2_with fail
      (try refine ⟨⟨HA, bw⟩, ?_⟩)
      repeat ((first | with_reducible apply eag_move | with_reducible apply eag_assign | ((with_reducible refine eag_soft (v := ?_) (fun w' hw' => ?_) ?_); rotate_left 1; (focus (obtain ⟨hA, hBw⟩ := hw'; obtain ⟨hcA, hfA⟩ := hA.facts; go_simp; (try with_reducible rfl); done)))); simp only [Act.put, Act.eval, qs])
      obtain ⟨hcO, hfO⟩ := HO.facts
      refine eag_hard ?_
      go_wp2_with fail
      replace HG : Hd ((w2.setCell ⟨(w.heap.size + 1), 0, none⟩ (.int .i64 z2.lo)).setCell ⟨(w.heap.size + 1), 1, none⟩ (.int .i64 z2.hi)) g 83 #[.int .i64 e2] := hdx
      replace HA : Hd ((w2.setCell ⟨(w.heap.size + 1), 0, none⟩ (.int .i64 z2.lo)).setCell ⟨(w.heap.size + 1), 1, none⟩ (.int .i64 z2.hi)) w.heap.size 23 #[.int .i64 x.lo, .int .i64 x.hi] := hdx
      replace HO : Hd ((w2.setCell ⟨(w.heap.size + 1), 0, none⟩ (.int .i64 z2.lo)).setCell ⟨(w.heap.size + 1), 1, none⟩ (.int .i64 z2.hi)) (w.heap.size + 1) 23 #[.int .i64 z2.lo, .int .i64 z2.hi] := hdx
      replace bw : But g w ((w2.setCell ⟨(w.heap.size + 1), 0, none⟩ (.int .i64 z2.lo)).setCell ⟨(w.heap.size + 1), 1, none⟩ (.int .i64 z2.hi)) := butx
      (try refine ⟨⟨HA, bw⟩, ?_⟩)
      refine eag_nil ?_
      go_wp2
      refine bodyPost_ret (run_results1 rfl rfl (by (show Hd _ (w.heap.size + 1) 23 #[.int .i64 z2.lo, .int .i64 z2.hi]); exact hdx) Try.underlying23 rfl (by kernel_rfl)) rfl ⟨z2, e2, rfl, ok2, zz2.out, (by rw [hsq.out, if_neg (by have := hz2.out; omega)]; first | exact qq2.out | simpa only [if_min, if_max, if_max'] using qq2.out), by exact hdx, by exact butx⟩
  · have hz' := hz
    replace hz := Lib.hid hz
    go_upto_region 4 with fail
    replace HG : Hd (w1.drew) g 83 #[.int .i64 e0] := hdx
    replace HA : Hd (w1.drew) w.heap.size 23 #[.int .i64 x.lo, .int .i64 x.hi] := hdx
    replace HO : Hd (w1.drew) (w.heap.size + 1) 23 #[.int .i64 0, .int .i64 0] := hdx
    replace bw : But g w (w1.drew) := butx
    (refine wp_region_eag (fun w' => Hd w' w.heap.size 23 #[.int .i64 x.lo, .int .i64 x.hi] ∧ But g w w') [(0, true), (1, true), (2, true), (3, true), (4, true), (6, true), (7, true), (8, true), (9, true), (12, true), (5, false), (10, false), (11, false), (13, false), (14, false)] (by kernel_rfl) (by kernel_rfl) (fun c d v a w h => by cases d <;> exact h) ⟨HA, bw⟩ ?_; simp only [List.map_cons, List.map_nil, List.getD_cons_zero, List.getD_cons_succ, flMark, Nat.reduceEqDiff, ↓reduceIte])
    repeat ((first | with_reducible apply eag_move | with_reducible apply eag_assign | ((with_reducible refine eag_soft (v := ?_) (fun w' hw' => ?_) ?_); rotate_left 1; (focus (obtain ⟨hA, hBw⟩ := hw'; obtain ⟨hcA, hfA⟩ := hA.facts; go_simp; (try with_reducible rfl); done)))); simp only [Act.put, Act.eval, qs])
    refine eag_hard ?_
    go_wp2_with fail
    refine (timesDown_any x.lo x.lo (by omega) (by omega) (by omega) (by omega) _).mono ?_
    rintro e w'' ⟨rfl, rfl⟩
    go_wp2_with fail
    (try refine ⟨⟨HA, bw⟩, ?_⟩)
    repeat ((first | with_reducible apply eag_move | with_reducible apply eag_assign | ((with_reducible refine eag_soft (v := ?_) (fun w' hw' => ?_) ?_); rotate_left 1; (focus (obtain ⟨hA, hBw⟩ := hw'; obtain ⟨hcA, hfA⟩ := hA.facts; go_simp; (try with_reducible rfl); done)))); simp only [Act.put, Act.eval, qs])
    refine eag_hard ?_
    go_wp2_with fail
    refine (timesDown_any x.hi x.hi (by omega) (by omega) (by omega) (by omega) _).mono ?_
    rintro e w'' ⟨rfl, rfl⟩
    go_wp2_with fail
    (try refine ⟨⟨HA, bw⟩, ?_⟩)
    repeat ((first | with_reducible apply eag_move | with_reducible apply eag_assign | ((with_reducible refine eag_soft (v := ?_) (fun w' hw' => ?_) ?_); rotate_left 1; (focus (obtain ⟨hA, hBw⟩ := hw'; obtain ⟨hcA, hfA⟩ := hA.facts; go_simp; (try with_reducible rfl); done)))); simp only [Act.put, Act.eval, qs])
    refine eag_hard ?_
    go_wp2_with fail
    (try refine ⟨⟨HA, bw⟩, ?_⟩)
    repeat ((first | with_reducible apply eag_move | with_reducible apply eag_assign | ((with_reducible refine eag_soft (v := ?_) (fun w' hw' => ?_) ?_); rotate_left 1; (focus (obtain ⟨hA, hBw⟩ := hw'; obtain ⟨hcA, hfA⟩ := hA.facts; go_simp; (try with_reducible rfl); done)))); simp only [Act.put, Act.eval, qs])
    refine eag_hard ?_
    go_wp2_with fail
    refine (wspan_any _ _ e0 g _ HG).mono ?_
    rintro e w2 ⟨z2, e2, rfl, ok2, zz2, qq2, HG2, hb2⟩
    replace bw : But g w w2 := bw.trans hb2
    replace HA := HA.but hb2 (by omega)
    replace HO := HO.but hb2 (by omega)
    replace HG := HG2
    clear HG2
    replace qq2 := Lib.hid qq2
    replace zz2 := Lib.hid zz2
    have lw2 : w.heap.size ≤ w2.heap.size := bw.size
    clear hb2
    go_wp2_with fail
    (try refine ⟨⟨HA, bw⟩, ?_⟩)
    repeat ((first | with_reducible apply eag_move | with_reducible apply eag_assign | ((with_reducible refine eag_soft (v := ?_) (fun w' hw' => ?_) ?_); rotate_left 1; (focus (obtain ⟨hA, hBw⟩ := hw'; obtain ⟨hcA, hfA⟩ := hA.facts; go_simp; (try with_reducible rfl); done)))); simp only [Act.put, Act.eval, qs])
    obtain ⟨hcO, hfO⟩ := HO.facts
    refine eag_hard ?_
    go_wp2_with fail
    replace HG : Hd ((w2.setCell ⟨(w.heap.size + 1), 0, none⟩ (.int .i64 z2.lo)).setCell ⟨(w.heap.size + 1), 1, none⟩ (.int .i64 z2.hi)) g 83 #[.int .i64 e2] := hdx
    replace HA : Hd ((w2.setCell ⟨(w.heap.size + 1), 0, none⟩ (.int .i64 z2.lo)).setCell ⟨(w.heap.size + 1), 1, none⟩ (.int .i64 z2.hi)) w.heap.size 23 #[.int .i64 x.lo, .int .i64 x.hi] := hdx
    replace HO : Hd ((w2.setCell ⟨(w.heap.size + 1), 0, none⟩ (.int .i64 z2.lo)).setCell ⟨(w.heap.size + 1), 1, none⟩ (.int .i64 z2.hi)) (w.heap.size + 1) 23 #[.int .i64 z2.lo, .int .i64 z2.hi] := hdx
    replace bw : But g w ((w2.setCell ⟨(w.heap.size + 1), 0, none⟩ (.int .i64 z2.lo)).setCell ⟨(w.heap.size + 1), 1, none⟩ (.int .i64 z2.hi)) := butx
    (try refine ⟨⟨HA, bw⟩, ?_⟩)
    refine eag_nil ?_
    go_wp2
    refine bodyPost_ret (run_results1 rfl rfl (by (show Hd _ (w.heap.size + 1) 23 #[.int .i64 z2.lo, .int .i64 z2.hi]); exact hdx) Try.underlying23 rfl (by kernel_rfl)) rfl ⟨z2, e2, rfl, ok2, zz2.out, (by rw [hsq.out, if_neg (by have := hz.out; omega)]; first | exact qq2.out | simpa only [if_min, if_max, if_max'] using qq2.out), by exact hdx, by exact butx⟩

set_option maxHeartbeats 2000000 in
theorem wroot_any (x : En.Sp) (hx : x.fit) (hxl : 0 ≤ x.lo) (hxh : 0 ≤ x.hi) (e0 : Int) (g : Nat) (w : World) (HG : Hd w g 83 #[.int .i64 e0]) :
    Calls Try.prog 85 #[ptr g, spV x] w (PostW (En.roots x) g e0 w) := by
  have hlt := HG.lt
  have bw := But.refl g w
  obtain ⟨hcG, hfG⟩ := HG.facts
  go_enter Try.func85, Try.ntmps85
  go_wp2_with fail
  replace HG : Hd ((w.alloc (.cells #[.int .i64 x.lo, .int .i64 x.hi] 23)).alloc (.cells #[.int .i64 0, .int .i64 0] 23)) g 83 #[.int .i64 e0] := hdx
  have HA : Hd ((w.alloc (.cells #[.int .i64 x.lo, .int .i64 x.hi] 23)).alloc (.cells #[.int .i64 0, .int .i64 0] 23)) w.heap.size 23 #[.int .i64 x.lo, .int .i64 x.hi] := hdx
  have HO : Hd ((w.alloc (.cells #[.int .i64 x.lo, .int .i64 x.hi] 23)).alloc (.cells #[.int .i64 0, .int .i64 0] 23)) (w.heap.size + 1) 23 #[.int .i64 0, .int .i64 0] := hdx
  replace bw : But g w ((w.alloc (.cells #[.int .i64 x.lo, .int .i64 x.hi] 23)).alloc (.cells #[.int .i64 0, .int .i64 0] 23)) := butx
  obtain ⟨N, hN⟩ : ∃ N, x.lo * 1073741824 = N := ⟨_, rfl⟩
  obtain ⟨K, hK⟩ : ∃ K, x.hi * 1073741824 - 1 = K := ⟨_, rfl⟩
  have HN := Lib.hid hN
  have HK := Lib.hid hK
  clear hN hK
  go_loopw [5, 6, 7] (fun a b c wx => ∃ (t : Nat) (lo hi : Int), a = .int .i64 lo ∧ b = .int .i64 hi ∧ c = .int .i64 (En.bitAt t) ∧ 0 ≤ lo ∧ lo + 2 * En.bitAt t ≤ 137438953472 ∧ 0 ≤ hi ∧ hi + 2 * En.bitAt t ≤ 137438953472 ∧
      RowKit.Hid (En.bis N 37 0 = En.bis N t lo) ∧ RowKit.Hid (En.bis K 37 0 = En.bis K t hi) ∧ Hd wx g 83 #[.int .i64 e0] ∧ Hd wx w.heap.size 23 #[.int .i64 x.lo, .int .i64 x.hi] ∧ Hd wx (w.heap.size + 1) 23 #[.int .i64 0, .int .i64 0] ∧ But g w wx) (fun _ _ c _ => (intOf c).toNat)
  case atStart => exact ⟨37, 0, 0, rfl, rfl, rfl, by decide, by decide, by decide, by decide, Lib.hid rfl, Lib.hid rfl, HG, HA, HO, bw⟩
  case round =>
    clear HG HA HO bw
    obtain ⟨t, lo, hi, rfl, rfl, rfl, l0, l1, k0, k1, HL, HH, HG, HA, HO, bw⟩ := hrel
    have lwr : w.heap.size ≤ wr.heap.size := bw.size
    obtain ⟨hcA, hfA⟩ := HA.facts
    cases t with
    | zero =>
      have hz : En.bitAt 0 = 0 := rfl
      rw [hz] at l1 k1
      have hlo : En.root x.lo = lo := by rw [← En.root_bis x.lo hx.b, HN.out, HL.out]; rfl
      have hhi := En.high_bis x.hi hxh hx.d
      rw [HK.out, HH.out] at hhi
      change (if En.dn hi hi < x.hi then hi + 1 else hi) = _ at hhi
      clear hz
      have hro : En.roots x = En.span lo (if En.dn hi hi < x.hi then hi + 1 else hi) := by unfold En.roots; rw [hlo, hhi]
      have HRO := Lib.hid hro
      clear hro hlo hhi
      go_upto_region 9 with fail
      replace HG : Hd (wr.drew) g 83 #[.int .i64 e0] := hdx
      replace HA : Hd (wr.drew) w.heap.size 23 #[.int .i64 x.lo, .int .i64 x.hi] := hdx
      replace HO : Hd (wr.drew) (w.heap.size + 1) 23 #[.int .i64 0, .int .i64 0] := hdx
      replace bw : But g w (wr.drew) := butx
      (refine wp_region_eag (fun w' => Hd w' w.heap.size 23 #[.int .i64 x.lo, .int .i64 x.hi] ∧ But g w w') [(0, true), (1, true), (3, true), (4, true), (2, false), (5, true)] (by kernel_rfl) (by kernel_rfl) (fun c d v a w h => by cases d <;> exact h) ⟨HA, bw⟩ ?_; simp only [List.map_cons, List.map_nil, List.getD_cons_zero, List.getD_cons_succ, flMark, Nat.reduceEqDiff, ↓reduceIte])
      repeat ((first | with_reducible apply eag_move | with_reducible apply eag_assign | ((with_reducible refine eag_soft (v := ?_) (fun w' hw' => ?_) ?_); rotate_left 1; (focus (obtain ⟨hA, hBw⟩ := hw'; obtain ⟨hcA, hfA⟩ := hA.facts; go_simp; (try with_reducible rfl); done)))); simp only [Act.put, Act.eval, qs])
      refine eag_hard ?_
      go_wp2_with fail
      refine (timesDown_any hi hi (by omega) (by omega) (by omega) (by omega) _).mono ?_
      rintro e w'' ⟨rfl, rfl⟩
      go_wp2_with fail
      (try refine ⟨⟨HA, bw⟩, ?_⟩)
      repeat ((first | with_reducible apply eag_move | with_reducible apply eag_assign | ((with_reducible refine eag_soft (v := ?_) (fun w' hw' => ?_) ?_); rotate_left 1; (focus (obtain ⟨hA, hBw⟩ := hw'; obtain ⟨hcA, hfA⟩ := hA.facts; go_simp; (try with_reducible rfl); done)))); simp only [Act.put, Act.eval, qs])
      refine eag_nil ?_
      obtain ⟨hcO, hfO⟩ := HO.facts
      by_cases hd : En.dn hi hi < x.hi
      · have hd' := hd
        replace hd := Lib.hid hd
        go_wp2_with fail
        refine (wspan_any _ _ e0 g _ HG).mono ?_
        rintro e w41 ⟨z41, e41, rfl, ok41, zz41, qq41, HG41, hb41⟩
        replace bw : But g w w41 := bw.trans hb41
        replace HA := HA.but hb41 (by omega)
        replace HO := HO.but hb41 (by omega)
        replace HG := HG41
        clear HG41
        replace qq41 := Lib.hid qq41
        replace zz41 := Lib.hid zz41
        have lw41 : w.heap.size ≤ w41.heap.size := bw.size
        clear hb41
        obtain ⟨hcO, hfO⟩ := HO.facts
        go_wp2
        refine bodyPost_ret (run_results1 rfl rfl (by (show Hd _ (w.heap.size + 1) 23 #[.int .i64 z41.lo, .int .i64 z41.hi]); exact hdx) Try.underlying23 rfl (by kernel_rfl)) rfl ⟨z41, e41, rfl, ok41, zz41.out, (by rw [HRO.out, if_pos hd.out]; exact qq41.out), by exact hdx, by exact butx⟩
      · have hd' := hd
        replace hd := Lib.hid hd
        go_wp2_with fail
        refine (wspan_any _ _ e0 g _ HG).mono ?_
        rintro e w41 ⟨z41, e41, rfl, ok41, zz41, qq41, HG41, hb41⟩
        replace bw : But g w w41 := bw.trans hb41
        replace HA := HA.but hb41 (by omega)
        replace HO := HO.but hb41 (by omega)
        replace HG := HG41
        clear HG41
        replace qq41 := Lib.hid qq41
        replace zz41 := Lib.hid zz41
        have lw41 : w.heap.size ≤ w41.heap.size := bw.size
        clear hb41
        obtain ⟨hcO, hfO⟩ := HO.facts
        go_wp2
        refine bodyPost_ret (run_results1 rfl rfl (by (show Hd _ (w.heap.size + 1) 23 #[.int .i64 z41.lo, .int .i64 z41.hi]); exact hdx) Try.underlying23 rfl (by kernel_rfl)) rfl ⟨z41, e41, rfl, ok41, zz41.out, (by rw [HRO.out, if_neg (by have := hd.out; omega)]; exact qq41.out), by exact hdx, by exact butx⟩
    | succ k =>
      have hb0 := En.bitAt_pos k
      have hb1 := En.bitAt_half k
      have HU := Lib.hid (En.bis_up x.lo k lo)
      have HD := Lib.hid (En.bis_dn x.hi k hi)
      obtain ⟨B, hB⟩ : ∃ B, En.bitAt (k + 1) = B := ⟨_, rfl⟩
      rw [hB] at hb0 hb1 l1 k1
      replace HU := HU.out
      replace HD := HD.out
      rw [hB, HN.out] at HU
      rw [hB, HK.out] at HD
      replace HU := Lib.hid HU
      replace HD := Lib.hid HD
      rw [show (En.bitAt (k + 1)) = B from hB]
      clear hB
      have hbB : 2 * En.bitAt k ≤ B := by rw [← hb1, Int.tdiv_eq_ediv_of_nonneg (by omega)]; omega
      have hbN : 0 ≤ En.bitAt k := by rw [← hb1, Int.tdiv_eq_ediv_of_nonneg (by omega)]; omega
      have HB1 := Lib.hid hb1
      go_upto_region 5 with fail
      replace HG : Hd (wr.drew) g 83 #[.int .i64 e0] := hdx
      replace HA : Hd (wr.drew) w.heap.size 23 #[.int .i64 x.lo, .int .i64 x.hi] := hdx
      replace HO : Hd (wr.drew) (w.heap.size + 1) 23 #[.int .i64 0, .int .i64 0] := hdx
      replace bw : But g w (wr.drew) := butx
      (refine wp_region_eag (fun w' => Hd w' w.heap.size 23 #[.int .i64 x.lo, .int .i64 x.hi] ∧ But g w w') [(0, true), (1, true), (2, true), (3, true), (4, true), (5, true), (7, true), (8, true), (6, false), (9, true)] (by kernel_rfl) (by kernel_rfl) (fun c d v a w h => by cases d <;> exact h) ⟨HA, bw⟩ ?_; simp only [List.map_cons, List.map_nil, List.getD_cons_zero, List.getD_cons_succ, flMark, Nat.reduceEqDiff, ↓reduceIte])
      repeat ((first | with_reducible apply eag_move | with_reducible apply eag_assign | ((with_reducible refine eag_soft (v := ?_) (fun w' hw' => ?_) ?_); rotate_left 1; (focus (obtain ⟨hA, hBw⟩ := hw'; obtain ⟨hcA, hfA⟩ := hA.facts; go_simp; (try with_reducible rfl); done)))); simp only [Act.put, Act.eval, qs])
      refine eag_hard ?_
      go_wp2_with fail
      refine (timesUp_any (lo + B) (lo + B) (by omega) (by omega) (by omega) (by omega) _).mono ?_
      rintro e w'' ⟨rfl, rfl⟩
      go_wp2_with fail
      (try refine ⟨⟨HA, bw⟩, ?_⟩)
      repeat ((first | with_reducible apply eag_move | with_reducible apply eag_assign | ((with_reducible refine eag_soft (v := ?_) (fun w' hw' => ?_) ?_); rotate_left 1; (focus (obtain ⟨hA, hBw⟩ := hw'; obtain ⟨hcA, hfA⟩ := hA.facts; go_simp; (try with_reducible rfl); done)))); simp only [Act.put, Act.eval, qs])
      refine eag_nil ?_
      by_cases hu : En.up (lo + B) (lo + B) ≤ x.lo
      · have hu' := hu
        replace hu := Lib.hid hu
        go_upto_region 7 with fail
        replace HG : Hd ((wr.drew).drew) g 83 #[.int .i64 e0] := hdx
        replace HA : Hd ((wr.drew).drew) w.heap.size 23 #[.int .i64 x.lo, .int .i64 x.hi] := hdx
        replace HO : Hd ((wr.drew).drew) (w.heap.size + 1) 23 #[.int .i64 0, .int .i64 0] := hdx
        replace bw : But g w ((wr.drew).drew) := butx
        (refine wp_region_eag (fun w' => Hd w' w.heap.size 23 #[.int .i64 x.lo, .int .i64 x.hi] ∧ But g w w') [(0, true), (1, true), (2, true), (3, true), (4, true), (5, true), (7, true), (8, true), (6, false), (9, true)] (by kernel_rfl) (by kernel_rfl) (fun c d v a w h => by cases d <;> exact h) ⟨HA, bw⟩ ?_; simp only [List.map_cons, List.map_nil, List.getD_cons_zero, List.getD_cons_succ, flMark, Nat.reduceEqDiff, ↓reduceIte])
        repeat ((first | with_reducible apply eag_move | with_reducible apply eag_assign | ((with_reducible refine eag_soft (v := ?_) (fun w' hw' => ?_) ?_); rotate_left 1; (focus (obtain ⟨hA, hBw⟩ := hw'; obtain ⟨hcA, hfA⟩ := hA.facts; go_simp; (try with_reducible rfl); done)))); simp only [Act.put, Act.eval, qs])
        refine eag_hard ?_
        go_wp2_with fail
        refine (timesDown_any (hi + B) (hi + B) (by omega) (by omega) (by omega) (by omega) _).mono ?_
        rintro e w'' ⟨rfl, rfl⟩
        go_wp2_with fail
        (try refine ⟨⟨HA, bw⟩, ?_⟩)
        repeat ((first | with_reducible apply eag_move | with_reducible apply eag_assign | ((with_reducible refine eag_soft (v := ?_) (fun w' hw' => ?_) ?_); rotate_left 1; (focus (obtain ⟨hA, hBw⟩ := hw'; obtain ⟨hcA, hfA⟩ := hA.facts; go_simp; (try with_reducible rfl); done)))); simp only [Act.put, Act.eval, qs])
        refine eag_nil ?_
        by_cases hd : En.dn (hi + B) (hi + B) < x.hi
        · have hd' := hd
          replace hd := Lib.hid hd
          go_wp2_with fail
          refine ⟨⟨k, lo + B, hi + B, rfl, rfl, by rw [← HB1.out], by omega, by omega, by omega, by omega, Lib.hid (by rw [HL.out, HU.out, if_pos (by have := hu.out; omega)]), Lib.hid (by rw [HH.out, HD.out, if_pos (by have := hd.out; omega)]), HG, HA, HO, bw⟩, ?_⟩
          simp only [intOf]
          omega
        · have hd' := hd
          replace hd := Lib.hid hd
          go_wp2_with fail
          refine ⟨⟨k, lo + B, hi, rfl, rfl, by rw [← HB1.out], by omega, by omega, by omega, by omega, Lib.hid (by rw [HL.out, HU.out, if_pos (by have := hu.out; omega)]), Lib.hid (by rw [HH.out, HD.out, if_neg (by have := hd.out; omega)]), HG, HA, HO, bw⟩, ?_⟩
          simp only [intOf]
          omega
      · have hu' := hu
        replace hu := Lib.hid hu
        go_upto_region 7 with fail
        replace HG : Hd ((wr.drew).drew) g 83 #[.int .i64 e0] := hdx
        replace HA : Hd ((wr.drew).drew) w.heap.size 23 #[.int .i64 x.lo, .int .i64 x.hi] := hdx
        replace HO : Hd ((wr.drew).drew) (w.heap.size + 1) 23 #[.int .i64 0, .int .i64 0] := hdx
        replace bw : But g w ((wr.drew).drew) := butx
        (refine wp_region_eag (fun w' => Hd w' w.heap.size 23 #[.int .i64 x.lo, .int .i64 x.hi] ∧ But g w w') [(0, true), (1, true), (2, true), (3, true), (4, true), (5, true), (7, true), (8, true), (6, false), (9, true)] (by kernel_rfl) (by kernel_rfl) (fun c d v a w h => by cases d <;> exact h) ⟨HA, bw⟩ ?_; simp only [List.map_cons, List.map_nil, List.getD_cons_zero, List.getD_cons_succ, flMark, Nat.reduceEqDiff, ↓reduceIte])
        repeat ((first | with_reducible apply eag_move | with_reducible apply eag_assign | ((with_reducible refine eag_soft (v := ?_) (fun w' hw' => ?_) ?_); rotate_left 1; (focus (obtain ⟨hA, hBw⟩ := hw'; obtain ⟨hcA, hfA⟩ := hA.facts; go_simp; (try with_reducible rfl); done)))); simp only [Act.put, Act.eval, qs])
        refine eag_hard ?_
        go_wp2_with fail
        refine (timesDown_any (hi + B) (hi + B) (by omega) (by omega) (by omega) (by omega) _).mono ?_
        rintro e w'' ⟨rfl, rfl⟩
        go_wp2_with fail
        (try refine ⟨⟨HA, bw⟩, ?_⟩)
        repeat ((first | with_reducible apply eag_move | with_reducible apply eag_assign | ((with_reducible refine eag_soft (v := ?_) (fun w' hw' => ?_) ?_); rotate_left 1; (focus (obtain ⟨hA, hBw⟩ := hw'; obtain ⟨hcA, hfA⟩ := hA.facts; go_simp; (try with_reducible rfl); done)))); simp only [Act.put, Act.eval, qs])
        refine eag_nil ?_
        by_cases hd : En.dn (hi + B) (hi + B) < x.hi
        · have hd' := hd
          replace hd := Lib.hid hd
          go_wp2_with fail
          refine ⟨⟨k, lo, hi + B, rfl, rfl, by rw [← HB1.out], by omega, by omega, by omega, by omega, Lib.hid (by rw [HL.out, HU.out, if_neg (by have := hu.out; omega)]), Lib.hid (by rw [HH.out, HD.out, if_pos (by have := hd.out; omega)]), HG, HA, HO, bw⟩, ?_⟩
          simp only [intOf]
          omega
        · have hd' := hd
          replace hd := Lib.hid hd
          go_wp2_with fail
          refine ⟨⟨k, lo, hi, rfl, rfl, by rw [← HB1.out], by omega, by omega, by omega, by omega, Lib.hid (by rw [HL.out, HU.out, if_neg (by have := hu.out; omega)]), Lib.hid (by rw [HH.out, HD.out, if_neg (by have := hd.out; omega)]), HG, HA, HO, bw⟩, ?_⟩
          simp only [intOf]
          omega

theorem wpower_any (x : En.Rc) (hx : x.ok = true) (e0 : Int) (g : Nat) (w : World) (HG : Hd w g 83 #[.int .i64 e0]) :
    Calls Try.prog 83 #[ptr g, rcV x] w (PostW (En.power x) g e0 w) := by
  have hlt := HG.lt
  have bw := But.refl g w
  obtain ⟨xr, xi⟩ := En.Rc.fit_of_ok hx
  obtain ⟨hcG, hfG⟩ := HG.facts
  go_enter Try.func83, Try.ntmps83
  go_wp2_with fail
  replace HG : Hd ((w.alloc (.cells #[.int .i64 x.re.lo, .int .i64 x.re.hi, .int .i64 x.im.lo, .int .i64 x.im.hi] 25)).alloc (.cells #[.int .i64 0, .int .i64 0] 23)) g 83 #[.int .i64 e0] := hdx
  have HA : Hd ((w.alloc (.cells #[.int .i64 x.re.lo, .int .i64 x.re.hi, .int .i64 x.im.lo, .int .i64 x.im.hi] 25)).alloc (.cells #[.int .i64 0, .int .i64 0] 23)) w.heap.size 25 #[.int .i64 x.re.lo, .int .i64 x.re.hi, .int .i64 x.im.lo, .int .i64 x.im.hi] := hdx
  have HO : Hd ((w.alloc (.cells #[.int .i64 x.re.lo, .int .i64 x.re.hi, .int .i64 x.im.lo, .int .i64 x.im.hi] 25)).alloc (.cells #[.int .i64 0, .int .i64 0] 23)) (w.heap.size + 1) 23 #[.int .i64 0, .int .i64 0] := hdx
  replace bw : But g w ((w.alloc (.cells #[.int .i64 x.re.lo, .int .i64 x.re.hi, .int .i64 x.im.lo, .int .i64 x.im.hi] 25)).alloc (.cells #[.int .i64 0, .int .i64 0] 23)) := butx
  replace HG : Hd (((w.alloc (.cells #[.int .i64 x.re.lo, .int .i64 x.re.hi, .int .i64 x.im.lo, .int .i64 x.im.hi] 25)).alloc (.cells #[.int .i64 0, .int .i64 0] 23)).drew) g 83 #[.int .i64 e0] := hdx
  replace HA : Hd (((w.alloc (.cells #[.int .i64 x.re.lo, .int .i64 x.re.hi, .int .i64 x.im.lo, .int .i64 x.im.hi] 25)).alloc (.cells #[.int .i64 0, .int .i64 0] 23)).drew) w.heap.size 25 #[.int .i64 x.re.lo, .int .i64 x.re.hi, .int .i64 x.im.lo, .int .i64 x.im.hi] := hdx
  replace HO : Hd (((w.alloc (.cells #[.int .i64 x.re.lo, .int .i64 x.re.hi, .int .i64 x.im.lo, .int .i64 x.im.hi] 25)).alloc (.cells #[.int .i64 0, .int .i64 0] 23)).drew) (w.heap.size + 1) 23 #[.int .i64 0, .int .i64 0] := hdx
  replace bw : But g w (((w.alloc (.cells #[.int .i64 x.re.lo, .int .i64 x.re.hi, .int .i64 x.im.lo, .int .i64 x.im.hi] 25)).alloc (.cells #[.int .i64 0, .int .i64 0] 23)).drew) := butx
  (refine wp_region_eag (fun w' => Hd w' w.heap.size 25 #[.int .i64 x.re.lo, .int .i64 x.re.hi, .int .i64 x.im.lo, .int .i64 x.im.hi] ∧ But g w w') [(0, true), (1, true), (2, true), (3, true), (5, true), (6, true), (7, true), (4, false), (8, false), (9, false), (10, false)] (by kernel_rfl) (by kernel_rfl) (fun c d v a w h => by cases d <;> exact h) ⟨HA, bw⟩ ?_; simp only [List.map_cons, List.map_nil, List.getD_cons_zero, List.getD_cons_succ, flMark, Nat.reduceEqDiff, ↓reduceIte])
  repeat ((first | with_reducible apply eag_move | with_reducible apply eag_assign | ((with_reducible refine eag_soft (v := ?_) (fun w' hw' => ?_) ?_); rotate_left 1; (focus (obtain ⟨hA, hBw⟩ := hw'; obtain ⟨hcA, hfA⟩ := hA.facts; go_simp; (try with_reducible rfl); done)))); simp only [Act.put, Act.eval, qs])
  refine eag_hard ?_
  go_wp2_with fail
  refine (wsquare_any x.re xr e0 g _ HG).mono ?_
  rintro e w1 ⟨z1, e1, rfl, ok1, zz1, qq1, HG1, hb1⟩
  replace bw : But g w w1 := bw.trans hb1
  replace HA := HA.but hb1 (by omega)
  replace HO := HO.but hb1 (by omega)
  replace HG := HG1
  clear HG1
  replace qq1 := Lib.hid qq1
  replace zz1 := Lib.hid zz1
  have lw1 : w.heap.size ≤ w1.heap.size := bw.size
  clear hb1
  go_wp2_with fail
  (try refine ⟨⟨HA, bw⟩, ?_⟩)
  repeat ((first | with_reducible apply eag_move | with_reducible apply eag_assign | ((with_reducible refine eag_soft (v := ?_) (fun w' hw' => ?_) ?_); rotate_left 1; (focus (obtain ⟨hA, hBw⟩ := hw'; obtain ⟨hcA, hfA⟩ := hA.facts; go_simp; (try with_reducible rfl); done)))); simp only [Act.put, Act.eval, qs])
  refine eag_hard ?_
  go_wp2_with fail
  refine (wsquare_any x.im xi e1 g _ HG).mono ?_
  rintro e w2 ⟨z2, e2, rfl, ok2, zz2, qq2, HG2, hb2⟩
  replace bw : But g w w2 := bw.trans hb2
  replace HA := HA.but hb2 (by omega)
  replace HO := HO.but hb2 (by omega)
  replace HG := HG2
  clear HG2
  replace qq2 := Lib.hid qq2
  replace zz2 := Lib.hid zz2
  have lw2 : w.heap.size ≤ w2.heap.size := bw.size
  clear hb2
  go_wp2_with fail
  (try refine ⟨⟨HA, bw⟩, ?_⟩)
  repeat ((first | with_reducible apply eag_move | with_reducible apply eag_assign | ((with_reducible refine eag_soft (v := ?_) (fun w' hw' => ?_) ?_); rotate_left 1; (focus (obtain ⟨hA, hBw⟩ := hw'; obtain ⟨hcA, hfA⟩ := hA.facts; go_simp; (try with_reducible rfl); done)))); simp only [Act.put, Act.eval, qs])
  refine eag_hard ?_
  go_wp2_with fail
  refine (wsum_any z1 z2 (En.Sp.fit_of_ok ok1) (En.Sp.fit_of_ok ok2) e2 g _ HG).mono ?_
  rintro e w3 ⟨z3, e3, rfl, ok3, zz3, qq3, HG3, hb3⟩
  replace bw : But g w w3 := bw.trans hb3
  replace HA := HA.but hb3 (by omega)
  replace HO := HO.but hb3 (by omega)
  replace HG := HG3
  clear HG3
  replace qq3 := Lib.hid qq3
  replace zz3 := Lib.hid zz3
  have lw3 : w.heap.size ≤ w3.heap.size := bw.size
  clear hb3
  go_wp2_with fail
  (try refine ⟨⟨HA, bw⟩, ?_⟩)
  repeat ((first | with_reducible apply eag_move | with_reducible apply eag_assign | ((with_reducible refine eag_soft (v := ?_) (fun w' hw' => ?_) ?_); rotate_left 1; (focus (obtain ⟨hA, hBw⟩ := hw'; obtain ⟨hcA, hfA⟩ := hA.facts; go_simp; (try with_reducible rfl); done)))); simp only [Act.put, Act.eval, qs])
  obtain ⟨hcO, hfO⟩ := HO.facts
  refine eag_hard ?_
  go_wp2_with fail
  replace HG : Hd ((w3.setCell ⟨(w.heap.size + 1), 0, none⟩ (.int .i64 z3.lo)).setCell ⟨(w.heap.size + 1), 1, none⟩ (.int .i64 z3.hi)) g 83 #[.int .i64 e3] := hdx
  replace HA : Hd ((w3.setCell ⟨(w.heap.size + 1), 0, none⟩ (.int .i64 z3.lo)).setCell ⟨(w.heap.size + 1), 1, none⟩ (.int .i64 z3.hi)) w.heap.size 25 #[.int .i64 x.re.lo, .int .i64 x.re.hi, .int .i64 x.im.lo, .int .i64 x.im.hi] := hdx
  replace HO : Hd ((w3.setCell ⟨(w.heap.size + 1), 0, none⟩ (.int .i64 z3.lo)).setCell ⟨(w.heap.size + 1), 1, none⟩ (.int .i64 z3.hi)) (w.heap.size + 1) 23 #[.int .i64 z3.lo, .int .i64 z3.hi] := hdx
  replace bw : But g w ((w3.setCell ⟨(w.heap.size + 1), 0, none⟩ (.int .i64 z3.lo)).setCell ⟨(w.heap.size + 1), 1, none⟩ (.int .i64 z3.hi)) := butx
  (try refine ⟨⟨HA, bw⟩, ?_⟩)
  refine eag_nil ?_
  go_wp2
  refine bodyPost_ret (run_results1 rfl rfl (by (show Hd _ (w.heap.size + 1) 23 #[.int .i64 z3.lo, .int .i64 z3.hi]); exact hdx) Try.underlying23 rfl (by kernel_rfl)) rfl ⟨z3, e3, rfl, ok3, zz3.out, qq1.out.bind (qq2.out.bind qq3.out), by exact hdx, by exact butx⟩
end Go.Proofs.Ytpbbbfglecbceaa
/- The document's points of the unit circle. -/
namespace Go.Proofs.Ytpbbbfglecbceaa
set_option linter.all false
open Go.RowKit

theorem En.Stk.sure {α : Type} {r : En.R α} {z v : α} {e' : Int} (h : En.Stk r 0 z e') (hr : r = .ok v) : v = z ∧ e' = 0 := by
  rcases h.zero with ⟨h1, h2⟩ | ⟨h1, h2⟩
  · rw [hr] at h1
    cases h1
    exact ⟨rfl, h2⟩
  · rw [hr] at h1
    cases h1
theorem whole1 (w : World) : Calls Try.prog 64 #[.int .i64 (1)] w fun e w' => e = .returned (.agg #[.int .i64 1073741824, .int .i64 1073741824, .int .i64 0, .int .i64 0]) ∧ Below w.heap.size w w' := by
  go_enter Try.func64, Try.ntmps64
  go_wp2
  refine bodyPost_ret (run_results1 rfl rfl (by (show Hd _ (w.heap.size) 25 #[.int .i64 1073741824, .int .i64 1073741824, .int .i64 0, .int .i64 0]); exact hdx) Try.underlying25 rfl (by kernel_rfl)) rfl ⟨rfl, by go_grown⟩
theorem wholem (w : World) : Calls Try.prog 64 #[.int .i64 (-1)] w fun e w' => e = .returned (.agg #[.int .i64 (-1073741824), .int .i64 (-1073741824), .int .i64 0, .int .i64 0]) ∧ Below w.heap.size w w' := by
  go_enter Try.func64, Try.ntmps64
  go_wp2
  refine bodyPost_ret (run_results1 rfl rfl (by (show Hd _ (w.heap.size) 25 #[.int .i64 (-1073741824), .int .i64 (-1073741824), .int .i64 0, .int .i64 0]); exact hdx) Try.underlying25 rfl (by kernel_rfl)) rfl ⟨rfl, by go_grown⟩

set_option maxHeartbeats 4000000 in
theorem wpoint_any (j0 : Nat) (hj : 1 ≤ j0) (hj8 : j0 ≤ 8) (k0 : Int) (hk0 : k0 = (j0 : Int) + 2) (g : Nat) (w : World) (HG : Hd w g 83 #[.int .i64 0]) :
    Calls Try.prog 66 #[ptr g, .int .i64 k0] w fun e w' => e = .returned (rcV ⟨En.tabC j0, En.tabS j0⟩) ∧ Hd w' g 83 #[.int .i64 0] ∧ But g w w' := by
  have hlt := HG.lt
  have bw := But.refl g w
  have hfd := field_re
  have HJ := Lib.hid hj
  clear hj
  go_enter Try.func66, Try.ntmps66
  go_wp2_with fail
  replace HG : Hd (w.alloc (.cells #[.int .i64 0, .int .i64 0, .int .i64 0, .int .i64 0] 25)) g 83 #[.int .i64 0] := hdx
  have HO : Hd (w.alloc (.cells #[.int .i64 0, .int .i64 0, .int .i64 0, .int .i64 0] 25)) w.heap.size 25 #[.int .i64 0, .int .i64 0, .int .i64 0, .int .i64 0] := hdx
  replace bw : But g w (w.alloc (.cells #[.int .i64 0, .int .i64 0, .int .i64 0, .int .i64 0] 25)) := butx
  refine (whole1 _).mono ?_
  rintro e w1 ⟨rfl, hb1⟩
  replace bw : But g w w1 := bw.below hb1
  replace HG := HG.call hb1
  replace HO := HO.call hb1
  have lw1 : w.heap.size ≤ w1.heap.size := bw.size
  clear hb1
  have ltO := HO.lt
  go_wp2
  replace HG : Hd (((w1.alloc (.cells #[.int .i64 1073741824, .int .i64 1073741824] 23)).alloc (.cells #[.int .i64 0, .int .i64 0] 23)).alloc (.cells #[.int .i64 0, .int .i64 0] 23)) g 83 #[.int .i64 0] := hdx
  replace HO : Hd (((w1.alloc (.cells #[.int .i64 1073741824, .int .i64 1073741824] 23)).alloc (.cells #[.int .i64 0, .int .i64 0] 23)).alloc (.cells #[.int .i64 0, .int .i64 0] 23)) w.heap.size 25 #[.int .i64 0, .int .i64 0, .int .i64 0, .int .i64 0] := hdx
  replace bw : But g w (((w1.alloc (.cells #[.int .i64 1073741824, .int .i64 1073741824] 23)).alloc (.cells #[.int .i64 0, .int .i64 0] 23)).alloc (.cells #[.int .i64 0, .int .i64 0] 23)) := butx
  have HP : Hd (((w1.alloc (.cells #[.int .i64 1073741824, .int .i64 1073741824] 23)).alloc (.cells #[.int .i64 0, .int .i64 0] 23)).alloc (.cells #[.int .i64 0, .int .i64 0] 23)) w1.heap.size 23 #[.int .i64 1073741824, .int .i64 1073741824] := hdx
  have HC : Hd (((w1.alloc (.cells #[.int .i64 1073741824, .int .i64 1073741824] 23)).alloc (.cells #[.int .i64 0, .int .i64 0] 23)).alloc (.cells #[.int .i64 0, .int .i64 0] 23)) (w1.heap.size + 1) 23 #[.int .i64 0, .int .i64 0] := hdx
  have HD : Hd (((w1.alloc (.cells #[.int .i64 1073741824, .int .i64 1073741824] 23)).alloc (.cells #[.int .i64 0, .int .i64 0] 23)).alloc (.cells #[.int .i64 0, .int .i64 0] 23)) (w1.heap.size + 1 + 1) 23 #[.int .i64 0, .int .i64 0] := hdx
  go_loopw [8] (fun b wx => ∃ (j : Nat) (sv : En.Sp) (kk : Int), j ≤ j0 ∧ kk = (j : Int) + 2 ∧ b = .int .i64 kk ∧ RowKit.Hid (0 < j → sv = En.tabS j) ∧ Hd wx g 83 #[.int .i64 0] ∧ Hd wx w.heap.size 25 #[.int .i64 0, .int .i64 0, .int .i64 0, .int .i64 0] ∧ Hd wx w1.heap.size 23 #[.int .i64 1073741824, .int .i64 1073741824] ∧
      Hd wx (w1.heap.size + 1) 23 #[.int .i64 (En.tabC j).lo, .int .i64 (En.tabC j).hi] ∧ Hd wx (w1.heap.size + 1 + 1) 23 #[.int .i64 sv.lo, .int .i64 sv.hi] ∧ But g w wx) (fun b _ => (k0 - intOf b).toNat)
  case atStart => exact ⟨0, ⟨0, 0⟩, 2, by omega, by omega, rfl, Lib.hid (fun h => absurd h (by omega)), HG, HO, HP, HC, HD, bw⟩
  case round =>
    clear HG HO HP HC HD bw ltO
    obtain ⟨j, sv, kk, hjj, hkk, rfl, HSV, HG, HO, HP, HC, HD, bw⟩ := hrel
    have lwr : w.heap.size ≤ wr.heap.size := bw.size
    by_cases hjl : j < j0
    · have hlt2 : kk < k0 := by omega
      obtain ⟨d, hf0, ep, g', hd, hh, h0, ho, hr, he, hg, g0, go, hq⟩ := En.tab_step j (by omega)
      have HD1 := Lib.hid hd
      have HH1 := Lib.hid hh
      have H01 := Lib.hid h0
      have HO1 := Lib.hid ho
      have HR1 := Lib.hid hr
      have HE1 := Lib.hid he
      have HG1 := Lib.hid hg
      have HG0 := Lib.hid g0
      have HGO := Lib.hid go
      have HQ1 := Lib.hid hq
      clear hd hh h0 ho hr he hg g0 go hq
      go_upto_region 6 with fail
      replace HG : Hd (wr.drew) g 83 #[.int .i64 0] := hdx
      replace HO : Hd (wr.drew) w.heap.size 25 #[.int .i64 0, .int .i64 0, .int .i64 0, .int .i64 0] := hdx
      replace HP : Hd (wr.drew) w1.heap.size 23 #[.int .i64 1073741824, .int .i64 1073741824] := hdx
      replace HC : Hd (wr.drew) (w1.heap.size + 1) 23 #[.int .i64 (En.tabC j).lo, .int .i64 (En.tabC j).hi] := hdx
      replace HD : Hd (wr.drew) (w1.heap.size + 1 + 1) 23 #[.int .i64 sv.lo, .int .i64 sv.hi] := hdx
      replace bw : But g w (wr.drew) := butx
      (refine wp_region_fl (fun w' => Hd w' w1.heap.size 23 #[.int .i64 1073741824, .int .i64 1073741824] ∧ But g w w') 12 [(0, 0), (1, 0), (2, 0), (3, 0), (8, 0), (9, 0), (10, 0), (11, 0), (4, 2), (5, 2), (6, 2), (7, 2), (12, 1), (13, 1), (14, 1), (15, 1), (16, 1), (17, 1)] (by kernel_rfl) (by kernel_rfl) (fun c d v a w h => by cases d <;> exact h) ⟨HP, bw⟩ ?_; simp only [List.map_cons, List.map_nil, List.getD_cons_zero, List.getD_cons_succ, flMark, Nat.reduceEqDiff, ↓reduceIte])
      generalize hW : wr.drew = w11 at HG HO HP HC HD bw ⊢
      clear hW
      have lw11 : w.heap.size ≤ w11.heap.size := bw.size
      repeat ((first | with_reducible apply fl_move | with_reducible apply fl_assign | ((with_reducible refine fl_soft (v := ?_) (fun w' hw' => ?_) ?_); rotate_left 1; (focus (obtain ⟨hP, hBw⟩ := hw'; obtain ⟨hcP, hfP⟩ := hP.facts; go_simp; (try with_reducible rfl); done)))); simp only [Act.put, Act.eval, qs])
      refine fl_both ?_ ?_
      · obtain ⟨hcC, hfC⟩ := HC.facts
        go_wp2_with fail
        (try refine ⟨⟨HP, bw⟩, ?_⟩)
        repeat ((first | with_reducible apply fl_move | with_reducible apply fl_assign | ((with_reducible refine fl_soft (v := ?_) (fun w' hw' => ?_) ?_); rotate_left 1; (focus (obtain ⟨hP, hBw⟩ := hw'; obtain ⟨hcP, hfP⟩ := hP.facts; go_simp; (try with_reducible rfl); done)))); simp only [Act.put, Act.eval, qs])
        refine fl_both ?_ ?_
        · go_wp2_with fail
          refine (wsum_any En.one (En.tabC j) (En.Sp.fit_of_ok (s := En.one) (by decide)) (En.Sp.fit_of_ok (En.tab_ok j).1) 0 g _ HG).mono ?_
          rintro e w12 ⟨z12, e12, rfl, ok12, _, qq12, HG12, hb12⟩
          obtain ⟨rfl, rfl⟩ := qq12.sure HE1.out
          clear ok12 qq12
          replace bw := bw.trans hb12
          replace HO := HO.but hb12 (by omega)
          replace HP := HP.but hb12 (by omega)
          replace HC := HC.but hb12 (by omega)
          replace HD := HD.but hb12 (by omega)
          replace HG := HG12
          clear HG12
          have lw12 : w.heap.size ≤ w12.heap.size := bw.size
          clear hb12
          go_wp2_with fail
          (try refine ⟨⟨HP, bw⟩, ?_⟩)
          repeat ((first | with_reducible apply fl_move | with_reducible apply fl_assign | ((with_reducible refine fl_soft (v := ?_) (fun w' hw' => ?_) ?_); rotate_left 1; (focus (obtain ⟨hP, hBw⟩ := hw'; obtain ⟨hcP, hfP⟩ := hP.facts; go_simp; (try with_reducible rfl); done)))); simp only [Act.put, Act.eval, qs])
          refine fl_both ?_ ?_
          · go_wp2_with fail
            refine (whalf_any ep (En.Sp.fit_of_ok (En.add_ok HE1.out)) 0 g _ HG).mono ?_
            rintro e w13 ⟨z13, e13, rfl, ok13, _, qq13, HG13, hb13⟩
            obtain ⟨rfl, rfl⟩ := qq13.sure HG1.out
            clear ok13 qq13
            replace bw := bw.trans hb13
            replace HO := HO.but hb13 (by omega)
            replace HP := HP.but hb13 (by omega)
            replace HC := HC.but hb13 (by omega)
            replace HD := HD.but hb13 (by omega)
            replace HG := HG13
            clear HG13
            have lw13 : w.heap.size ≤ w13.heap.size := bw.size
            clear hb13
            go_wp2_with fail
            (try refine ⟨⟨HP, bw⟩, ?_⟩)
            repeat ((first | with_reducible apply fl_move | with_reducible apply fl_assign | ((with_reducible refine fl_soft (v := ?_) (fun w' hw' => ?_) ?_); rotate_left 1; (focus (obtain ⟨hP, hBw⟩ := hw'; obtain ⟨hcP, hfP⟩ := hP.facts; go_simp; (try with_reducible rfl); done)))); simp only [Act.put, Act.eval, qs])
            refine fl_both ?_ ?_
            · go_wp2_with fail
              refine (wroot_any g' (En.Sp.fit_of_ok HGO.out) HG0.out (Int.le_trans HG0.out (En.Sp.le_of_ok HGO.out)) 0 g _ HG).mono ?_
              rintro e w14 ⟨z14, e14, rfl, ok14, _, qq14, HG14, hb14⟩
              obtain ⟨rfl, rfl⟩ := qq14.sure HQ1.out
              clear ok14 qq14
              replace bw := bw.trans hb14
              replace HO := HO.but hb14 (by omega)
              replace HP := HP.but hb14 (by omega)
              replace HC := HC.but hb14 (by omega)
              replace HD := HD.but hb14 (by omega)
              replace HG := HG14
              clear HG14
              have lw14 : w.heap.size ≤ w14.heap.size := bw.size
              clear hb14
              go_wp2_with fail
              (try refine ⟨⟨HP, bw⟩, ?_⟩)
              repeat ((first | with_reducible apply fl_move | with_reducible apply fl_assign | ((with_reducible refine fl_soft (v := ?_) (fun w' hw' => ?_) ?_); rotate_left 1; (focus (obtain ⟨hP, hBw⟩ := hw'; obtain ⟨hcP, hfP⟩ := hP.facts; go_simp; (try with_reducible rfl); done)))); simp only [Act.put, Act.eval, qs])
              refine fl_must ?_
              obtain ⟨hcC, hfC⟩ := HC.facts
              go_wp2_with fail
              (try refine ⟨⟨HP, bw⟩, ?_⟩)
              repeat ((first | with_reducible apply fl_move | with_reducible apply fl_assign | ((with_reducible refine fl_soft (v := ?_) (fun w' hw' => ?_) ?_); rotate_left 1; (focus (obtain ⟨hP, hBw⟩ := hw'; obtain ⟨hcP, hfP⟩ := hP.facts; go_simp; (try with_reducible rfl); done)))); simp only [Act.put, Act.eval, qs])
              repeat ((first | with_reducible apply fl_move | with_reducible apply fl_assign | ((with_reducible refine fl_soft (v := ?_) (fun w' hw' => ?_) ?_); rotate_left 1; (focus (obtain ⟨hP, hBw⟩ := hw'; obtain ⟨hcP, hfP⟩ := hP.facts; go_simp; (try with_reducible rfl); done)))); simp only [Act.put, Act.eval, qs])
              refine fl_hard ?_
              go_wp2_with fail
              refine (wless_any En.one (En.tabC j) (En.Sp.fit_of_ok (s := En.one) (by decide)) (En.Sp.fit_of_ok (En.tab_ok j).1) 0 g _ HG).mono ?_
              rintro e w15 ⟨z15, e15, rfl, ok15, _, qq15, HG15, hb15⟩
              obtain ⟨rfl, rfl⟩ := qq15.sure HD1.out
              clear ok15 qq15
              replace bw := bw.trans hb15
              replace HO := HO.but hb15 (by omega)
              replace HP := HP.but hb15 (by omega)
              replace HC := HC.but hb15 (by omega)
              replace HD := HD.but hb15 (by omega)
              replace HG := HG15
              clear HG15
              have lw15 : w.heap.size ≤ w15.heap.size := bw.size
              clear hb15
              go_wp2_with fail
              (try refine ⟨⟨HP, bw⟩, ?_⟩)
              repeat ((first | with_reducible apply fl_move | with_reducible apply fl_assign | ((with_reducible refine fl_soft (v := ?_) (fun w' hw' => ?_) ?_); rotate_left 1; (focus (obtain ⟨hP, hBw⟩ := hw'; obtain ⟨hcP, hfP⟩ := hP.facts; go_simp; (try with_reducible rfl); done)))); simp only [Act.put, Act.eval, qs])
              refine fl_hard ?_
              go_wp2_with fail
              refine (whalf_any d (En.Sp.fit_of_ok (En.sub_ok HD1.out)) 0 g _ HG).mono ?_
              rintro e w16 ⟨z16, e16, rfl, ok16, _, qq16, HG16, hb16⟩
              obtain ⟨rfl, rfl⟩ := qq16.sure HH1.out
              clear ok16 qq16
              replace bw := bw.trans hb16
              replace HO := HO.but hb16 (by omega)
              replace HP := HP.but hb16 (by omega)
              replace HC := HC.but hb16 (by omega)
              replace HD := HD.but hb16 (by omega)
              replace HG := HG16
              clear HG16
              have lw16 : w.heap.size ≤ w16.heap.size := bw.size
              clear hb16
              go_wp2_with fail
              (try refine ⟨⟨HP, bw⟩, ?_⟩)
              repeat ((first | with_reducible apply fl_move | with_reducible apply fl_assign | ((with_reducible refine fl_soft (v := ?_) (fun w' hw' => ?_) ?_); rotate_left 1; (focus (obtain ⟨hP, hBw⟩ := hw'; obtain ⟨hcP, hfP⟩ := hP.facts; go_simp; (try with_reducible rfl); done)))); simp only [Act.put, Act.eval, qs])
              refine fl_hard ?_
              go_wp2_with fail
              refine (wroot_any hf0 (En.Sp.fit_of_ok HO1.out) H01.out (Int.le_trans H01.out (En.Sp.le_of_ok HO1.out)) 0 g _ HG).mono ?_
              rintro e w17 ⟨z17, e17, rfl, ok17, _, qq17, HG17, hb17⟩
              obtain ⟨rfl, rfl⟩ := qq17.sure HR1.out
              clear ok17 qq17
              replace bw := bw.trans hb17
              replace HO := HO.but hb17 (by omega)
              replace HP := HP.but hb17 (by omega)
              replace HC := HC.but hb17 (by omega)
              replace HD := HD.but hb17 (by omega)
              replace HG := HG17
              clear HG17
              have lw17 : w.heap.size ≤ w17.heap.size := bw.size
              clear hb17
              go_wp2_with fail
              (try refine ⟨⟨HP, bw⟩, ?_⟩)
              repeat ((first | with_reducible apply fl_move | with_reducible apply fl_assign | ((with_reducible refine fl_soft (v := ?_) (fun w' hw' => ?_) ?_); rotate_left 1; (focus (obtain ⟨hP, hBw⟩ := hw'; obtain ⟨hcP, hfP⟩ := hP.facts; go_simp; (try with_reducible rfl); done)))); simp only [Act.put, Act.eval, qs])
              refine fl_hard ?_
              obtain ⟨hcC, hfC⟩ := HC.facts
              go_wp2_with fail
              have PG := HG
              have PO := HO
              have PP := HP
              have PC := HC
              have PD := HD
              have Pbw := bw
              replace HG : Hd ((w17.setCell ⟨(w1.heap.size + 1), 0, none⟩ (.int .i64 (En.tabC (j + 1)).lo)).setCell ⟨(w1.heap.size + 1), 1, none⟩ (.int .i64 (En.tabC (j + 1)).hi)) g 83 #[.int .i64 0] := hdx
              replace HO : Hd ((w17.setCell ⟨(w1.heap.size + 1), 0, none⟩ (.int .i64 (En.tabC (j + 1)).lo)).setCell ⟨(w1.heap.size + 1), 1, none⟩ (.int .i64 (En.tabC (j + 1)).hi)) w.heap.size 25 #[.int .i64 0, .int .i64 0, .int .i64 0, .int .i64 0] := hdx
              replace HP : Hd ((w17.setCell ⟨(w1.heap.size + 1), 0, none⟩ (.int .i64 (En.tabC (j + 1)).lo)).setCell ⟨(w1.heap.size + 1), 1, none⟩ (.int .i64 (En.tabC (j + 1)).hi)) w1.heap.size 23 #[.int .i64 1073741824, .int .i64 1073741824] := hdx
              replace HC : Hd ((w17.setCell ⟨(w1.heap.size + 1), 0, none⟩ (.int .i64 (En.tabC (j + 1)).lo)).setCell ⟨(w1.heap.size + 1), 1, none⟩ (.int .i64 (En.tabC (j + 1)).hi)) (w1.heap.size + 1) 23 #[.int .i64 (En.tabC (j + 1)).lo, .int .i64 (En.tabC (j + 1)).hi] := hdx
              replace HD : Hd ((w17.setCell ⟨(w1.heap.size + 1), 0, none⟩ (.int .i64 (En.tabC (j + 1)).lo)).setCell ⟨(w1.heap.size + 1), 1, none⟩ (.int .i64 (En.tabC (j + 1)).hi)) (w1.heap.size + 1 + 1) 23 #[.int .i64 sv.lo, .int .i64 sv.hi] := hdx
              replace bw : But g w ((w17.setCell ⟨(w1.heap.size + 1), 0, none⟩ (.int .i64 (En.tabC (j + 1)).lo)).setCell ⟨(w1.heap.size + 1), 1, none⟩ (.int .i64 (En.tabC (j + 1)).hi)) := butx
              (try refine ⟨⟨HP, bw⟩, ?_⟩)
              repeat ((first | with_reducible apply fl_move | with_reducible apply fl_assign | ((with_reducible refine fl_soft (v := ?_) (fun w' hw' => ?_) ?_); rotate_left 1; (focus (obtain ⟨hP, hBw⟩ := hw'; obtain ⟨hcP, hfP⟩ := hP.facts; go_simp; (try with_reducible rfl); done)))); simp only [Act.put, Act.eval, qs])
              refine fl_hard ?_
              generalize hW : (w17.setCell ⟨(w1.heap.size + 1), 0, none⟩ (.int .i64 (En.tabC (j + 1)).lo)).setCell ⟨(w1.heap.size + 1), 1, none⟩ (.int .i64 (En.tabC (j + 1)).hi) = w18 at HG HO HP HC HD bw ⊢
              clear hW
              have lw18 : w.heap.size ≤ w18.heap.size := bw.size
              obtain ⟨hcD, hfD⟩ := HD.facts
              go_wp2_with fail
              have PG := HG
              have PO := HO
              have PP := HP
              have PC := HC
              have PD := HD
              have Pbw := bw
              replace HG : Hd ((w18.setCell ⟨(w1.heap.size + 1 + 1), 0, none⟩ (.int .i64 (En.tabS (j + 1)).lo)).setCell ⟨(w1.heap.size + 1 + 1), 1, none⟩ (.int .i64 (En.tabS (j + 1)).hi)) g 83 #[.int .i64 0] := hdx
              replace HO : Hd ((w18.setCell ⟨(w1.heap.size + 1 + 1), 0, none⟩ (.int .i64 (En.tabS (j + 1)).lo)).setCell ⟨(w1.heap.size + 1 + 1), 1, none⟩ (.int .i64 (En.tabS (j + 1)).hi)) w.heap.size 25 #[.int .i64 0, .int .i64 0, .int .i64 0, .int .i64 0] := hdx
              replace HP : Hd ((w18.setCell ⟨(w1.heap.size + 1 + 1), 0, none⟩ (.int .i64 (En.tabS (j + 1)).lo)).setCell ⟨(w1.heap.size + 1 + 1), 1, none⟩ (.int .i64 (En.tabS (j + 1)).hi)) w1.heap.size 23 #[.int .i64 1073741824, .int .i64 1073741824] := hdx
              replace HC : Hd ((w18.setCell ⟨(w1.heap.size + 1 + 1), 0, none⟩ (.int .i64 (En.tabS (j + 1)).lo)).setCell ⟨(w1.heap.size + 1 + 1), 1, none⟩ (.int .i64 (En.tabS (j + 1)).hi)) (w1.heap.size + 1) 23 #[.int .i64 (En.tabC (j + 1)).lo, .int .i64 (En.tabC (j + 1)).hi] := hdx
              replace HD : Hd ((w18.setCell ⟨(w1.heap.size + 1 + 1), 0, none⟩ (.int .i64 (En.tabS (j + 1)).lo)).setCell ⟨(w1.heap.size + 1 + 1), 1, none⟩ (.int .i64 (En.tabS (j + 1)).hi)) (w1.heap.size + 1 + 1) 23 #[.int .i64 (En.tabS (j + 1)).lo, .int .i64 (En.tabS (j + 1)).hi] := hdx
              replace bw : But g w ((w18.setCell ⟨(w1.heap.size + 1 + 1), 0, none⟩ (.int .i64 (En.tabS (j + 1)).lo)).setCell ⟨(w1.heap.size + 1 + 1), 1, none⟩ (.int .i64 (En.tabS (j + 1)).hi)) := butx
              (try refine ⟨⟨HP, bw⟩, ?_⟩)
              repeat ((first | with_reducible apply fl_move | with_reducible apply fl_assign | ((with_reducible refine fl_soft (v := ?_) (fun w' hw' => ?_) ?_); rotate_left 1; (focus (obtain ⟨hP, hBw⟩ := hw'; obtain ⟨hcP, hfP⟩ := hP.facts; go_simp; (try with_reducible rfl); done)))); simp only [Act.put, Act.eval, qs])
              refine fl_nil ?_
              go_wp2_with fail
              exact ⟨⟨j + 1, En.tabS (j + 1), kk + 1, by omega, by omega, (by rw [hkk]), Lib.hid (fun _ => rfl), HG, HO, HP, HC, HD, bw⟩, by simp only [intOf]; omega⟩
            · obtain ⟨hcC, hfC⟩ := HC.facts
              go_wp2_with fail
              (try refine ⟨⟨HP, bw⟩, ?_⟩)
              repeat ((first | with_reducible apply eag_move | with_reducible apply eag_assign | ((with_reducible refine eag_soft (v := ?_) (fun w' hw' => ?_) ?_); rotate_left 1; (focus (obtain ⟨hP, hBw⟩ := hw'; obtain ⟨hcP, hfP⟩ := hP.facts; go_simp; (try with_reducible rfl); done)))); simp only [Act.put, Act.eval, qs])
              repeat ((first | with_reducible apply eag_move | with_reducible apply eag_assign | ((with_reducible refine eag_soft (v := ?_) (fun w' hw' => ?_) ?_); rotate_left 1; (focus (obtain ⟨hP, hBw⟩ := hw'; obtain ⟨hcP, hfP⟩ := hP.facts; go_simp; (try with_reducible rfl); done)))); simp only [Act.put, Act.eval, qs])
              refine eag_hard ?_
              go_wp2_with fail
              refine (wroot_any g' (En.Sp.fit_of_ok HGO.out) HG0.out (Int.le_trans HG0.out (En.Sp.le_of_ok HGO.out)) 0 g _ HG).mono ?_
              rintro e w14 ⟨z14, e14, rfl, ok14, _, qq14, HG14, hb14⟩
              obtain ⟨rfl, rfl⟩ := qq14.sure HQ1.out
              clear ok14 qq14
              replace bw := bw.trans hb14
              replace HO := HO.but hb14 (by omega)
              replace HP := HP.but hb14 (by omega)
              replace HC := HC.but hb14 (by omega)
              replace HD := HD.but hb14 (by omega)
              replace HG := HG14
              clear HG14
              have lw14 : w.heap.size ≤ w14.heap.size := bw.size
              clear hb14
              go_wp2_with fail
              (try refine ⟨⟨HP, bw⟩, ?_⟩)
              repeat ((first | with_reducible apply eag_move | with_reducible apply eag_assign | ((with_reducible refine eag_soft (v := ?_) (fun w' hw' => ?_) ?_); rotate_left 1; (focus (obtain ⟨hP, hBw⟩ := hw'; obtain ⟨hcP, hfP⟩ := hP.facts; go_simp; (try with_reducible rfl); done)))); simp only [Act.put, Act.eval, qs])
              refine eag_hard ?_
              go_wp2_with fail
              refine (wless_any En.one (En.tabC j) (En.Sp.fit_of_ok (s := En.one) (by decide)) (En.Sp.fit_of_ok (En.tab_ok j).1) 0 g _ HG).mono ?_
              rintro e w15 ⟨z15, e15, rfl, ok15, _, qq15, HG15, hb15⟩
              obtain ⟨rfl, rfl⟩ := qq15.sure HD1.out
              clear ok15 qq15
              replace bw := bw.trans hb15
              replace HO := HO.but hb15 (by omega)
              replace HP := HP.but hb15 (by omega)
              replace HC := HC.but hb15 (by omega)
              replace HD := HD.but hb15 (by omega)
              replace HG := HG15
              clear HG15
              have lw15 : w.heap.size ≤ w15.heap.size := bw.size
              clear hb15
              go_wp2_with fail
              (try refine ⟨⟨HP, bw⟩, ?_⟩)
              repeat ((first | with_reducible apply eag_move | with_reducible apply eag_assign | ((with_reducible refine eag_soft (v := ?_) (fun w' hw' => ?_) ?_); rotate_left 1; (focus (obtain ⟨hP, hBw⟩ := hw'; obtain ⟨hcP, hfP⟩ := hP.facts; go_simp; (try with_reducible rfl); done)))); simp only [Act.put, Act.eval, qs])
              refine eag_hard ?_
              go_wp2_with fail
              refine (whalf_any d (En.Sp.fit_of_ok (En.sub_ok HD1.out)) 0 g _ HG).mono ?_
              rintro e w16 ⟨z16, e16, rfl, ok16, _, qq16, HG16, hb16⟩
              obtain ⟨rfl, rfl⟩ := qq16.sure HH1.out
              clear ok16 qq16
              replace bw := bw.trans hb16
              replace HO := HO.but hb16 (by omega)
              replace HP := HP.but hb16 (by omega)
              replace HC := HC.but hb16 (by omega)
              replace HD := HD.but hb16 (by omega)
              replace HG := HG16
              clear HG16
              have lw16 : w.heap.size ≤ w16.heap.size := bw.size
              clear hb16
              go_wp2_with fail
              (try refine ⟨⟨HP, bw⟩, ?_⟩)
              repeat ((first | with_reducible apply eag_move | with_reducible apply eag_assign | ((with_reducible refine eag_soft (v := ?_) (fun w' hw' => ?_) ?_); rotate_left 1; (focus (obtain ⟨hP, hBw⟩ := hw'; obtain ⟨hcP, hfP⟩ := hP.facts; go_simp; (try with_reducible rfl); done)))); simp only [Act.put, Act.eval, qs])
              refine eag_hard ?_
              go_wp2_with fail
              refine (wroot_any hf0 (En.Sp.fit_of_ok HO1.out) H01.out (Int.le_trans H01.out (En.Sp.le_of_ok HO1.out)) 0 g _ HG).mono ?_
              rintro e w17 ⟨z17, e17, rfl, ok17, _, qq17, HG17, hb17⟩
              obtain ⟨rfl, rfl⟩ := qq17.sure HR1.out
              clear ok17 qq17
              replace bw := bw.trans hb17
              replace HO := HO.but hb17 (by omega)
              replace HP := HP.but hb17 (by omega)
              replace HC := HC.but hb17 (by omega)
              replace HD := HD.but hb17 (by omega)
              replace HG := HG17
              clear HG17
              have lw17 : w.heap.size ≤ w17.heap.size := bw.size
              clear hb17
              go_wp2_with fail
              (try refine ⟨⟨HP, bw⟩, ?_⟩)
              repeat ((first | with_reducible apply eag_move | with_reducible apply eag_assign | ((with_reducible refine eag_soft (v := ?_) (fun w' hw' => ?_) ?_); rotate_left 1; (focus (obtain ⟨hP, hBw⟩ := hw'; obtain ⟨hcP, hfP⟩ := hP.facts; go_simp; (try with_reducible rfl); done)))); simp only [Act.put, Act.eval, qs])
              refine eag_hard ?_
              obtain ⟨hcC, hfC⟩ := HC.facts
              go_wp2_with fail
              have PG := HG
              have PO := HO
              have PP := HP
              have PC := HC
              have PD := HD
              have Pbw := bw
              replace HG : Hd ((w17.setCell ⟨(w1.heap.size + 1), 0, none⟩ (.int .i64 (En.tabC (j + 1)).lo)).setCell ⟨(w1.heap.size + 1), 1, none⟩ (.int .i64 (En.tabC (j + 1)).hi)) g 83 #[.int .i64 0] := hdx
              replace HO : Hd ((w17.setCell ⟨(w1.heap.size + 1), 0, none⟩ (.int .i64 (En.tabC (j + 1)).lo)).setCell ⟨(w1.heap.size + 1), 1, none⟩ (.int .i64 (En.tabC (j + 1)).hi)) w.heap.size 25 #[.int .i64 0, .int .i64 0, .int .i64 0, .int .i64 0] := hdx
              replace HP : Hd ((w17.setCell ⟨(w1.heap.size + 1), 0, none⟩ (.int .i64 (En.tabC (j + 1)).lo)).setCell ⟨(w1.heap.size + 1), 1, none⟩ (.int .i64 (En.tabC (j + 1)).hi)) w1.heap.size 23 #[.int .i64 1073741824, .int .i64 1073741824] := hdx
              replace HC : Hd ((w17.setCell ⟨(w1.heap.size + 1), 0, none⟩ (.int .i64 (En.tabC (j + 1)).lo)).setCell ⟨(w1.heap.size + 1), 1, none⟩ (.int .i64 (En.tabC (j + 1)).hi)) (w1.heap.size + 1) 23 #[.int .i64 (En.tabC (j + 1)).lo, .int .i64 (En.tabC (j + 1)).hi] := hdx
              replace HD : Hd ((w17.setCell ⟨(w1.heap.size + 1), 0, none⟩ (.int .i64 (En.tabC (j + 1)).lo)).setCell ⟨(w1.heap.size + 1), 1, none⟩ (.int .i64 (En.tabC (j + 1)).hi)) (w1.heap.size + 1 + 1) 23 #[.int .i64 sv.lo, .int .i64 sv.hi] := hdx
              replace bw : But g w ((w17.setCell ⟨(w1.heap.size + 1), 0, none⟩ (.int .i64 (En.tabC (j + 1)).lo)).setCell ⟨(w1.heap.size + 1), 1, none⟩ (.int .i64 (En.tabC (j + 1)).hi)) := butx
              (try refine ⟨⟨HP, bw⟩, ?_⟩)
              repeat ((first | with_reducible apply eag_move | with_reducible apply eag_assign | ((with_reducible refine eag_soft (v := ?_) (fun w' hw' => ?_) ?_); rotate_left 1; (focus (obtain ⟨hP, hBw⟩ := hw'; obtain ⟨hcP, hfP⟩ := hP.facts; go_simp; (try with_reducible rfl); done)))); simp only [Act.put, Act.eval, qs])
              refine eag_hard ?_
              generalize hW : (w17.setCell ⟨(w1.heap.size + 1), 0, none⟩ (.int .i64 (En.tabC (j + 1)).lo)).setCell ⟨(w1.heap.size + 1), 1, none⟩ (.int .i64 (En.tabC (j + 1)).hi) = w18 at HG HO HP HC HD bw ⊢
              clear hW
              have lw18 : w.heap.size ≤ w18.heap.size := bw.size
              obtain ⟨hcD, hfD⟩ := HD.facts
              go_wp2_with fail
              have PG := HG
              have PO := HO
              have PP := HP
              have PC := HC
              have PD := HD
              have Pbw := bw
              replace HG : Hd ((w18.setCell ⟨(w1.heap.size + 1 + 1), 0, none⟩ (.int .i64 (En.tabS (j + 1)).lo)).setCell ⟨(w1.heap.size + 1 + 1), 1, none⟩ (.int .i64 (En.tabS (j + 1)).hi)) g 83 #[.int .i64 0] := hdx
              replace HO : Hd ((w18.setCell ⟨(w1.heap.size + 1 + 1), 0, none⟩ (.int .i64 (En.tabS (j + 1)).lo)).setCell ⟨(w1.heap.size + 1 + 1), 1, none⟩ (.int .i64 (En.tabS (j + 1)).hi)) w.heap.size 25 #[.int .i64 0, .int .i64 0, .int .i64 0, .int .i64 0] := hdx
              replace HP : Hd ((w18.setCell ⟨(w1.heap.size + 1 + 1), 0, none⟩ (.int .i64 (En.tabS (j + 1)).lo)).setCell ⟨(w1.heap.size + 1 + 1), 1, none⟩ (.int .i64 (En.tabS (j + 1)).hi)) w1.heap.size 23 #[.int .i64 1073741824, .int .i64 1073741824] := hdx
              replace HC : Hd ((w18.setCell ⟨(w1.heap.size + 1 + 1), 0, none⟩ (.int .i64 (En.tabS (j + 1)).lo)).setCell ⟨(w1.heap.size + 1 + 1), 1, none⟩ (.int .i64 (En.tabS (j + 1)).hi)) (w1.heap.size + 1) 23 #[.int .i64 (En.tabC (j + 1)).lo, .int .i64 (En.tabC (j + 1)).hi] := hdx
              replace HD : Hd ((w18.setCell ⟨(w1.heap.size + 1 + 1), 0, none⟩ (.int .i64 (En.tabS (j + 1)).lo)).setCell ⟨(w1.heap.size + 1 + 1), 1, none⟩ (.int .i64 (En.tabS (j + 1)).hi)) (w1.heap.size + 1 + 1) 23 #[.int .i64 (En.tabS (j + 1)).lo, .int .i64 (En.tabS (j + 1)).hi] := hdx
              replace bw : But g w ((w18.setCell ⟨(w1.heap.size + 1 + 1), 0, none⟩ (.int .i64 (En.tabS (j + 1)).lo)).setCell ⟨(w1.heap.size + 1 + 1), 1, none⟩ (.int .i64 (En.tabS (j + 1)).hi)) := butx
              (try refine ⟨⟨HP, bw⟩, ?_⟩)
              repeat ((first | with_reducible apply eag_move | with_reducible apply eag_assign | ((with_reducible refine eag_soft (v := ?_) (fun w' hw' => ?_) ?_); rotate_left 1; (focus (obtain ⟨hP, hBw⟩ := hw'; obtain ⟨hcP, hfP⟩ := hP.facts; go_simp; (try with_reducible rfl); done)))); simp only [Act.put, Act.eval, qs])
              refine eag_nil ?_
              go_wp2_with fail
              exact ⟨⟨j + 1, En.tabS (j + 1), kk + 1, by omega, by omega, (by rw [hkk]), Lib.hid (fun _ => rfl), HG, HO, HP, HC, HD, bw⟩, by simp only [intOf]; omega⟩
          · obtain ⟨hcC, hfC⟩ := HC.facts
            go_wp2_with fail
            (try refine ⟨⟨HP, bw⟩, ?_⟩)
            repeat ((first | with_reducible apply eag_move | with_reducible apply eag_assign | ((with_reducible refine eag_soft (v := ?_) (fun w' hw' => ?_) ?_); rotate_left 1; (focus (obtain ⟨hP, hBw⟩ := hw'; obtain ⟨hcP, hfP⟩ := hP.facts; go_simp; (try with_reducible rfl); done)))); simp only [Act.put, Act.eval, qs])
            repeat ((first | with_reducible apply eag_move | with_reducible apply eag_assign | ((with_reducible refine eag_soft (v := ?_) (fun w' hw' => ?_) ?_); rotate_left 1; (focus (obtain ⟨hP, hBw⟩ := hw'; obtain ⟨hcP, hfP⟩ := hP.facts; go_simp; (try with_reducible rfl); done)))); simp only [Act.put, Act.eval, qs])
            refine eag_hard ?_
            go_wp2_with fail
            refine (whalf_any ep (En.Sp.fit_of_ok (En.add_ok HE1.out)) 0 g _ HG).mono ?_
            rintro e w13 ⟨z13, e13, rfl, ok13, _, qq13, HG13, hb13⟩
            obtain ⟨rfl, rfl⟩ := qq13.sure HG1.out
            clear ok13 qq13
            replace bw := bw.trans hb13
            replace HO := HO.but hb13 (by omega)
            replace HP := HP.but hb13 (by omega)
            replace HC := HC.but hb13 (by omega)
            replace HD := HD.but hb13 (by omega)
            replace HG := HG13
            clear HG13
            have lw13 : w.heap.size ≤ w13.heap.size := bw.size
            clear hb13
            go_wp2_with fail
            (try refine ⟨⟨HP, bw⟩, ?_⟩)
            repeat ((first | with_reducible apply eag_move | with_reducible apply eag_assign | ((with_reducible refine eag_soft (v := ?_) (fun w' hw' => ?_) ?_); rotate_left 1; (focus (obtain ⟨hP, hBw⟩ := hw'; obtain ⟨hcP, hfP⟩ := hP.facts; go_simp; (try with_reducible rfl); done)))); simp only [Act.put, Act.eval, qs])
            refine eag_hard ?_
            go_wp2_with fail
            refine (wroot_any g' (En.Sp.fit_of_ok HGO.out) HG0.out (Int.le_trans HG0.out (En.Sp.le_of_ok HGO.out)) 0 g _ HG).mono ?_
            rintro e w14 ⟨z14, e14, rfl, ok14, _, qq14, HG14, hb14⟩
            obtain ⟨rfl, rfl⟩ := qq14.sure HQ1.out
            clear ok14 qq14
            replace bw := bw.trans hb14
            replace HO := HO.but hb14 (by omega)
            replace HP := HP.but hb14 (by omega)
            replace HC := HC.but hb14 (by omega)
            replace HD := HD.but hb14 (by omega)
            replace HG := HG14
            clear HG14
            have lw14 : w.heap.size ≤ w14.heap.size := bw.size
            clear hb14
            go_wp2_with fail
            (try refine ⟨⟨HP, bw⟩, ?_⟩)
            repeat ((first | with_reducible apply eag_move | with_reducible apply eag_assign | ((with_reducible refine eag_soft (v := ?_) (fun w' hw' => ?_) ?_); rotate_left 1; (focus (obtain ⟨hP, hBw⟩ := hw'; obtain ⟨hcP, hfP⟩ := hP.facts; go_simp; (try with_reducible rfl); done)))); simp only [Act.put, Act.eval, qs])
            refine eag_hard ?_
            go_wp2_with fail
            refine (wless_any En.one (En.tabC j) (En.Sp.fit_of_ok (s := En.one) (by decide)) (En.Sp.fit_of_ok (En.tab_ok j).1) 0 g _ HG).mono ?_
            rintro e w15 ⟨z15, e15, rfl, ok15, _, qq15, HG15, hb15⟩
            obtain ⟨rfl, rfl⟩ := qq15.sure HD1.out
            clear ok15 qq15
            replace bw := bw.trans hb15
            replace HO := HO.but hb15 (by omega)
            replace HP := HP.but hb15 (by omega)
            replace HC := HC.but hb15 (by omega)
            replace HD := HD.but hb15 (by omega)
            replace HG := HG15
            clear HG15
            have lw15 : w.heap.size ≤ w15.heap.size := bw.size
            clear hb15
            go_wp2_with fail
            (try refine ⟨⟨HP, bw⟩, ?_⟩)
            repeat ((first | with_reducible apply eag_move | with_reducible apply eag_assign | ((with_reducible refine eag_soft (v := ?_) (fun w' hw' => ?_) ?_); rotate_left 1; (focus (obtain ⟨hP, hBw⟩ := hw'; obtain ⟨hcP, hfP⟩ := hP.facts; go_simp; (try with_reducible rfl); done)))); simp only [Act.put, Act.eval, qs])
            refine eag_hard ?_
            go_wp2_with fail
            refine (whalf_any d (En.Sp.fit_of_ok (En.sub_ok HD1.out)) 0 g _ HG).mono ?_
            rintro e w16 ⟨z16, e16, rfl, ok16, _, qq16, HG16, hb16⟩
            obtain ⟨rfl, rfl⟩ := qq16.sure HH1.out
            clear ok16 qq16
            replace bw := bw.trans hb16
            replace HO := HO.but hb16 (by omega)
            replace HP := HP.but hb16 (by omega)
            replace HC := HC.but hb16 (by omega)
            replace HD := HD.but hb16 (by omega)
            replace HG := HG16
            clear HG16
            have lw16 : w.heap.size ≤ w16.heap.size := bw.size
            clear hb16
            go_wp2_with fail
            (try refine ⟨⟨HP, bw⟩, ?_⟩)
            repeat ((first | with_reducible apply eag_move | with_reducible apply eag_assign | ((with_reducible refine eag_soft (v := ?_) (fun w' hw' => ?_) ?_); rotate_left 1; (focus (obtain ⟨hP, hBw⟩ := hw'; obtain ⟨hcP, hfP⟩ := hP.facts; go_simp; (try with_reducible rfl); done)))); simp only [Act.put, Act.eval, qs])
            refine eag_hard ?_
            go_wp2_with fail
            refine (wroot_any hf0 (En.Sp.fit_of_ok HO1.out) H01.out (Int.le_trans H01.out (En.Sp.le_of_ok HO1.out)) 0 g _ HG).mono ?_
            rintro e w17 ⟨z17, e17, rfl, ok17, _, qq17, HG17, hb17⟩
            obtain ⟨rfl, rfl⟩ := qq17.sure HR1.out
            clear ok17 qq17
            replace bw := bw.trans hb17
            replace HO := HO.but hb17 (by omega)
            replace HP := HP.but hb17 (by omega)
            replace HC := HC.but hb17 (by omega)
            replace HD := HD.but hb17 (by omega)
            replace HG := HG17
            clear HG17
            have lw17 : w.heap.size ≤ w17.heap.size := bw.size
            clear hb17
            go_wp2_with fail
            (try refine ⟨⟨HP, bw⟩, ?_⟩)
            repeat ((first | with_reducible apply eag_move | with_reducible apply eag_assign | ((with_reducible refine eag_soft (v := ?_) (fun w' hw' => ?_) ?_); rotate_left 1; (focus (obtain ⟨hP, hBw⟩ := hw'; obtain ⟨hcP, hfP⟩ := hP.facts; go_simp; (try with_reducible rfl); done)))); simp only [Act.put, Act.eval, qs])
            refine eag_hard ?_
            obtain ⟨hcC, hfC⟩ := HC.facts
            go_wp2_with fail
            have PG := HG
            have PO := HO
            have PP := HP
            have PC := HC
            have PD := HD
            have Pbw := bw
            replace HG : Hd ((w17.setCell ⟨(w1.heap.size + 1), 0, none⟩ (.int .i64 (En.tabC (j + 1)).lo)).setCell ⟨(w1.heap.size + 1), 1, none⟩ (.int .i64 (En.tabC (j + 1)).hi)) g 83 #[.int .i64 0] := hdx
            replace HO : Hd ((w17.setCell ⟨(w1.heap.size + 1), 0, none⟩ (.int .i64 (En.tabC (j + 1)).lo)).setCell ⟨(w1.heap.size + 1), 1, none⟩ (.int .i64 (En.tabC (j + 1)).hi)) w.heap.size 25 #[.int .i64 0, .int .i64 0, .int .i64 0, .int .i64 0] := hdx
            replace HP : Hd ((w17.setCell ⟨(w1.heap.size + 1), 0, none⟩ (.int .i64 (En.tabC (j + 1)).lo)).setCell ⟨(w1.heap.size + 1), 1, none⟩ (.int .i64 (En.tabC (j + 1)).hi)) w1.heap.size 23 #[.int .i64 1073741824, .int .i64 1073741824] := hdx
            replace HC : Hd ((w17.setCell ⟨(w1.heap.size + 1), 0, none⟩ (.int .i64 (En.tabC (j + 1)).lo)).setCell ⟨(w1.heap.size + 1), 1, none⟩ (.int .i64 (En.tabC (j + 1)).hi)) (w1.heap.size + 1) 23 #[.int .i64 (En.tabC (j + 1)).lo, .int .i64 (En.tabC (j + 1)).hi] := hdx
            replace HD : Hd ((w17.setCell ⟨(w1.heap.size + 1), 0, none⟩ (.int .i64 (En.tabC (j + 1)).lo)).setCell ⟨(w1.heap.size + 1), 1, none⟩ (.int .i64 (En.tabC (j + 1)).hi)) (w1.heap.size + 1 + 1) 23 #[.int .i64 sv.lo, .int .i64 sv.hi] := hdx
            replace bw : But g w ((w17.setCell ⟨(w1.heap.size + 1), 0, none⟩ (.int .i64 (En.tabC (j + 1)).lo)).setCell ⟨(w1.heap.size + 1), 1, none⟩ (.int .i64 (En.tabC (j + 1)).hi)) := butx
            (try refine ⟨⟨HP, bw⟩, ?_⟩)
            repeat ((first | with_reducible apply eag_move | with_reducible apply eag_assign | ((with_reducible refine eag_soft (v := ?_) (fun w' hw' => ?_) ?_); rotate_left 1; (focus (obtain ⟨hP, hBw⟩ := hw'; obtain ⟨hcP, hfP⟩ := hP.facts; go_simp; (try with_reducible rfl); done)))); simp only [Act.put, Act.eval, qs])
            refine eag_hard ?_
            generalize hW : (w17.setCell ⟨(w1.heap.size + 1), 0, none⟩ (.int .i64 (En.tabC (j + 1)).lo)).setCell ⟨(w1.heap.size + 1), 1, none⟩ (.int .i64 (En.tabC (j + 1)).hi) = w18 at HG HO HP HC HD bw ⊢
            clear hW
            have lw18 : w.heap.size ≤ w18.heap.size := bw.size
            obtain ⟨hcD, hfD⟩ := HD.facts
            go_wp2_with fail
            have PG := HG
            have PO := HO
            have PP := HP
            have PC := HC
            have PD := HD
            have Pbw := bw
            replace HG : Hd ((w18.setCell ⟨(w1.heap.size + 1 + 1), 0, none⟩ (.int .i64 (En.tabS (j + 1)).lo)).setCell ⟨(w1.heap.size + 1 + 1), 1, none⟩ (.int .i64 (En.tabS (j + 1)).hi)) g 83 #[.int .i64 0] := hdx
            replace HO : Hd ((w18.setCell ⟨(w1.heap.size + 1 + 1), 0, none⟩ (.int .i64 (En.tabS (j + 1)).lo)).setCell ⟨(w1.heap.size + 1 + 1), 1, none⟩ (.int .i64 (En.tabS (j + 1)).hi)) w.heap.size 25 #[.int .i64 0, .int .i64 0, .int .i64 0, .int .i64 0] := hdx
            replace HP : Hd ((w18.setCell ⟨(w1.heap.size + 1 + 1), 0, none⟩ (.int .i64 (En.tabS (j + 1)).lo)).setCell ⟨(w1.heap.size + 1 + 1), 1, none⟩ (.int .i64 (En.tabS (j + 1)).hi)) w1.heap.size 23 #[.int .i64 1073741824, .int .i64 1073741824] := hdx
            replace HC : Hd ((w18.setCell ⟨(w1.heap.size + 1 + 1), 0, none⟩ (.int .i64 (En.tabS (j + 1)).lo)).setCell ⟨(w1.heap.size + 1 + 1), 1, none⟩ (.int .i64 (En.tabS (j + 1)).hi)) (w1.heap.size + 1) 23 #[.int .i64 (En.tabC (j + 1)).lo, .int .i64 (En.tabC (j + 1)).hi] := hdx
            replace HD : Hd ((w18.setCell ⟨(w1.heap.size + 1 + 1), 0, none⟩ (.int .i64 (En.tabS (j + 1)).lo)).setCell ⟨(w1.heap.size + 1 + 1), 1, none⟩ (.int .i64 (En.tabS (j + 1)).hi)) (w1.heap.size + 1 + 1) 23 #[.int .i64 (En.tabS (j + 1)).lo, .int .i64 (En.tabS (j + 1)).hi] := hdx
            replace bw : But g w ((w18.setCell ⟨(w1.heap.size + 1 + 1), 0, none⟩ (.int .i64 (En.tabS (j + 1)).lo)).setCell ⟨(w1.heap.size + 1 + 1), 1, none⟩ (.int .i64 (En.tabS (j + 1)).hi)) := butx
            (try refine ⟨⟨HP, bw⟩, ?_⟩)
            repeat ((first | with_reducible apply eag_move | with_reducible apply eag_assign | ((with_reducible refine eag_soft (v := ?_) (fun w' hw' => ?_) ?_); rotate_left 1; (focus (obtain ⟨hP, hBw⟩ := hw'; obtain ⟨hcP, hfP⟩ := hP.facts; go_simp; (try with_reducible rfl); done)))); simp only [Act.put, Act.eval, qs])
            refine eag_nil ?_
            go_wp2_with fail
            exact ⟨⟨j + 1, En.tabS (j + 1), kk + 1, by omega, by omega, (by rw [hkk]), Lib.hid (fun _ => rfl), HG, HO, HP, HC, HD, bw⟩, by simp only [intOf]; omega⟩
        · obtain ⟨hcC, hfC⟩ := HC.facts
          go_wp2_with fail
          (try refine ⟨⟨HP, bw⟩, ?_⟩)
          repeat ((first | with_reducible apply eag_move | with_reducible apply eag_assign | ((with_reducible refine eag_soft (v := ?_) (fun w' hw' => ?_) ?_); rotate_left 1; (focus (obtain ⟨hP, hBw⟩ := hw'; obtain ⟨hcP, hfP⟩ := hP.facts; go_simp; (try with_reducible rfl); done)))); simp only [Act.put, Act.eval, qs])
          repeat ((first | with_reducible apply eag_move | with_reducible apply eag_assign | ((with_reducible refine eag_soft (v := ?_) (fun w' hw' => ?_) ?_); rotate_left 1; (focus (obtain ⟨hP, hBw⟩ := hw'; obtain ⟨hcP, hfP⟩ := hP.facts; go_simp; (try with_reducible rfl); done)))); simp only [Act.put, Act.eval, qs])
          refine eag_hard ?_
          go_wp2_with fail
          refine (wsum_any En.one (En.tabC j) (En.Sp.fit_of_ok (s := En.one) (by decide)) (En.Sp.fit_of_ok (En.tab_ok j).1) 0 g _ HG).mono ?_
          rintro e w12 ⟨z12, e12, rfl, ok12, _, qq12, HG12, hb12⟩
          obtain ⟨rfl, rfl⟩ := qq12.sure HE1.out
          clear ok12 qq12
          replace bw := bw.trans hb12
          replace HO := HO.but hb12 (by omega)
          replace HP := HP.but hb12 (by omega)
          replace HC := HC.but hb12 (by omega)
          replace HD := HD.but hb12 (by omega)
          replace HG := HG12
          clear HG12
          have lw12 : w.heap.size ≤ w12.heap.size := bw.size
          clear hb12
          go_wp2_with fail
          (try refine ⟨⟨HP, bw⟩, ?_⟩)
          repeat ((first | with_reducible apply eag_move | with_reducible apply eag_assign | ((with_reducible refine eag_soft (v := ?_) (fun w' hw' => ?_) ?_); rotate_left 1; (focus (obtain ⟨hP, hBw⟩ := hw'; obtain ⟨hcP, hfP⟩ := hP.facts; go_simp; (try with_reducible rfl); done)))); simp only [Act.put, Act.eval, qs])
          refine eag_hard ?_
          go_wp2_with fail
          refine (whalf_any ep (En.Sp.fit_of_ok (En.add_ok HE1.out)) 0 g _ HG).mono ?_
          rintro e w13 ⟨z13, e13, rfl, ok13, _, qq13, HG13, hb13⟩
          obtain ⟨rfl, rfl⟩ := qq13.sure HG1.out
          clear ok13 qq13
          replace bw := bw.trans hb13
          replace HO := HO.but hb13 (by omega)
          replace HP := HP.but hb13 (by omega)
          replace HC := HC.but hb13 (by omega)
          replace HD := HD.but hb13 (by omega)
          replace HG := HG13
          clear HG13
          have lw13 : w.heap.size ≤ w13.heap.size := bw.size
          clear hb13
          go_wp2_with fail
          (try refine ⟨⟨HP, bw⟩, ?_⟩)
          repeat ((first | with_reducible apply eag_move | with_reducible apply eag_assign | ((with_reducible refine eag_soft (v := ?_) (fun w' hw' => ?_) ?_); rotate_left 1; (focus (obtain ⟨hP, hBw⟩ := hw'; obtain ⟨hcP, hfP⟩ := hP.facts; go_simp; (try with_reducible rfl); done)))); simp only [Act.put, Act.eval, qs])
          refine eag_hard ?_
          go_wp2_with fail
          refine (wroot_any g' (En.Sp.fit_of_ok HGO.out) HG0.out (Int.le_trans HG0.out (En.Sp.le_of_ok HGO.out)) 0 g _ HG).mono ?_
          rintro e w14 ⟨z14, e14, rfl, ok14, _, qq14, HG14, hb14⟩
          obtain ⟨rfl, rfl⟩ := qq14.sure HQ1.out
          clear ok14 qq14
          replace bw := bw.trans hb14
          replace HO := HO.but hb14 (by omega)
          replace HP := HP.but hb14 (by omega)
          replace HC := HC.but hb14 (by omega)
          replace HD := HD.but hb14 (by omega)
          replace HG := HG14
          clear HG14
          have lw14 : w.heap.size ≤ w14.heap.size := bw.size
          clear hb14
          go_wp2_with fail
          (try refine ⟨⟨HP, bw⟩, ?_⟩)
          repeat ((first | with_reducible apply eag_move | with_reducible apply eag_assign | ((with_reducible refine eag_soft (v := ?_) (fun w' hw' => ?_) ?_); rotate_left 1; (focus (obtain ⟨hP, hBw⟩ := hw'; obtain ⟨hcP, hfP⟩ := hP.facts; go_simp; (try with_reducible rfl); done)))); simp only [Act.put, Act.eval, qs])
          refine eag_hard ?_
          go_wp2_with fail
          refine (wless_any En.one (En.tabC j) (En.Sp.fit_of_ok (s := En.one) (by decide)) (En.Sp.fit_of_ok (En.tab_ok j).1) 0 g _ HG).mono ?_
          rintro e w15 ⟨z15, e15, rfl, ok15, _, qq15, HG15, hb15⟩
          obtain ⟨rfl, rfl⟩ := qq15.sure HD1.out
          clear ok15 qq15
          replace bw := bw.trans hb15
          replace HO := HO.but hb15 (by omega)
          replace HP := HP.but hb15 (by omega)
          replace HC := HC.but hb15 (by omega)
          replace HD := HD.but hb15 (by omega)
          replace HG := HG15
          clear HG15
          have lw15 : w.heap.size ≤ w15.heap.size := bw.size
          clear hb15
          go_wp2_with fail
          (try refine ⟨⟨HP, bw⟩, ?_⟩)
          repeat ((first | with_reducible apply eag_move | with_reducible apply eag_assign | ((with_reducible refine eag_soft (v := ?_) (fun w' hw' => ?_) ?_); rotate_left 1; (focus (obtain ⟨hP, hBw⟩ := hw'; obtain ⟨hcP, hfP⟩ := hP.facts; go_simp; (try with_reducible rfl); done)))); simp only [Act.put, Act.eval, qs])
          refine eag_hard ?_
          go_wp2_with fail
          refine (whalf_any d (En.Sp.fit_of_ok (En.sub_ok HD1.out)) 0 g _ HG).mono ?_
          rintro e w16 ⟨z16, e16, rfl, ok16, _, qq16, HG16, hb16⟩
          obtain ⟨rfl, rfl⟩ := qq16.sure HH1.out
          clear ok16 qq16
          replace bw := bw.trans hb16
          replace HO := HO.but hb16 (by omega)
          replace HP := HP.but hb16 (by omega)
          replace HC := HC.but hb16 (by omega)
          replace HD := HD.but hb16 (by omega)
          replace HG := HG16
          clear HG16
          have lw16 : w.heap.size ≤ w16.heap.size := bw.size
          clear hb16
          go_wp2_with fail
          (try refine ⟨⟨HP, bw⟩, ?_⟩)
          repeat ((first | with_reducible apply eag_move | with_reducible apply eag_assign | ((with_reducible refine eag_soft (v := ?_) (fun w' hw' => ?_) ?_); rotate_left 1; (focus (obtain ⟨hP, hBw⟩ := hw'; obtain ⟨hcP, hfP⟩ := hP.facts; go_simp; (try with_reducible rfl); done)))); simp only [Act.put, Act.eval, qs])
          refine eag_hard ?_
          go_wp2_with fail
          refine (wroot_any hf0 (En.Sp.fit_of_ok HO1.out) H01.out (Int.le_trans H01.out (En.Sp.le_of_ok HO1.out)) 0 g _ HG).mono ?_
          rintro e w17 ⟨z17, e17, rfl, ok17, _, qq17, HG17, hb17⟩
          obtain ⟨rfl, rfl⟩ := qq17.sure HR1.out
          clear ok17 qq17
          replace bw := bw.trans hb17
          replace HO := HO.but hb17 (by omega)
          replace HP := HP.but hb17 (by omega)
          replace HC := HC.but hb17 (by omega)
          replace HD := HD.but hb17 (by omega)
          replace HG := HG17
          clear HG17
          have lw17 : w.heap.size ≤ w17.heap.size := bw.size
          clear hb17
          go_wp2_with fail
          (try refine ⟨⟨HP, bw⟩, ?_⟩)
          repeat ((first | with_reducible apply eag_move | with_reducible apply eag_assign | ((with_reducible refine eag_soft (v := ?_) (fun w' hw' => ?_) ?_); rotate_left 1; (focus (obtain ⟨hP, hBw⟩ := hw'; obtain ⟨hcP, hfP⟩ := hP.facts; go_simp; (try with_reducible rfl); done)))); simp only [Act.put, Act.eval, qs])
          refine eag_hard ?_
          obtain ⟨hcC, hfC⟩ := HC.facts
          go_wp2_with fail
          have PG := HG
          have PO := HO
          have PP := HP
          have PC := HC
          have PD := HD
          have Pbw := bw
          replace HG : Hd ((w17.setCell ⟨(w1.heap.size + 1), 0, none⟩ (.int .i64 (En.tabC (j + 1)).lo)).setCell ⟨(w1.heap.size + 1), 1, none⟩ (.int .i64 (En.tabC (j + 1)).hi)) g 83 #[.int .i64 0] := hdx
          replace HO : Hd ((w17.setCell ⟨(w1.heap.size + 1), 0, none⟩ (.int .i64 (En.tabC (j + 1)).lo)).setCell ⟨(w1.heap.size + 1), 1, none⟩ (.int .i64 (En.tabC (j + 1)).hi)) w.heap.size 25 #[.int .i64 0, .int .i64 0, .int .i64 0, .int .i64 0] := hdx
          replace HP : Hd ((w17.setCell ⟨(w1.heap.size + 1), 0, none⟩ (.int .i64 (En.tabC (j + 1)).lo)).setCell ⟨(w1.heap.size + 1), 1, none⟩ (.int .i64 (En.tabC (j + 1)).hi)) w1.heap.size 23 #[.int .i64 1073741824, .int .i64 1073741824] := hdx
          replace HC : Hd ((w17.setCell ⟨(w1.heap.size + 1), 0, none⟩ (.int .i64 (En.tabC (j + 1)).lo)).setCell ⟨(w1.heap.size + 1), 1, none⟩ (.int .i64 (En.tabC (j + 1)).hi)) (w1.heap.size + 1) 23 #[.int .i64 (En.tabC (j + 1)).lo, .int .i64 (En.tabC (j + 1)).hi] := hdx
          replace HD : Hd ((w17.setCell ⟨(w1.heap.size + 1), 0, none⟩ (.int .i64 (En.tabC (j + 1)).lo)).setCell ⟨(w1.heap.size + 1), 1, none⟩ (.int .i64 (En.tabC (j + 1)).hi)) (w1.heap.size + 1 + 1) 23 #[.int .i64 sv.lo, .int .i64 sv.hi] := hdx
          replace bw : But g w ((w17.setCell ⟨(w1.heap.size + 1), 0, none⟩ (.int .i64 (En.tabC (j + 1)).lo)).setCell ⟨(w1.heap.size + 1), 1, none⟩ (.int .i64 (En.tabC (j + 1)).hi)) := butx
          (try refine ⟨⟨HP, bw⟩, ?_⟩)
          repeat ((first | with_reducible apply eag_move | with_reducible apply eag_assign | ((with_reducible refine eag_soft (v := ?_) (fun w' hw' => ?_) ?_); rotate_left 1; (focus (obtain ⟨hP, hBw⟩ := hw'; obtain ⟨hcP, hfP⟩ := hP.facts; go_simp; (try with_reducible rfl); done)))); simp only [Act.put, Act.eval, qs])
          refine eag_hard ?_
          generalize hW : (w17.setCell ⟨(w1.heap.size + 1), 0, none⟩ (.int .i64 (En.tabC (j + 1)).lo)).setCell ⟨(w1.heap.size + 1), 1, none⟩ (.int .i64 (En.tabC (j + 1)).hi) = w18 at HG HO HP HC HD bw ⊢
          clear hW
          have lw18 : w.heap.size ≤ w18.heap.size := bw.size
          obtain ⟨hcD, hfD⟩ := HD.facts
          go_wp2_with fail
          have PG := HG
          have PO := HO
          have PP := HP
          have PC := HC
          have PD := HD
          have Pbw := bw
          replace HG : Hd ((w18.setCell ⟨(w1.heap.size + 1 + 1), 0, none⟩ (.int .i64 (En.tabS (j + 1)).lo)).setCell ⟨(w1.heap.size + 1 + 1), 1, none⟩ (.int .i64 (En.tabS (j + 1)).hi)) g 83 #[.int .i64 0] := hdx
          replace HO : Hd ((w18.setCell ⟨(w1.heap.size + 1 + 1), 0, none⟩ (.int .i64 (En.tabS (j + 1)).lo)).setCell ⟨(w1.heap.size + 1 + 1), 1, none⟩ (.int .i64 (En.tabS (j + 1)).hi)) w.heap.size 25 #[.int .i64 0, .int .i64 0, .int .i64 0, .int .i64 0] := hdx
          replace HP : Hd ((w18.setCell ⟨(w1.heap.size + 1 + 1), 0, none⟩ (.int .i64 (En.tabS (j + 1)).lo)).setCell ⟨(w1.heap.size + 1 + 1), 1, none⟩ (.int .i64 (En.tabS (j + 1)).hi)) w1.heap.size 23 #[.int .i64 1073741824, .int .i64 1073741824] := hdx
          replace HC : Hd ((w18.setCell ⟨(w1.heap.size + 1 + 1), 0, none⟩ (.int .i64 (En.tabS (j + 1)).lo)).setCell ⟨(w1.heap.size + 1 + 1), 1, none⟩ (.int .i64 (En.tabS (j + 1)).hi)) (w1.heap.size + 1) 23 #[.int .i64 (En.tabC (j + 1)).lo, .int .i64 (En.tabC (j + 1)).hi] := hdx
          replace HD : Hd ((w18.setCell ⟨(w1.heap.size + 1 + 1), 0, none⟩ (.int .i64 (En.tabS (j + 1)).lo)).setCell ⟨(w1.heap.size + 1 + 1), 1, none⟩ (.int .i64 (En.tabS (j + 1)).hi)) (w1.heap.size + 1 + 1) 23 #[.int .i64 (En.tabS (j + 1)).lo, .int .i64 (En.tabS (j + 1)).hi] := hdx
          replace bw : But g w ((w18.setCell ⟨(w1.heap.size + 1 + 1), 0, none⟩ (.int .i64 (En.tabS (j + 1)).lo)).setCell ⟨(w1.heap.size + 1 + 1), 1, none⟩ (.int .i64 (En.tabS (j + 1)).hi)) := butx
          (try refine ⟨⟨HP, bw⟩, ?_⟩)
          repeat ((first | with_reducible apply eag_move | with_reducible apply eag_assign | ((with_reducible refine eag_soft (v := ?_) (fun w' hw' => ?_) ?_); rotate_left 1; (focus (obtain ⟨hP, hBw⟩ := hw'; obtain ⟨hcP, hfP⟩ := hP.facts; go_simp; (try with_reducible rfl); done)))); simp only [Act.put, Act.eval, qs])
          refine eag_nil ?_
          go_wp2_with fail
          exact ⟨⟨j + 1, En.tabS (j + 1), kk + 1, by omega, by omega, (by rw [hkk]), Lib.hid (fun _ => rfl), HG, HO, HP, HC, HD, bw⟩, by simp only [intOf]; omega⟩
      · obtain ⟨hcC, hfC⟩ := HC.facts
        go_wp2_with fail
        (try refine ⟨⟨HP, bw⟩, ?_⟩)
        repeat ((first | with_reducible apply eag_move | with_reducible apply eag_assign | ((with_reducible refine eag_soft (v := ?_) (fun w' hw' => ?_) ?_); rotate_left 1; (focus (obtain ⟨hP, hBw⟩ := hw'; obtain ⟨hcP, hfP⟩ := hP.facts; go_simp; (try with_reducible rfl); done)))); simp only [Act.put, Act.eval, qs])
        repeat ((first | with_reducible apply eag_move | with_reducible apply eag_assign | ((with_reducible refine eag_soft (v := ?_) (fun w' hw' => ?_) ?_); rotate_left 1; (focus (obtain ⟨hP, hBw⟩ := hw'; obtain ⟨hcP, hfP⟩ := hP.facts; go_simp; (try with_reducible rfl); done)))); simp only [Act.put, Act.eval, qs])
        refine eag_hard ?_
        obtain ⟨hcC, hfC⟩ := HC.facts
        go_wp2_with fail
        (try refine ⟨⟨HP, bw⟩, ?_⟩)
        repeat ((first | with_reducible apply eag_move | with_reducible apply eag_assign | ((with_reducible refine eag_soft (v := ?_) (fun w' hw' => ?_) ?_); rotate_left 1; (focus (obtain ⟨hP, hBw⟩ := hw'; obtain ⟨hcP, hfP⟩ := hP.facts; go_simp; (try with_reducible rfl); done)))); simp only [Act.put, Act.eval, qs])
        refine eag_hard ?_
        go_wp2_with fail
        refine (wsum_any En.one (En.tabC j) (En.Sp.fit_of_ok (s := En.one) (by decide)) (En.Sp.fit_of_ok (En.tab_ok j).1) 0 g _ HG).mono ?_
        rintro e w12 ⟨z12, e12, rfl, ok12, _, qq12, HG12, hb12⟩
        obtain ⟨rfl, rfl⟩ := qq12.sure HE1.out
        clear ok12 qq12
        replace bw := bw.trans hb12
        replace HO := HO.but hb12 (by omega)
        replace HP := HP.but hb12 (by omega)
        replace HC := HC.but hb12 (by omega)
        replace HD := HD.but hb12 (by omega)
        replace HG := HG12
        clear HG12
        have lw12 : w.heap.size ≤ w12.heap.size := bw.size
        clear hb12
        go_wp2_with fail
        (try refine ⟨⟨HP, bw⟩, ?_⟩)
        repeat ((first | with_reducible apply eag_move | with_reducible apply eag_assign | ((with_reducible refine eag_soft (v := ?_) (fun w' hw' => ?_) ?_); rotate_left 1; (focus (obtain ⟨hP, hBw⟩ := hw'; obtain ⟨hcP, hfP⟩ := hP.facts; go_simp; (try with_reducible rfl); done)))); simp only [Act.put, Act.eval, qs])
        refine eag_hard ?_
        go_wp2_with fail
        refine (whalf_any ep (En.Sp.fit_of_ok (En.add_ok HE1.out)) 0 g _ HG).mono ?_
        rintro e w13 ⟨z13, e13, rfl, ok13, _, qq13, HG13, hb13⟩
        obtain ⟨rfl, rfl⟩ := qq13.sure HG1.out
        clear ok13 qq13
        replace bw := bw.trans hb13
        replace HO := HO.but hb13 (by omega)
        replace HP := HP.but hb13 (by omega)
        replace HC := HC.but hb13 (by omega)
        replace HD := HD.but hb13 (by omega)
        replace HG := HG13
        clear HG13
        have lw13 : w.heap.size ≤ w13.heap.size := bw.size
        clear hb13
        go_wp2_with fail
        (try refine ⟨⟨HP, bw⟩, ?_⟩)
        repeat ((first | with_reducible apply eag_move | with_reducible apply eag_assign | ((with_reducible refine eag_soft (v := ?_) (fun w' hw' => ?_) ?_); rotate_left 1; (focus (obtain ⟨hP, hBw⟩ := hw'; obtain ⟨hcP, hfP⟩ := hP.facts; go_simp; (try with_reducible rfl); done)))); simp only [Act.put, Act.eval, qs])
        refine eag_hard ?_
        go_wp2_with fail
        refine (wroot_any g' (En.Sp.fit_of_ok HGO.out) HG0.out (Int.le_trans HG0.out (En.Sp.le_of_ok HGO.out)) 0 g _ HG).mono ?_
        rintro e w14 ⟨z14, e14, rfl, ok14, _, qq14, HG14, hb14⟩
        obtain ⟨rfl, rfl⟩ := qq14.sure HQ1.out
        clear ok14 qq14
        replace bw := bw.trans hb14
        replace HO := HO.but hb14 (by omega)
        replace HP := HP.but hb14 (by omega)
        replace HC := HC.but hb14 (by omega)
        replace HD := HD.but hb14 (by omega)
        replace HG := HG14
        clear HG14
        have lw14 : w.heap.size ≤ w14.heap.size := bw.size
        clear hb14
        go_wp2_with fail
        (try refine ⟨⟨HP, bw⟩, ?_⟩)
        repeat ((first | with_reducible apply eag_move | with_reducible apply eag_assign | ((with_reducible refine eag_soft (v := ?_) (fun w' hw' => ?_) ?_); rotate_left 1; (focus (obtain ⟨hP, hBw⟩ := hw'; obtain ⟨hcP, hfP⟩ := hP.facts; go_simp; (try with_reducible rfl); done)))); simp only [Act.put, Act.eval, qs])
        refine eag_hard ?_
        go_wp2_with fail
        refine (wless_any En.one (En.tabC j) (En.Sp.fit_of_ok (s := En.one) (by decide)) (En.Sp.fit_of_ok (En.tab_ok j).1) 0 g _ HG).mono ?_
        rintro e w15 ⟨z15, e15, rfl, ok15, _, qq15, HG15, hb15⟩
        obtain ⟨rfl, rfl⟩ := qq15.sure HD1.out
        clear ok15 qq15
        replace bw := bw.trans hb15
        replace HO := HO.but hb15 (by omega)
        replace HP := HP.but hb15 (by omega)
        replace HC := HC.but hb15 (by omega)
        replace HD := HD.but hb15 (by omega)
        replace HG := HG15
        clear HG15
        have lw15 : w.heap.size ≤ w15.heap.size := bw.size
        clear hb15
        go_wp2_with fail
        (try refine ⟨⟨HP, bw⟩, ?_⟩)
        repeat ((first | with_reducible apply eag_move | with_reducible apply eag_assign | ((with_reducible refine eag_soft (v := ?_) (fun w' hw' => ?_) ?_); rotate_left 1; (focus (obtain ⟨hP, hBw⟩ := hw'; obtain ⟨hcP, hfP⟩ := hP.facts; go_simp; (try with_reducible rfl); done)))); simp only [Act.put, Act.eval, qs])
        refine eag_hard ?_
        go_wp2_with fail
        refine (whalf_any d (En.Sp.fit_of_ok (En.sub_ok HD1.out)) 0 g _ HG).mono ?_
        rintro e w16 ⟨z16, e16, rfl, ok16, _, qq16, HG16, hb16⟩
        obtain ⟨rfl, rfl⟩ := qq16.sure HH1.out
        clear ok16 qq16
        replace bw := bw.trans hb16
        replace HO := HO.but hb16 (by omega)
        replace HP := HP.but hb16 (by omega)
        replace HC := HC.but hb16 (by omega)
        replace HD := HD.but hb16 (by omega)
        replace HG := HG16
        clear HG16
        have lw16 : w.heap.size ≤ w16.heap.size := bw.size
        clear hb16
        go_wp2_with fail
        (try refine ⟨⟨HP, bw⟩, ?_⟩)
        repeat ((first | with_reducible apply eag_move | with_reducible apply eag_assign | ((with_reducible refine eag_soft (v := ?_) (fun w' hw' => ?_) ?_); rotate_left 1; (focus (obtain ⟨hP, hBw⟩ := hw'; obtain ⟨hcP, hfP⟩ := hP.facts; go_simp; (try with_reducible rfl); done)))); simp only [Act.put, Act.eval, qs])
        refine eag_hard ?_
        go_wp2_with fail
        refine (wroot_any hf0 (En.Sp.fit_of_ok HO1.out) H01.out (Int.le_trans H01.out (En.Sp.le_of_ok HO1.out)) 0 g _ HG).mono ?_
        rintro e w17 ⟨z17, e17, rfl, ok17, _, qq17, HG17, hb17⟩
        obtain ⟨rfl, rfl⟩ := qq17.sure HR1.out
        clear ok17 qq17
        replace bw := bw.trans hb17
        replace HO := HO.but hb17 (by omega)
        replace HP := HP.but hb17 (by omega)
        replace HC := HC.but hb17 (by omega)
        replace HD := HD.but hb17 (by omega)
        replace HG := HG17
        clear HG17
        have lw17 : w.heap.size ≤ w17.heap.size := bw.size
        clear hb17
        go_wp2_with fail
        (try refine ⟨⟨HP, bw⟩, ?_⟩)
        repeat ((first | with_reducible apply eag_move | with_reducible apply eag_assign | ((with_reducible refine eag_soft (v := ?_) (fun w' hw' => ?_) ?_); rotate_left 1; (focus (obtain ⟨hP, hBw⟩ := hw'; obtain ⟨hcP, hfP⟩ := hP.facts; go_simp; (try with_reducible rfl); done)))); simp only [Act.put, Act.eval, qs])
        refine eag_hard ?_
        obtain ⟨hcC, hfC⟩ := HC.facts
        go_wp2_with fail
        have PG := HG
        have PO := HO
        have PP := HP
        have PC := HC
        have PD := HD
        have Pbw := bw
        replace HG : Hd ((w17.setCell ⟨(w1.heap.size + 1), 0, none⟩ (.int .i64 (En.tabC (j + 1)).lo)).setCell ⟨(w1.heap.size + 1), 1, none⟩ (.int .i64 (En.tabC (j + 1)).hi)) g 83 #[.int .i64 0] := hdx
        replace HO : Hd ((w17.setCell ⟨(w1.heap.size + 1), 0, none⟩ (.int .i64 (En.tabC (j + 1)).lo)).setCell ⟨(w1.heap.size + 1), 1, none⟩ (.int .i64 (En.tabC (j + 1)).hi)) w.heap.size 25 #[.int .i64 0, .int .i64 0, .int .i64 0, .int .i64 0] := hdx
        replace HP : Hd ((w17.setCell ⟨(w1.heap.size + 1), 0, none⟩ (.int .i64 (En.tabC (j + 1)).lo)).setCell ⟨(w1.heap.size + 1), 1, none⟩ (.int .i64 (En.tabC (j + 1)).hi)) w1.heap.size 23 #[.int .i64 1073741824, .int .i64 1073741824] := hdx
        replace HC : Hd ((w17.setCell ⟨(w1.heap.size + 1), 0, none⟩ (.int .i64 (En.tabC (j + 1)).lo)).setCell ⟨(w1.heap.size + 1), 1, none⟩ (.int .i64 (En.tabC (j + 1)).hi)) (w1.heap.size + 1) 23 #[.int .i64 (En.tabC (j + 1)).lo, .int .i64 (En.tabC (j + 1)).hi] := hdx
        replace HD : Hd ((w17.setCell ⟨(w1.heap.size + 1), 0, none⟩ (.int .i64 (En.tabC (j + 1)).lo)).setCell ⟨(w1.heap.size + 1), 1, none⟩ (.int .i64 (En.tabC (j + 1)).hi)) (w1.heap.size + 1 + 1) 23 #[.int .i64 sv.lo, .int .i64 sv.hi] := hdx
        replace bw : But g w ((w17.setCell ⟨(w1.heap.size + 1), 0, none⟩ (.int .i64 (En.tabC (j + 1)).lo)).setCell ⟨(w1.heap.size + 1), 1, none⟩ (.int .i64 (En.tabC (j + 1)).hi)) := butx
        (try refine ⟨⟨HP, bw⟩, ?_⟩)
        repeat ((first | with_reducible apply eag_move | with_reducible apply eag_assign | ((with_reducible refine eag_soft (v := ?_) (fun w' hw' => ?_) ?_); rotate_left 1; (focus (obtain ⟨hP, hBw⟩ := hw'; obtain ⟨hcP, hfP⟩ := hP.facts; go_simp; (try with_reducible rfl); done)))); simp only [Act.put, Act.eval, qs])
        refine eag_hard ?_
        generalize hW : (w17.setCell ⟨(w1.heap.size + 1), 0, none⟩ (.int .i64 (En.tabC (j + 1)).lo)).setCell ⟨(w1.heap.size + 1), 1, none⟩ (.int .i64 (En.tabC (j + 1)).hi) = w18 at HG HO HP HC HD bw ⊢
        clear hW
        have lw18 : w.heap.size ≤ w18.heap.size := bw.size
        obtain ⟨hcD, hfD⟩ := HD.facts
        go_wp2_with fail
        have PG := HG
        have PO := HO
        have PP := HP
        have PC := HC
        have PD := HD
        have Pbw := bw
        replace HG : Hd ((w18.setCell ⟨(w1.heap.size + 1 + 1), 0, none⟩ (.int .i64 (En.tabS (j + 1)).lo)).setCell ⟨(w1.heap.size + 1 + 1), 1, none⟩ (.int .i64 (En.tabS (j + 1)).hi)) g 83 #[.int .i64 0] := hdx
        replace HO : Hd ((w18.setCell ⟨(w1.heap.size + 1 + 1), 0, none⟩ (.int .i64 (En.tabS (j + 1)).lo)).setCell ⟨(w1.heap.size + 1 + 1), 1, none⟩ (.int .i64 (En.tabS (j + 1)).hi)) w.heap.size 25 #[.int .i64 0, .int .i64 0, .int .i64 0, .int .i64 0] := hdx
        replace HP : Hd ((w18.setCell ⟨(w1.heap.size + 1 + 1), 0, none⟩ (.int .i64 (En.tabS (j + 1)).lo)).setCell ⟨(w1.heap.size + 1 + 1), 1, none⟩ (.int .i64 (En.tabS (j + 1)).hi)) w1.heap.size 23 #[.int .i64 1073741824, .int .i64 1073741824] := hdx
        replace HC : Hd ((w18.setCell ⟨(w1.heap.size + 1 + 1), 0, none⟩ (.int .i64 (En.tabS (j + 1)).lo)).setCell ⟨(w1.heap.size + 1 + 1), 1, none⟩ (.int .i64 (En.tabS (j + 1)).hi)) (w1.heap.size + 1) 23 #[.int .i64 (En.tabC (j + 1)).lo, .int .i64 (En.tabC (j + 1)).hi] := hdx
        replace HD : Hd ((w18.setCell ⟨(w1.heap.size + 1 + 1), 0, none⟩ (.int .i64 (En.tabS (j + 1)).lo)).setCell ⟨(w1.heap.size + 1 + 1), 1, none⟩ (.int .i64 (En.tabS (j + 1)).hi)) (w1.heap.size + 1 + 1) 23 #[.int .i64 (En.tabS (j + 1)).lo, .int .i64 (En.tabS (j + 1)).hi] := hdx
        replace bw : But g w ((w18.setCell ⟨(w1.heap.size + 1 + 1), 0, none⟩ (.int .i64 (En.tabS (j + 1)).lo)).setCell ⟨(w1.heap.size + 1 + 1), 1, none⟩ (.int .i64 (En.tabS (j + 1)).hi)) := butx
        (try refine ⟨⟨HP, bw⟩, ?_⟩)
        repeat ((first | with_reducible apply eag_move | with_reducible apply eag_assign | ((with_reducible refine eag_soft (v := ?_) (fun w' hw' => ?_) ?_); rotate_left 1; (focus (obtain ⟨hP, hBw⟩ := hw'; obtain ⟨hcP, hfP⟩ := hP.facts; go_simp; (try with_reducible rfl); done)))); simp only [Act.put, Act.eval, qs])
        refine eag_nil ?_
        go_wp2_with fail
        exact ⟨⟨j + 1, En.tabS (j + 1), kk + 1, by omega, by omega, (by rw [hkk]), Lib.hid (fun _ => rfl), HG, HO, HP, HC, HD, bw⟩, by simp only [intOf]; omega⟩
    · obtain rfl : j = j0 := by omega
      have hnl : ¬ kk < k0 := by omega
      have hs := HSV.out (by have := HJ.out; omega)
      subst hs
      obtain ⟨hcC, hfC⟩ := HC.facts
      obtain ⟨hcD, hfD⟩ := HD.facts
      obtain ⟨hcO, hfO⟩ := HO.facts
      go_wp2
      refine bodyPost_ret (run_results1 rfl rfl (by (show Hd _ (w.heap.size) 25 #[.int .i64 (En.tabC j).lo, .int .i64 (En.tabC j).hi, .int .i64 (En.tabS j).lo, .int .i64 (En.tabS j).hi]); exact hdx) Try.underlying25 rfl (by kernel_rfl)) rfl ⟨rfl, by exact hdx, by exact butx⟩
end Go.Proofs.Ytpbbbfglecbceaa
