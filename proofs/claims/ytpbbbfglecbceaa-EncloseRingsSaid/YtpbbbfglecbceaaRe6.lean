/- The document's product of rectangles. -/
import Derived.Test.YtpbbbfglecbceaaRe5
import Derived.Deep.Cut
import Derived.Deep.CutRange
namespace Go.Proofs.Ytpbbbfglecbceaa
set_option linter.all false
open Go.RowKit

set_option maxHeartbeats 4000000 in
theorem rmul_any (x y : En.Rc) (hx : x.ok = true) (hy : y.ok = true) (e0 : Int) (g : Nat) (w : World) (HG : Hd w g 83 #[.int .i64 e0]) :
    Calls Try.prog 65 #[ptr g, rcV x, rcV y] w (PostR (En.times x y) g e0 w) := by
  have hlt := HG.lt
  have bw := But.refl g w
  obtain ⟨xr, xi⟩ := En.Rc.fit_of_ok hx
  obtain ⟨yr, yi⟩ := En.Rc.fit_of_ok hy
  obtain ⟨hcG, hfG⟩ := HG.facts
  go_enter Try.func65, Try.ntmps65
  go_upto_region 1 with fail
  replace HG : Hd (((w.alloc (.cells #[.int .i64 x.re.lo, .int .i64 x.re.hi, .int .i64 x.im.lo, .int .i64 x.im.hi] 25)).alloc (.cells #[.int .i64 y.re.lo, .int .i64 y.re.hi, .int .i64 y.im.lo, .int .i64 y.im.hi] 25)).alloc (.cells #[.int .i64 0, .int .i64 0, .int .i64 0, .int .i64 0] 25)) g 83 #[.int .i64 e0] := by (with_reducible repeat' (first | assumption | (apply hdN; (try simp only [sA, sS, sD]); done) | apply hdA | apply hdD | apply hdS | (apply hdF; case hp => first | (simp; done) | (simp; omega)) | with_unfolding_all rfl))
  have HA : Hd (((w.alloc (.cells #[.int .i64 x.re.lo, .int .i64 x.re.hi, .int .i64 x.im.lo, .int .i64 x.im.hi] 25)).alloc (.cells #[.int .i64 y.re.lo, .int .i64 y.re.hi, .int .i64 y.im.lo, .int .i64 y.im.hi] 25)).alloc (.cells #[.int .i64 0, .int .i64 0, .int .i64 0, .int .i64 0] 25)) w.heap.size 25 #[.int .i64 x.re.lo, .int .i64 x.re.hi, .int .i64 x.im.lo, .int .i64 x.im.hi] := by (with_reducible repeat' (first | assumption | (apply hdN; (try simp only [sA, sS, sD]); done) | apply hdA | apply hdD | apply hdS | (apply hdF; case hp => first | (simp; done) | (simp; omega)) | with_unfolding_all rfl))
  have HB : Hd (((w.alloc (.cells #[.int .i64 x.re.lo, .int .i64 x.re.hi, .int .i64 x.im.lo, .int .i64 x.im.hi] 25)).alloc (.cells #[.int .i64 y.re.lo, .int .i64 y.re.hi, .int .i64 y.im.lo, .int .i64 y.im.hi] 25)).alloc (.cells #[.int .i64 0, .int .i64 0, .int .i64 0, .int .i64 0] 25)) (w.heap.size + 1) 25 #[.int .i64 y.re.lo, .int .i64 y.re.hi, .int .i64 y.im.lo, .int .i64 y.im.hi] := by (with_reducible repeat' (first | assumption | (apply hdN; (try simp only [sA, sS, sD]); done) | apply hdA | apply hdD | apply hdS | (apply hdF; case hp => first | (simp; done) | (simp; omega)) | with_unfolding_all rfl))
  have HO : Hd (((w.alloc (.cells #[.int .i64 x.re.lo, .int .i64 x.re.hi, .int .i64 x.im.lo, .int .i64 x.im.hi] 25)).alloc (.cells #[.int .i64 y.re.lo, .int .i64 y.re.hi, .int .i64 y.im.lo, .int .i64 y.im.hi] 25)).alloc (.cells #[.int .i64 0, .int .i64 0, .int .i64 0, .int .i64 0] 25)) (w.heap.size + 2) 25 #[.int .i64 0, .int .i64 0, .int .i64 0, .int .i64 0] := by (with_reducible repeat' (first | assumption | (apply hdN; (try simp only [sA, sS, sD]); done) | apply hdA | apply hdD | apply hdS | (apply hdF; case hp => first | (simp; done) | (simp; omega)) | with_unfolding_all rfl))
  replace bw : But g w (((w.alloc (.cells #[.int .i64 x.re.lo, .int .i64 x.re.hi, .int .i64 x.im.lo, .int .i64 x.im.hi] 25)).alloc (.cells #[.int .i64 y.re.lo, .int .i64 y.re.hi, .int .i64 y.im.lo, .int .i64 y.im.hi] 25)).alloc (.cells #[.int .i64 0, .int .i64 0, .int .i64 0, .int .i64 0] 25)) := by (with_reducible repeat' (first | assumption | exact But.refl _ _ | apply But.drew | apply But.alloc | (refine But.set ?_ ?hp _; case hp => first | (simp; done) | (simp; omega))))
  go_cut [7] from 8 to 21 (fun c wx => ∃ (gr : Nat) (z1 z2 z3 : En.Sp) (e1 e2 e3 : Int), c = .pointer (some ⟨gr, 0, none⟩) ∧ w.heap.size + 2 < gr ∧ z3.ok = true ∧ RowKit.Hid (En.Stk (En.mul x.re y.re) e0 z1 e1) ∧ RowKit.Hid (En.Stk (En.mul x.im y.im) e1 z2 e2) ∧ RowKit.Hid (En.Stk (En.sub z1 z2) e2 z3 e3) ∧ Hd wx g 83 #[.int .i64 e3] ∧ Hd wx w.heap.size 25 #[.int .i64 x.re.lo, .int .i64 x.re.hi, .int .i64 x.im.lo, .int .i64 x.im.hi] ∧ Hd wx (w.heap.size + 1) 25 #[.int .i64 y.re.lo, .int .i64 y.re.hi, .int .i64 y.im.lo, .int .i64 y.im.hi] ∧ Hd wx (w.heap.size + 2) 25 #[.int .i64 0, .int .i64 0, .int .i64 0, .int .i64 0] ∧ Hd wx gr 23 #[.int .i64 z3.lo, .int .i64 z3.hi] ∧ But g w wx)
  case rest =>
    clear HG HA HB HO bw
    obtain ⟨gr, z1, z2, z3, e1, e2, e3, rfl, hgr, ok3, qq1, qq2, qq3, HG, HA, HB, HO, HR, bw⟩ := hcut
    have lwc : w.heap.size ≤ wc.heap.size := bw.size
    go_upto_region 2 with fail
    replace HG : Hd (wc.drew) g 83 #[.int .i64 e3] := by (with_reducible repeat' (first | assumption | (apply hdN; (try simp only [sA, sS, sD]); done) | apply hdA | apply hdD | apply hdS | (apply hdF; case hp => first | (simp; done) | (simp; omega)) | with_unfolding_all rfl))
    replace HA : Hd (wc.drew) w.heap.size 25 #[.int .i64 x.re.lo, .int .i64 x.re.hi, .int .i64 x.im.lo, .int .i64 x.im.hi] := by (with_reducible repeat' (first | assumption | (apply hdN; (try simp only [sA, sS, sD]); done) | apply hdA | apply hdD | apply hdS | (apply hdF; case hp => first | (simp; done) | (simp; omega)) | with_unfolding_all rfl))
    replace HB : Hd (wc.drew) (w.heap.size + 1) 25 #[.int .i64 y.re.lo, .int .i64 y.re.hi, .int .i64 y.im.lo, .int .i64 y.im.hi] := by (with_reducible repeat' (first | assumption | (apply hdN; (try simp only [sA, sS, sD]); done) | apply hdA | apply hdD | apply hdS | (apply hdF; case hp => first | (simp; done) | (simp; omega)) | with_unfolding_all rfl))
    replace HO : Hd (wc.drew) (w.heap.size + 2) 25 #[.int .i64 0, .int .i64 0, .int .i64 0, .int .i64 0] := by (with_reducible repeat' (first | assumption | (apply hdN; (try simp only [sA, sS, sD]); done) | apply hdA | apply hdD | apply hdS | (apply hdF; case hp => first | (simp; done) | (simp; omega)) | with_unfolding_all rfl))
    replace HR : Hd (wc.drew) gr 23 #[.int .i64 z3.lo, .int .i64 z3.hi] := by (with_reducible repeat' (first | assumption | (apply hdN; (try simp only [sA, sS, sD]); done) | apply hdA | apply hdD | apply hdS | (apply hdF; case hp => first | (simp; done) | (simp; omega)) | with_unfolding_all rfl))
    replace bw : But g w (wc.drew) := by (with_reducible repeat' (first | assumption | exact But.refl _ _ | apply But.drew | apply But.alloc | (refine But.set ?_ ?hp _; case hp => first | (simp; done) | (simp; omega))))
    (refine wp_region_eag (fun w' => Hd w' w.heap.size 25 #[.int .i64 x.re.lo, .int .i64 x.re.hi, .int .i64 x.im.lo, .int .i64 x.im.hi] ∧ Hd w' (w.heap.size + 1) 25 #[.int .i64 y.re.lo, .int .i64 y.re.hi, .int .i64 y.im.lo, .int .i64 y.im.hi] ∧ Hd w' gr 23 #[.int .i64 z3.lo, .int .i64 z3.hi] ∧ But g w w') [(0, true), (1, true), (2, true), (3, true), (4, true), (5, true), (6, true), (8, true), (9, true), (10, true), (11, true), (12, true), (7, false), (13, false), (14, false), (15, true), (16, false)] (by kernel_rfl) (by kernel_rfl) (fun c d v a w h => by cases d <;> exact h) ⟨HA, HB, HR, bw⟩ ?_; simp only [List.map_cons, List.map_nil, List.getD_cons_zero, List.getD_cons_succ, flMark, Nat.reduceEqDiff, ↓reduceIte])
    repeat ((first | with_reducible apply eag_move | with_reducible apply eag_assign | ((with_reducible refine eag_soft (v := ?_) (fun w' hw' => ?_) ?_); rotate_left 1; (focus (obtain ⟨hA, hB, hR, hBw⟩ := hw'; obtain ⟨hcA, hfA⟩ := hA.facts; obtain ⟨hcB, hfB⟩ := hB.facts; obtain ⟨hcR, hfR⟩ := hR.facts; go_simp; (try with_reducible rfl); done)))); simp only [Act.put, Act.eval, List.setIfInBounds_toArray, List.set_cons_zero, List.set_cons_succ, Array.getD_eq_getD_getElem?, List.getElem?_toArray, List.getElem?_cons_zero, List.getElem?_cons_succ, Option.getD_some])
    refine eag_hard ?_
    go_wp2_with fail
    refine (wtimes_any x.re y.im xr yi e3 g _ HG).mono ?_
    rintro e w4 ⟨z4, e4, rfl, ok4, zz4, qq4, HG4, hb4⟩
    replace bw : But g w w4 := bw.trans hb4
    replace HA := HA.but hb4 (by omega)
    replace HB := HB.but hb4 (by omega)
    replace HO := HO.but hb4 (by omega)
    replace HR := HR.but hb4 (by omega)
    replace HG := HG4
    clear HG4
    replace qq4 := Lib.hid qq4
    replace zz4 := Lib.hid zz4
    have lw4 : w.heap.size ≤ w4.heap.size := bw.size
    clear hb4
    go_wp2_with fail
    (try refine ⟨⟨HA, HB, HR, bw⟩, ?_⟩)
    repeat ((first | with_reducible apply eag_move | with_reducible apply eag_assign | ((with_reducible refine eag_soft (v := ?_) (fun w' hw' => ?_) ?_); rotate_left 1; (focus (obtain ⟨hA, hB, hR, hBw⟩ := hw'; obtain ⟨hcA, hfA⟩ := hA.facts; obtain ⟨hcB, hfB⟩ := hB.facts; obtain ⟨hcR, hfR⟩ := hR.facts; go_simp; (try with_reducible rfl); done)))); simp only [Act.put, Act.eval, List.setIfInBounds_toArray, List.set_cons_zero, List.set_cons_succ, Array.getD_eq_getD_getElem?, List.getElem?_toArray, List.getElem?_cons_zero, List.getElem?_cons_succ, Option.getD_some])
    refine eag_hard ?_
    go_wp2_with fail
    refine (wtimes_any x.im y.re xi yr e4 g _ HG).mono ?_
    rintro e w5 ⟨z5, e5, rfl, ok5, zz5, qq5, HG5, hb5⟩
    replace bw : But g w w5 := bw.trans hb5
    replace HA := HA.but hb5 (by omega)
    replace HB := HB.but hb5 (by omega)
    replace HO := HO.but hb5 (by omega)
    replace HR := HR.but hb5 (by omega)
    replace HG := HG5
    clear HG5
    replace qq5 := Lib.hid qq5
    replace zz5 := Lib.hid zz5
    have lw5 : w.heap.size ≤ w5.heap.size := bw.size
    clear hb5
    go_wp2_with fail
    (try refine ⟨⟨HA, HB, HR, bw⟩, ?_⟩)
    repeat ((first | with_reducible apply eag_move | with_reducible apply eag_assign | ((with_reducible refine eag_soft (v := ?_) (fun w' hw' => ?_) ?_); rotate_left 1; (focus (obtain ⟨hA, hB, hR, hBw⟩ := hw'; obtain ⟨hcA, hfA⟩ := hA.facts; obtain ⟨hcB, hfB⟩ := hB.facts; obtain ⟨hcR, hfR⟩ := hR.facts; go_simp; (try with_reducible rfl); done)))); simp only [Act.put, Act.eval, List.setIfInBounds_toArray, List.set_cons_zero, List.set_cons_succ, Array.getD_eq_getD_getElem?, List.getElem?_toArray, List.getElem?_cons_zero, List.getElem?_cons_succ, Option.getD_some])
    refine eag_hard ?_
    go_wp2_with fail
    refine (wsum_any z4 z5 (En.Sp.fit_of_ok ok4) (En.Sp.fit_of_ok ok5) e5 g _ HG).mono ?_
    rintro e w6 ⟨z6, e6, rfl, ok6, zz6, qq6, HG6, hb6⟩
    replace bw : But g w w6 := bw.trans hb6
    replace HA := HA.but hb6 (by omega)
    replace HB := HB.but hb6 (by omega)
    replace HO := HO.but hb6 (by omega)
    replace HR := HR.but hb6 (by omega)
    replace HG := HG6
    clear HG6
    replace qq6 := Lib.hid qq6
    replace zz6 := Lib.hid zz6
    have lw6 : w.heap.size ≤ w6.heap.size := bw.size
    clear hb6
    go_wp2_with fail
    (try refine ⟨⟨HA, HB, HR, bw⟩, ?_⟩)
    repeat ((first | with_reducible apply eag_move | with_reducible apply eag_assign | ((with_reducible refine eag_soft (v := ?_) (fun w' hw' => ?_) ?_); rotate_left 1; (focus (obtain ⟨hA, hB, hR, hBw⟩ := hw'; obtain ⟨hcA, hfA⟩ := hA.facts; obtain ⟨hcB, hfB⟩ := hB.facts; obtain ⟨hcR, hfR⟩ := hR.facts; go_simp; (try with_reducible rfl); done)))); simp only [Act.put, Act.eval, List.setIfInBounds_toArray, List.set_cons_zero, List.set_cons_succ, Array.getD_eq_getD_getElem?, List.getElem?_toArray, List.getElem?_cons_zero, List.getElem?_cons_succ, Option.getD_some])
    obtain ⟨hcO, hfO⟩ := HO.facts
    refine eag_hard ?_
    go_wp2_with fail
    replace HG : Hd ((((w6.setCell ⟨(w.heap.size + 2), 0, none⟩ (.int .i64 z3.lo)).setCell ⟨(w.heap.size + 2), 1, none⟩ (.int .i64 z3.hi)).setCell ⟨(w.heap.size + 2), 2, none⟩ (.int .i64 z6.lo)).setCell ⟨(w.heap.size + 2), 3, none⟩ (.int .i64 z6.hi)) g 83 #[.int .i64 e6] := by (with_reducible repeat' (first | assumption | (apply hdN; (try simp only [sA, sS, sD]); done) | apply hdA | apply hdD | apply hdS | (apply hdF; case hp => first | (simp; done) | (simp; omega)) | with_unfolding_all rfl))
    replace HA : Hd ((((w6.setCell ⟨(w.heap.size + 2), 0, none⟩ (.int .i64 z3.lo)).setCell ⟨(w.heap.size + 2), 1, none⟩ (.int .i64 z3.hi)).setCell ⟨(w.heap.size + 2), 2, none⟩ (.int .i64 z6.lo)).setCell ⟨(w.heap.size + 2), 3, none⟩ (.int .i64 z6.hi)) w.heap.size 25 #[.int .i64 x.re.lo, .int .i64 x.re.hi, .int .i64 x.im.lo, .int .i64 x.im.hi] := by (with_reducible repeat' (first | assumption | (apply hdN; (try simp only [sA, sS, sD]); done) | apply hdA | apply hdD | apply hdS | (apply hdF; case hp => first | (simp; done) | (simp; omega)) | with_unfolding_all rfl))
    replace HB : Hd ((((w6.setCell ⟨(w.heap.size + 2), 0, none⟩ (.int .i64 z3.lo)).setCell ⟨(w.heap.size + 2), 1, none⟩ (.int .i64 z3.hi)).setCell ⟨(w.heap.size + 2), 2, none⟩ (.int .i64 z6.lo)).setCell ⟨(w.heap.size + 2), 3, none⟩ (.int .i64 z6.hi)) (w.heap.size + 1) 25 #[.int .i64 y.re.lo, .int .i64 y.re.hi, .int .i64 y.im.lo, .int .i64 y.im.hi] := by (with_reducible repeat' (first | assumption | (apply hdN; (try simp only [sA, sS, sD]); done) | apply hdA | apply hdD | apply hdS | (apply hdF; case hp => first | (simp; done) | (simp; omega)) | with_unfolding_all rfl))
    replace HO : Hd ((((w6.setCell ⟨(w.heap.size + 2), 0, none⟩ (.int .i64 z3.lo)).setCell ⟨(w.heap.size + 2), 1, none⟩ (.int .i64 z3.hi)).setCell ⟨(w.heap.size + 2), 2, none⟩ (.int .i64 z6.lo)).setCell ⟨(w.heap.size + 2), 3, none⟩ (.int .i64 z6.hi)) (w.heap.size + 2) 25 #[.int .i64 z3.lo, .int .i64 z3.hi, .int .i64 z6.lo, .int .i64 z6.hi] := by (with_reducible repeat' (first | assumption | (apply hdN; (try simp only [sA, sS, sD]); done) | apply hdA | apply hdD | apply hdS | (apply hdF; case hp => first | (simp; done) | (simp; omega)) | with_unfolding_all rfl))
    replace HR : Hd ((((w6.setCell ⟨(w.heap.size + 2), 0, none⟩ (.int .i64 z3.lo)).setCell ⟨(w.heap.size + 2), 1, none⟩ (.int .i64 z3.hi)).setCell ⟨(w.heap.size + 2), 2, none⟩ (.int .i64 z6.lo)).setCell ⟨(w.heap.size + 2), 3, none⟩ (.int .i64 z6.hi)) gr 23 #[.int .i64 z3.lo, .int .i64 z3.hi] := by (with_reducible repeat' (first | assumption | (apply hdN; (try simp only [sA, sS, sD]); done) | apply hdA | apply hdD | apply hdS | (apply hdF; case hp => first | (simp; done) | (simp; omega)) | with_unfolding_all rfl))
    replace bw : But g w ((((w6.setCell ⟨(w.heap.size + 2), 0, none⟩ (.int .i64 z3.lo)).setCell ⟨(w.heap.size + 2), 1, none⟩ (.int .i64 z3.hi)).setCell ⟨(w.heap.size + 2), 2, none⟩ (.int .i64 z6.lo)).setCell ⟨(w.heap.size + 2), 3, none⟩ (.int .i64 z6.hi)) := by (with_reducible repeat' (first | assumption | exact But.refl _ _ | apply But.drew | apply But.alloc | (refine But.set ?_ ?hp _; case hp => first | (simp; done) | (simp; omega))))
    (try refine ⟨⟨HA, HB, HR, bw⟩, ?_⟩)
    refine eag_nil ?_
    go_wp2
    refine bodyPost_ret (run_results1 rfl rfl (by (show Hd _ (w.heap.size + 2) 25 #[.int .i64 z3.lo, .int .i64 z3.hi, .int .i64 z6.lo, .int .i64 z6.hi]); (with_reducible repeat' (first | assumption | (apply hdN; (try simp only [sA, sS, sD]); done) | apply hdA | apply hdD | apply hdS | (apply hdF; case hp => first | (simp; done) | (simp; omega)) | with_unfolding_all rfl))) Try.underlying25 rfl (by kernel_rfl)) rfl ⟨⟨z3, z6⟩, e6, rfl, En.Rc.ok_mk ok3 ok6, qq1.out.bind (qq2.out.bind (qq3.out.bind (qq4.out.bind (qq5.out.bind (qq6.out.bind (En.Stk.pure _ _)))))), by (with_reducible repeat' (first | assumption | (apply hdN; (try simp only [sA, sS, sD]); done) | apply hdA | apply hdD | apply hdS | (apply hdF; case hp => first | (simp; done) | (simp; omega)) | with_unfolding_all rfl)), by (with_reducible repeat' (first | assumption | exact But.refl _ _ | apply But.drew | apply But.alloc | (refine But.set ?_ ?hp _; case hp => first | (simp; done) | (simp; omega))))⟩
  case first =>
    replace HG : Hd ((((w.alloc (.cells #[.int .i64 x.re.lo, .int .i64 x.re.hi, .int .i64 x.im.lo, .int .i64 x.im.hi] 25)).alloc (.cells #[.int .i64 y.re.lo, .int .i64 y.re.hi, .int .i64 y.im.lo, .int .i64 y.im.hi] 25)).alloc (.cells #[.int .i64 0, .int .i64 0, .int .i64 0, .int .i64 0] 25)).drew) g 83 #[.int .i64 e0] := by (with_reducible repeat' (first | assumption | (apply hdN; (try simp only [sA, sS, sD]); done) | apply hdA | apply hdD | apply hdS | (apply hdF; case hp => first | (simp; done) | (simp; omega)) | with_unfolding_all rfl))
    replace HA : Hd ((((w.alloc (.cells #[.int .i64 x.re.lo, .int .i64 x.re.hi, .int .i64 x.im.lo, .int .i64 x.im.hi] 25)).alloc (.cells #[.int .i64 y.re.lo, .int .i64 y.re.hi, .int .i64 y.im.lo, .int .i64 y.im.hi] 25)).alloc (.cells #[.int .i64 0, .int .i64 0, .int .i64 0, .int .i64 0] 25)).drew) w.heap.size 25 #[.int .i64 x.re.lo, .int .i64 x.re.hi, .int .i64 x.im.lo, .int .i64 x.im.hi] := by (with_reducible repeat' (first | assumption | (apply hdN; (try simp only [sA, sS, sD]); done) | apply hdA | apply hdD | apply hdS | (apply hdF; case hp => first | (simp; done) | (simp; omega)) | with_unfolding_all rfl))
    replace HB : Hd ((((w.alloc (.cells #[.int .i64 x.re.lo, .int .i64 x.re.hi, .int .i64 x.im.lo, .int .i64 x.im.hi] 25)).alloc (.cells #[.int .i64 y.re.lo, .int .i64 y.re.hi, .int .i64 y.im.lo, .int .i64 y.im.hi] 25)).alloc (.cells #[.int .i64 0, .int .i64 0, .int .i64 0, .int .i64 0] 25)).drew) (w.heap.size + 1) 25 #[.int .i64 y.re.lo, .int .i64 y.re.hi, .int .i64 y.im.lo, .int .i64 y.im.hi] := by (with_reducible repeat' (first | assumption | (apply hdN; (try simp only [sA, sS, sD]); done) | apply hdA | apply hdD | apply hdS | (apply hdF; case hp => first | (simp; done) | (simp; omega)) | with_unfolding_all rfl))
    replace HO : Hd ((((w.alloc (.cells #[.int .i64 x.re.lo, .int .i64 x.re.hi, .int .i64 x.im.lo, .int .i64 x.im.hi] 25)).alloc (.cells #[.int .i64 y.re.lo, .int .i64 y.re.hi, .int .i64 y.im.lo, .int .i64 y.im.hi] 25)).alloc (.cells #[.int .i64 0, .int .i64 0, .int .i64 0, .int .i64 0] 25)).drew) (w.heap.size + 2) 25 #[.int .i64 0, .int .i64 0, .int .i64 0, .int .i64 0] := by (with_reducible repeat' (first | assumption | (apply hdN; (try simp only [sA, sS, sD]); done) | apply hdA | apply hdD | apply hdS | (apply hdF; case hp => first | (simp; done) | (simp; omega)) | with_unfolding_all rfl))
    replace bw : But g w ((((w.alloc (.cells #[.int .i64 x.re.lo, .int .i64 x.re.hi, .int .i64 x.im.lo, .int .i64 x.im.hi] 25)).alloc (.cells #[.int .i64 y.re.lo, .int .i64 y.re.hi, .int .i64 y.im.lo, .int .i64 y.im.hi] 25)).alloc (.cells #[.int .i64 0, .int .i64 0, .int .i64 0, .int .i64 0] 25)).drew) := by (with_reducible repeat' (first | assumption | exact But.refl _ _ | apply But.drew | apply But.alloc | (refine But.set ?_ ?hp _; case hp => first | (simp; done) | (simp; omega))))
    (refine wp_region_fl (fun w' => Hd w' w.heap.size 25 #[.int .i64 x.re.lo, .int .i64 x.re.hi, .int .i64 x.im.lo, .int .i64 x.im.hi] ∧ Hd w' (w.heap.size + 1) 25 #[.int .i64 y.re.lo, .int .i64 y.re.hi, .int .i64 y.im.lo, .int .i64 y.im.hi] ∧ But g w w') 14 [(0, 0), (1, 0), (2, 0), (3, 0), (4, 0), (5, 0), (7, 0), (8, 0), (9, 0), (10, 0), (11, 0), (6, 2), (12, 2), (13, 2), (14, 1), (15, 1)] (by kernel_rfl) (by kernel_rfl) (fun c d v a w h => by cases d <;> exact h) ⟨HA, HB, bw⟩ ?_; simp only [List.map_cons, List.map_nil, List.getD_cons_zero, List.getD_cons_succ, flMark, Nat.reduceEqDiff, ↓reduceIte])
    generalize hW : (((w.alloc (.cells #[.int .i64 x.re.lo, .int .i64 x.re.hi, .int .i64 x.im.lo, .int .i64 x.im.hi] 25)).alloc (.cells #[.int .i64 y.re.lo, .int .i64 y.re.hi, .int .i64 y.im.lo, .int .i64 y.im.hi] 25)).alloc (.cells #[.int .i64 0, .int .i64 0, .int .i64 0, .int .i64 0] 25)).drew = w1 at HG HA HB HO bw ⊢
    clear hW
    have lw1 : w.heap.size ≤ w1.heap.size := bw.size
    repeat ((first | with_reducible apply fl_move | with_reducible apply fl_assign | ((with_reducible refine fl_soft (v := ?_) (fun w' hw' => ?_) ?_); rotate_left 1; (focus (obtain ⟨hA, hB, hBw⟩ := hw'; obtain ⟨hcA, hfA⟩ := hA.facts; obtain ⟨hcB, hfB⟩ := hB.facts; go_simp; (try with_reducible rfl); done)))); simp only [Act.put, Act.eval, List.setIfInBounds_toArray, List.set_cons_zero, List.set_cons_succ, Array.getD_eq_getD_getElem?, List.getElem?_toArray, List.getElem?_cons_zero, List.getElem?_cons_succ, Option.getD_some])
    refine fl_both ?_ ?_
    · go_wp2_with fail
      refine (wtimes_any x.re y.re xr yr e0 g _ HG).mono ?_
      rintro e w2 ⟨z2, e2, rfl, ok2, zz2, qq2, HG2, hb2⟩
      replace bw : But g w w2 := bw.trans hb2
      replace HA := HA.but hb2 (by omega)
      replace HB := HB.but hb2 (by omega)
      replace HO := HO.but hb2 (by omega)
      replace HG := HG2
      clear HG2
      replace qq2 := Lib.hid qq2
      replace zz2 := Lib.hid zz2
      have lw2 : w.heap.size ≤ w2.heap.size := bw.size
      clear hb2
      go_wp2_with fail
      (try refine ⟨⟨HA, HB, bw⟩, ?_⟩)
      repeat ((first | with_reducible apply fl_move | with_reducible apply fl_assign | ((with_reducible refine fl_soft (v := ?_) (fun w' hw' => ?_) ?_); rotate_left 1; (focus (obtain ⟨hA, hB, hBw⟩ := hw'; obtain ⟨hcA, hfA⟩ := hA.facts; obtain ⟨hcB, hfB⟩ := hB.facts; go_simp; (try with_reducible rfl); done)))); simp only [Act.put, Act.eval, List.setIfInBounds_toArray, List.set_cons_zero, List.set_cons_succ, Array.getD_eq_getD_getElem?, List.getElem?_toArray, List.getElem?_cons_zero, List.getElem?_cons_succ, Option.getD_some])
      refine fl_both ?_ ?_
      · go_wp2_with fail
        refine (wtimes_any x.im y.im xi yi e2 g _ HG).mono ?_
        rintro e w3 ⟨z3, e3, rfl, ok3, zz3, qq3, HG3, hb3⟩
        replace bw : But g w w3 := bw.trans hb3
        replace HA := HA.but hb3 (by omega)
        replace HB := HB.but hb3 (by omega)
        replace HO := HO.but hb3 (by omega)
        replace HG := HG3
        clear HG3
        replace qq3 := Lib.hid qq3
        replace zz3 := Lib.hid zz3
        have lw3 : w.heap.size ≤ w3.heap.size := bw.size
        clear hb3
        go_wp2_with fail
        (try refine ⟨⟨HA, HB, bw⟩, ?_⟩)
        repeat ((first | with_reducible apply fl_move | with_reducible apply fl_assign | ((with_reducible refine fl_soft (v := ?_) (fun w' hw' => ?_) ?_); rotate_left 1; (focus (obtain ⟨hA, hB, hBw⟩ := hw'; obtain ⟨hcA, hfA⟩ := hA.facts; obtain ⟨hcB, hfB⟩ := hB.facts; go_simp; (try with_reducible rfl); done)))); simp only [Act.put, Act.eval, List.setIfInBounds_toArray, List.set_cons_zero, List.set_cons_succ, Array.getD_eq_getD_getElem?, List.getElem?_toArray, List.getElem?_cons_zero, List.getElem?_cons_succ, Option.getD_some])
        refine fl_both ?_ ?_
        · go_wp2_with fail
          refine (wless_any z2 z3 (En.Sp.fit_of_ok ok2) (En.Sp.fit_of_ok ok3) e3 g _ HG).mono ?_
          rintro e w4 ⟨z4, e4, rfl, ok4, zz4, qq4, HG4, hb4⟩
          replace bw : But g w w4 := bw.trans hb4
          replace HA := HA.but hb4 (by omega)
          replace HB := HB.but hb4 (by omega)
          replace HO := HO.but hb4 (by omega)
          replace HG := HG4
          clear HG4
          replace qq4 := Lib.hid qq4
          replace zz4 := Lib.hid zz4
          have lw4 : w.heap.size ≤ w4.heap.size := bw.size
          clear hb4
          go_wp2_with fail
          (try refine ⟨⟨HA, HB, bw⟩, ?_⟩)
          repeat ((first | with_reducible apply fl_move | with_reducible apply fl_assign | ((with_reducible refine fl_soft (v := ?_) (fun w' hw' => ?_) ?_); rotate_left 1; (focus (obtain ⟨hA, hB, hBw⟩ := hw'; obtain ⟨hcA, hfA⟩ := hA.facts; obtain ⟨hcB, hfB⟩ := hB.facts; go_simp; (try with_reducible rfl); done)))); simp only [Act.put, Act.eval, List.setIfInBounds_toArray, List.set_cons_zero, List.set_cons_succ, Array.getD_eq_getD_getElem?, List.getElem?_toArray, List.getElem?_cons_zero, List.getElem?_cons_succ, Option.getD_some])
          refine fl_must ?_
          go_wp2_with fail
          have PG := HG
          have PA := HA
          have PB := HB
          have PO := HO
          have Pbw := bw
          have ltGR : g < w4.heap.size := by (have := HG.lt; (try simp only [World.size_alloc, World.size_setCell, World.size_drew] at this); omega)
          have ltAR : w.heap.size < w4.heap.size := by (have := HA.lt; (try simp only [World.size_alloc, World.size_setCell, World.size_drew] at this); omega)
          have ltBR : (w.heap.size + 1) < w4.heap.size := by (have := HB.lt; (try simp only [World.size_alloc, World.size_setCell, World.size_drew] at this); omega)
          have ltOR : (w.heap.size + 2) < w4.heap.size := by (have := HO.lt; (try simp only [World.size_alloc, World.size_setCell, World.size_drew] at this); omega)
          replace HG : Hd (w4.alloc (.cells #[.int .i64 0, .int .i64 0] 23)) g 83 #[.int .i64 e4] := by (with_reducible repeat' (first | assumption | (apply hdN; (try simp only [sA, sS, sD]); done) | apply hdA | apply hdD | apply hdS | (apply hdF; case hp => first | (simp; done) | (simp; omega)) | with_unfolding_all rfl))
          replace HA : Hd (w4.alloc (.cells #[.int .i64 0, .int .i64 0] 23)) w.heap.size 25 #[.int .i64 x.re.lo, .int .i64 x.re.hi, .int .i64 x.im.lo, .int .i64 x.im.hi] := by (with_reducible repeat' (first | assumption | (apply hdN; (try simp only [sA, sS, sD]); done) | apply hdA | apply hdD | apply hdS | (apply hdF; case hp => first | (simp; done) | (simp; omega)) | with_unfolding_all rfl))
          replace HB : Hd (w4.alloc (.cells #[.int .i64 0, .int .i64 0] 23)) (w.heap.size + 1) 25 #[.int .i64 y.re.lo, .int .i64 y.re.hi, .int .i64 y.im.lo, .int .i64 y.im.hi] := by (with_reducible repeat' (first | assumption | (apply hdN; (try simp only [sA, sS, sD]); done) | apply hdA | apply hdD | apply hdS | (apply hdF; case hp => first | (simp; done) | (simp; omega)) | with_unfolding_all rfl))
          replace HO : Hd (w4.alloc (.cells #[.int .i64 0, .int .i64 0] 23)) (w.heap.size + 2) 25 #[.int .i64 0, .int .i64 0, .int .i64 0, .int .i64 0] := by (with_reducible repeat' (first | assumption | (apply hdN; (try simp only [sA, sS, sD]); done) | apply hdA | apply hdD | apply hdS | (apply hdF; case hp => first | (simp; done) | (simp; omega)) | with_unfolding_all rfl))
          replace bw : But g w (w4.alloc (.cells #[.int .i64 0, .int .i64 0] 23)) := by (with_reducible repeat' (first | assumption | exact But.refl _ _ | apply But.drew | apply But.alloc | (refine But.set ?_ ?hp _; case hp => first | (simp; done) | (simp; omega))))
          have HR : Hd (w4.alloc (.cells #[.int .i64 0, .int .i64 0] 23)) w4.heap.size 23 #[.int .i64 0, .int .i64 0] := by (with_reducible repeat' (first | assumption | (apply hdN; (try simp only [sA, sS, sD]); done) | apply hdA | apply hdD | apply hdS | (apply hdF; case hp => first | (simp; done) | (simp; omega)) | with_unfolding_all rfl))
          (try refine ⟨⟨HA, HB, bw⟩, ?_⟩)
          repeat ((first | with_reducible apply fl_move | with_reducible apply fl_assign | ((with_reducible refine fl_soft (v := ?_) (fun w' hw' => ?_) ?_); rotate_left 1; (focus (obtain ⟨hA, hB, hBw⟩ := hw'; obtain ⟨hcA, hfA⟩ := hA.facts; obtain ⟨hcB, hfB⟩ := hB.facts; go_simp; (try with_reducible rfl); done)))); simp only [Act.put, Act.eval, List.setIfInBounds_toArray, List.set_cons_zero, List.set_cons_succ, Array.getD_eq_getD_getElem?, List.getElem?_toArray, List.getElem?_cons_zero, List.getElem?_cons_succ, Option.getD_some])
          repeat ((first | with_reducible apply fl_move | with_reducible apply fl_assign | ((with_reducible refine fl_soft (v := ?_) (fun w' hw' => ?_) ?_); rotate_left 1; (focus (obtain ⟨hA, hB, hBw⟩ := hw'; obtain ⟨hcA, hfA⟩ := hA.facts; obtain ⟨hcB, hfB⟩ := hB.facts; go_simp; (try with_reducible rfl); done)))); simp only [Act.put, Act.eval, List.setIfInBounds_toArray, List.set_cons_zero, List.set_cons_succ, Array.getD_eq_getD_getElem?, List.getElem?_toArray, List.getElem?_cons_zero, List.getElem?_cons_succ, Option.getD_some])
          refine fl_hard ?_
          obtain ⟨hcR, hfR⟩ := HR.facts
          go_wp2_with fail
          replace HG : Hd (w4.alloc (.cells #[.int .i64 z4.lo, .int .i64 z4.hi] 23)) g 83 #[.int .i64 e4] := by (with_reducible repeat' (first | assumption | (apply hdN; (try simp only [sA, sS, sD]); done) | apply hdA | apply hdD | apply hdS | (apply hdF; case hp => first | (simp; done) | (simp; omega)) | with_unfolding_all rfl))
          replace HA : Hd (w4.alloc (.cells #[.int .i64 z4.lo, .int .i64 z4.hi] 23)) w.heap.size 25 #[.int .i64 x.re.lo, .int .i64 x.re.hi, .int .i64 x.im.lo, .int .i64 x.im.hi] := by (with_reducible repeat' (first | assumption | (apply hdN; (try simp only [sA, sS, sD]); done) | apply hdA | apply hdD | apply hdS | (apply hdF; case hp => first | (simp; done) | (simp; omega)) | with_unfolding_all rfl))
          replace HB : Hd (w4.alloc (.cells #[.int .i64 z4.lo, .int .i64 z4.hi] 23)) (w.heap.size + 1) 25 #[.int .i64 y.re.lo, .int .i64 y.re.hi, .int .i64 y.im.lo, .int .i64 y.im.hi] := by (with_reducible repeat' (first | assumption | (apply hdN; (try simp only [sA, sS, sD]); done) | apply hdA | apply hdD | apply hdS | (apply hdF; case hp => first | (simp; done) | (simp; omega)) | with_unfolding_all rfl))
          replace HO : Hd (w4.alloc (.cells #[.int .i64 z4.lo, .int .i64 z4.hi] 23)) (w.heap.size + 2) 25 #[.int .i64 0, .int .i64 0, .int .i64 0, .int .i64 0] := by (with_reducible repeat' (first | assumption | (apply hdN; (try simp only [sA, sS, sD]); done) | apply hdA | apply hdD | apply hdS | (apply hdF; case hp => first | (simp; done) | (simp; omega)) | with_unfolding_all rfl))
          replace HR : Hd (w4.alloc (.cells #[.int .i64 z4.lo, .int .i64 z4.hi] 23)) w4.heap.size 23 #[.int .i64 z4.lo, .int .i64 z4.hi] := by (with_reducible repeat' (first | assumption | (apply hdN; (try simp only [sA, sS, sD]); done) | apply hdA | apply hdD | apply hdS | (apply hdF; case hp => first | (simp; done) | (simp; omega)) | with_unfolding_all rfl))
          replace bw : But g w (w4.alloc (.cells #[.int .i64 z4.lo, .int .i64 z4.hi] 23)) := by (with_reducible repeat' (first | assumption | exact But.refl _ _ | apply But.drew | apply But.alloc | (refine But.set ?_ ?hp _; case hp => first | (simp; done) | (simp; omega))))
          (try refine ⟨⟨HA, HB, bw⟩, ?_⟩)
          repeat ((first | with_reducible apply fl_move | with_reducible apply fl_assign | ((with_reducible refine fl_soft (v := ?_) (fun w' hw' => ?_) ?_); rotate_left 1; (focus (obtain ⟨hA, hB, hBw⟩ := hw'; obtain ⟨hcA, hfA⟩ := hA.facts; obtain ⟨hcB, hfB⟩ := hB.facts; go_simp; (try with_reducible rfl); done)))); simp only [Act.put, Act.eval, List.setIfInBounds_toArray, List.set_cons_zero, List.set_cons_succ, Array.getD_eq_getD_getElem?, List.getElem?_toArray, List.getElem?_cons_zero, List.getElem?_cons_succ, Option.getD_some])
          refine fl_nil ?_
          go_wp2_with fail
          go_meet
          exact ⟨w4.heap.size, z2, z3, z4, e2, e3, e4, rfl, by omega, ok4, qq2, qq3, qq4, HG, HA, HB, HO, HR, bw⟩
        · go_wp2_with fail
          have PG := HG
          have PA := HA
          have PB := HB
          have PO := HO
          have Pbw := bw
          have ltGR : g < w3.heap.size := by (have := HG.lt; (try simp only [World.size_alloc, World.size_setCell, World.size_drew] at this); omega)
          have ltAR : w.heap.size < w3.heap.size := by (have := HA.lt; (try simp only [World.size_alloc, World.size_setCell, World.size_drew] at this); omega)
          have ltBR : (w.heap.size + 1) < w3.heap.size := by (have := HB.lt; (try simp only [World.size_alloc, World.size_setCell, World.size_drew] at this); omega)
          have ltOR : (w.heap.size + 2) < w3.heap.size := by (have := HO.lt; (try simp only [World.size_alloc, World.size_setCell, World.size_drew] at this); omega)
          replace HG : Hd (w3.alloc (.cells #[.int .i64 0, .int .i64 0] 23)) g 83 #[.int .i64 e3] := by (with_reducible repeat' (first | assumption | (apply hdN; (try simp only [sA, sS, sD]); done) | apply hdA | apply hdD | apply hdS | (apply hdF; case hp => first | (simp; done) | (simp; omega)) | with_unfolding_all rfl))
          replace HA : Hd (w3.alloc (.cells #[.int .i64 0, .int .i64 0] 23)) w.heap.size 25 #[.int .i64 x.re.lo, .int .i64 x.re.hi, .int .i64 x.im.lo, .int .i64 x.im.hi] := by (with_reducible repeat' (first | assumption | (apply hdN; (try simp only [sA, sS, sD]); done) | apply hdA | apply hdD | apply hdS | (apply hdF; case hp => first | (simp; done) | (simp; omega)) | with_unfolding_all rfl))
          replace HB : Hd (w3.alloc (.cells #[.int .i64 0, .int .i64 0] 23)) (w.heap.size + 1) 25 #[.int .i64 y.re.lo, .int .i64 y.re.hi, .int .i64 y.im.lo, .int .i64 y.im.hi] := by (with_reducible repeat' (first | assumption | (apply hdN; (try simp only [sA, sS, sD]); done) | apply hdA | apply hdD | apply hdS | (apply hdF; case hp => first | (simp; done) | (simp; omega)) | with_unfolding_all rfl))
          replace HO : Hd (w3.alloc (.cells #[.int .i64 0, .int .i64 0] 23)) (w.heap.size + 2) 25 #[.int .i64 0, .int .i64 0, .int .i64 0, .int .i64 0] := by (with_reducible repeat' (first | assumption | (apply hdN; (try simp only [sA, sS, sD]); done) | apply hdA | apply hdD | apply hdS | (apply hdF; case hp => first | (simp; done) | (simp; omega)) | with_unfolding_all rfl))
          replace bw : But g w (w3.alloc (.cells #[.int .i64 0, .int .i64 0] 23)) := by (with_reducible repeat' (first | assumption | exact But.refl _ _ | apply But.drew | apply But.alloc | (refine But.set ?_ ?hp _; case hp => first | (simp; done) | (simp; omega))))
          have HR : Hd (w3.alloc (.cells #[.int .i64 0, .int .i64 0] 23)) w3.heap.size 23 #[.int .i64 0, .int .i64 0] := by (with_reducible repeat' (first | assumption | (apply hdN; (try simp only [sA, sS, sD]); done) | apply hdA | apply hdD | apply hdS | (apply hdF; case hp => first | (simp; done) | (simp; omega)) | with_unfolding_all rfl))
          (try refine ⟨⟨HA, HB, bw⟩, ?_⟩)
          repeat ((first | with_reducible apply eag_move | with_reducible apply eag_assign | ((with_reducible refine eag_soft (v := ?_) (fun w' hw' => ?_) ?_); rotate_left 1; (focus (obtain ⟨hA, hB, hBw⟩ := hw'; obtain ⟨hcA, hfA⟩ := hA.facts; obtain ⟨hcB, hfB⟩ := hB.facts; go_simp; (try with_reducible rfl); done)))); simp only [Act.put, Act.eval, List.setIfInBounds_toArray, List.set_cons_zero, List.set_cons_succ, Array.getD_eq_getD_getElem?, List.getElem?_toArray, List.getElem?_cons_zero, List.getElem?_cons_succ, Option.getD_some])
          repeat ((first | with_reducible apply eag_move | with_reducible apply eag_assign | ((with_reducible refine eag_soft (v := ?_) (fun w' hw' => ?_) ?_); rotate_left 1; (focus (obtain ⟨hA, hB, hBw⟩ := hw'; obtain ⟨hcA, hfA⟩ := hA.facts; obtain ⟨hcB, hfB⟩ := hB.facts; go_simp; (try with_reducible rfl); done)))); simp only [Act.put, Act.eval, List.setIfInBounds_toArray, List.set_cons_zero, List.set_cons_succ, Array.getD_eq_getD_getElem?, List.getElem?_toArray, List.getElem?_cons_zero, List.getElem?_cons_succ, Option.getD_some])
          refine eag_hard ?_
          go_wp2_with fail
          refine (wless_any z2 z3 (En.Sp.fit_of_ok ok2) (En.Sp.fit_of_ok ok3) e3 g _ HG).mono ?_
          rintro e w4 ⟨z4, e4, rfl, ok4, zz4, qq4, HG4, hb4⟩
          replace bw : But g w w4 := bw.trans hb4
          replace HA := HA.but hb4 (by omega)
          replace HB := HB.but hb4 (by omega)
          replace HO := HO.but hb4 (by omega)
          replace HR := HR.but hb4 (by omega)
          replace HG := HG4
          clear HG4
          replace qq4 := Lib.hid qq4
          replace zz4 := Lib.hid zz4
          have lw4 : w.heap.size ≤ w4.heap.size := bw.size
          clear hb4
          go_wp2_with fail
          (try refine ⟨⟨HA, HB, bw⟩, ?_⟩)
          repeat ((first | with_reducible apply eag_move | with_reducible apply eag_assign | ((with_reducible refine eag_soft (v := ?_) (fun w' hw' => ?_) ?_); rotate_left 1; (focus (obtain ⟨hA, hB, hBw⟩ := hw'; obtain ⟨hcA, hfA⟩ := hA.facts; obtain ⟨hcB, hfB⟩ := hB.facts; go_simp; (try with_reducible rfl); done)))); simp only [Act.put, Act.eval, List.setIfInBounds_toArray, List.set_cons_zero, List.set_cons_succ, Array.getD_eq_getD_getElem?, List.getElem?_toArray, List.getElem?_cons_zero, List.getElem?_cons_succ, Option.getD_some])
          refine eag_hard ?_
          obtain ⟨hcR, hfR⟩ := HR.facts
          go_wp2_with fail
          have PG := HG
          have PA := HA
          have PB := HB
          have PO := HO
          have PR := HR
          have Pbw := bw
          replace HG : Hd ((w4.setCell ⟨w3.heap.size, 0, none⟩ (.int .i64 z4.lo)).setCell ⟨w3.heap.size, 1, none⟩ (.int .i64 z4.hi)) g 83 #[.int .i64 e4] := by (with_reducible repeat' (first | assumption | (apply hdN; (try simp only [sA, sS, sD]); done) | apply hdA | apply hdD | apply hdS | (apply hdF; case hp => first | (simp; done) | (simp; omega)) | with_unfolding_all rfl))
          replace HA : Hd ((w4.setCell ⟨w3.heap.size, 0, none⟩ (.int .i64 z4.lo)).setCell ⟨w3.heap.size, 1, none⟩ (.int .i64 z4.hi)) w.heap.size 25 #[.int .i64 x.re.lo, .int .i64 x.re.hi, .int .i64 x.im.lo, .int .i64 x.im.hi] := by (with_reducible repeat' (first | assumption | (apply hdN; (try simp only [sA, sS, sD]); done) | apply hdA | apply hdD | apply hdS | (apply hdF; case hp => first | (simp; done) | (simp; omega)) | with_unfolding_all rfl))
          replace HB : Hd ((w4.setCell ⟨w3.heap.size, 0, none⟩ (.int .i64 z4.lo)).setCell ⟨w3.heap.size, 1, none⟩ (.int .i64 z4.hi)) (w.heap.size + 1) 25 #[.int .i64 y.re.lo, .int .i64 y.re.hi, .int .i64 y.im.lo, .int .i64 y.im.hi] := by (with_reducible repeat' (first | assumption | (apply hdN; (try simp only [sA, sS, sD]); done) | apply hdA | apply hdD | apply hdS | (apply hdF; case hp => first | (simp; done) | (simp; omega)) | with_unfolding_all rfl))
          replace HO : Hd ((w4.setCell ⟨w3.heap.size, 0, none⟩ (.int .i64 z4.lo)).setCell ⟨w3.heap.size, 1, none⟩ (.int .i64 z4.hi)) (w.heap.size + 2) 25 #[.int .i64 0, .int .i64 0, .int .i64 0, .int .i64 0] := by (with_reducible repeat' (first | assumption | (apply hdN; (try simp only [sA, sS, sD]); done) | apply hdA | apply hdD | apply hdS | (apply hdF; case hp => first | (simp; done) | (simp; omega)) | with_unfolding_all rfl))
          replace HR : Hd ((w4.setCell ⟨w3.heap.size, 0, none⟩ (.int .i64 z4.lo)).setCell ⟨w3.heap.size, 1, none⟩ (.int .i64 z4.hi)) w3.heap.size 23 #[.int .i64 z4.lo, .int .i64 z4.hi] := by (with_reducible repeat' (first | assumption | (apply hdN; (try simp only [sA, sS, sD]); done) | apply hdA | apply hdD | apply hdS | (apply hdF; case hp => first | (simp; done) | (simp; omega)) | with_unfolding_all rfl))
          replace bw : But g w ((w4.setCell ⟨w3.heap.size, 0, none⟩ (.int .i64 z4.lo)).setCell ⟨w3.heap.size, 1, none⟩ (.int .i64 z4.hi)) := by (with_reducible repeat' (first | assumption | exact But.refl _ _ | apply But.drew | apply But.alloc | (refine But.set ?_ ?hp _; case hp => first | (simp; done) | (simp; omega))))
          (try refine ⟨⟨HA, HB, bw⟩, ?_⟩)
          repeat ((first | with_reducible apply eag_move | with_reducible apply eag_assign | ((with_reducible refine eag_soft (v := ?_) (fun w' hw' => ?_) ?_); rotate_left 1; (focus (obtain ⟨hA, hB, hBw⟩ := hw'; obtain ⟨hcA, hfA⟩ := hA.facts; obtain ⟨hcB, hfB⟩ := hB.facts; go_simp; (try with_reducible rfl); done)))); simp only [Act.put, Act.eval, List.setIfInBounds_toArray, List.set_cons_zero, List.set_cons_succ, Array.getD_eq_getD_getElem?, List.getElem?_toArray, List.getElem?_cons_zero, List.getElem?_cons_succ, Option.getD_some])
          refine eag_nil ?_
          go_wp2_with fail
          go_meet
          exact ⟨w3.heap.size, z2, z3, z4, e2, e3, e4, rfl, by omega, ok4, qq2, qq3, qq4, HG, HA, HB, HO, HR, bw⟩
      · go_wp2_with fail
        have PG := HG
        have PA := HA
        have PB := HB
        have PO := HO
        have Pbw := bw
        have ltGR : g < w2.heap.size := by (have := HG.lt; (try simp only [World.size_alloc, World.size_setCell, World.size_drew] at this); omega)
        have ltAR : w.heap.size < w2.heap.size := by (have := HA.lt; (try simp only [World.size_alloc, World.size_setCell, World.size_drew] at this); omega)
        have ltBR : (w.heap.size + 1) < w2.heap.size := by (have := HB.lt; (try simp only [World.size_alloc, World.size_setCell, World.size_drew] at this); omega)
        have ltOR : (w.heap.size + 2) < w2.heap.size := by (have := HO.lt; (try simp only [World.size_alloc, World.size_setCell, World.size_drew] at this); omega)
        replace HG : Hd (w2.alloc (.cells #[.int .i64 0, .int .i64 0] 23)) g 83 #[.int .i64 e2] := by (with_reducible repeat' (first | assumption | (apply hdN; (try simp only [sA, sS, sD]); done) | apply hdA | apply hdD | apply hdS | (apply hdF; case hp => first | (simp; done) | (simp; omega)) | with_unfolding_all rfl))
        replace HA : Hd (w2.alloc (.cells #[.int .i64 0, .int .i64 0] 23)) w.heap.size 25 #[.int .i64 x.re.lo, .int .i64 x.re.hi, .int .i64 x.im.lo, .int .i64 x.im.hi] := by (with_reducible repeat' (first | assumption | (apply hdN; (try simp only [sA, sS, sD]); done) | apply hdA | apply hdD | apply hdS | (apply hdF; case hp => first | (simp; done) | (simp; omega)) | with_unfolding_all rfl))
        replace HB : Hd (w2.alloc (.cells #[.int .i64 0, .int .i64 0] 23)) (w.heap.size + 1) 25 #[.int .i64 y.re.lo, .int .i64 y.re.hi, .int .i64 y.im.lo, .int .i64 y.im.hi] := by (with_reducible repeat' (first | assumption | (apply hdN; (try simp only [sA, sS, sD]); done) | apply hdA | apply hdD | apply hdS | (apply hdF; case hp => first | (simp; done) | (simp; omega)) | with_unfolding_all rfl))
        replace HO : Hd (w2.alloc (.cells #[.int .i64 0, .int .i64 0] 23)) (w.heap.size + 2) 25 #[.int .i64 0, .int .i64 0, .int .i64 0, .int .i64 0] := by (with_reducible repeat' (first | assumption | (apply hdN; (try simp only [sA, sS, sD]); done) | apply hdA | apply hdD | apply hdS | (apply hdF; case hp => first | (simp; done) | (simp; omega)) | with_unfolding_all rfl))
        replace bw : But g w (w2.alloc (.cells #[.int .i64 0, .int .i64 0] 23)) := by (with_reducible repeat' (first | assumption | exact But.refl _ _ | apply But.drew | apply But.alloc | (refine But.set ?_ ?hp _; case hp => first | (simp; done) | (simp; omega))))
        have HR : Hd (w2.alloc (.cells #[.int .i64 0, .int .i64 0] 23)) w2.heap.size 23 #[.int .i64 0, .int .i64 0] := by (with_reducible repeat' (first | assumption | (apply hdN; (try simp only [sA, sS, sD]); done) | apply hdA | apply hdD | apply hdS | (apply hdF; case hp => first | (simp; done) | (simp; omega)) | with_unfolding_all rfl))
        (try refine ⟨⟨HA, HB, bw⟩, ?_⟩)
        repeat ((first | with_reducible apply eag_move | with_reducible apply eag_assign | ((with_reducible refine eag_soft (v := ?_) (fun w' hw' => ?_) ?_); rotate_left 1; (focus (obtain ⟨hA, hB, hBw⟩ := hw'; obtain ⟨hcA, hfA⟩ := hA.facts; obtain ⟨hcB, hfB⟩ := hB.facts; go_simp; (try with_reducible rfl); done)))); simp only [Act.put, Act.eval, List.setIfInBounds_toArray, List.set_cons_zero, List.set_cons_succ, Array.getD_eq_getD_getElem?, List.getElem?_toArray, List.getElem?_cons_zero, List.getElem?_cons_succ, Option.getD_some])
        repeat ((first | with_reducible apply eag_move | with_reducible apply eag_assign | ((with_reducible refine eag_soft (v := ?_) (fun w' hw' => ?_) ?_); rotate_left 1; (focus (obtain ⟨hA, hB, hBw⟩ := hw'; obtain ⟨hcA, hfA⟩ := hA.facts; obtain ⟨hcB, hfB⟩ := hB.facts; go_simp; (try with_reducible rfl); done)))); simp only [Act.put, Act.eval, List.setIfInBounds_toArray, List.set_cons_zero, List.set_cons_succ, Array.getD_eq_getD_getElem?, List.getElem?_toArray, List.getElem?_cons_zero, List.getElem?_cons_succ, Option.getD_some])
        refine eag_hard ?_
        go_wp2_with fail
        refine (wtimes_any x.im y.im xi yi e2 g _ HG).mono ?_
        rintro e w3 ⟨z3, e3, rfl, ok3, zz3, qq3, HG3, hb3⟩
        replace bw : But g w w3 := bw.trans hb3
        replace HA := HA.but hb3 (by omega)
        replace HB := HB.but hb3 (by omega)
        replace HO := HO.but hb3 (by omega)
        replace HR := HR.but hb3 (by omega)
        replace HG := HG3
        clear HG3
        replace qq3 := Lib.hid qq3
        replace zz3 := Lib.hid zz3
        have lw3 : w.heap.size ≤ w3.heap.size := bw.size
        clear hb3
        go_wp2_with fail
        (try refine ⟨⟨HA, HB, bw⟩, ?_⟩)
        repeat ((first | with_reducible apply eag_move | with_reducible apply eag_assign | ((with_reducible refine eag_soft (v := ?_) (fun w' hw' => ?_) ?_); rotate_left 1; (focus (obtain ⟨hA, hB, hBw⟩ := hw'; obtain ⟨hcA, hfA⟩ := hA.facts; obtain ⟨hcB, hfB⟩ := hB.facts; go_simp; (try with_reducible rfl); done)))); simp only [Act.put, Act.eval, List.setIfInBounds_toArray, List.set_cons_zero, List.set_cons_succ, Array.getD_eq_getD_getElem?, List.getElem?_toArray, List.getElem?_cons_zero, List.getElem?_cons_succ, Option.getD_some])
        refine eag_hard ?_
        go_wp2_with fail
        refine (wless_any z2 z3 (En.Sp.fit_of_ok ok2) (En.Sp.fit_of_ok ok3) e3 g _ HG).mono ?_
        rintro e w4 ⟨z4, e4, rfl, ok4, zz4, qq4, HG4, hb4⟩
        replace bw : But g w w4 := bw.trans hb4
        replace HA := HA.but hb4 (by omega)
        replace HB := HB.but hb4 (by omega)
        replace HO := HO.but hb4 (by omega)
        replace HR := HR.but hb4 (by omega)
        replace HG := HG4
        clear HG4
        replace qq4 := Lib.hid qq4
        replace zz4 := Lib.hid zz4
        have lw4 : w.heap.size ≤ w4.heap.size := bw.size
        clear hb4
        go_wp2_with fail
        (try refine ⟨⟨HA, HB, bw⟩, ?_⟩)
        repeat ((first | with_reducible apply eag_move | with_reducible apply eag_assign | ((with_reducible refine eag_soft (v := ?_) (fun w' hw' => ?_) ?_); rotate_left 1; (focus (obtain ⟨hA, hB, hBw⟩ := hw'; obtain ⟨hcA, hfA⟩ := hA.facts; obtain ⟨hcB, hfB⟩ := hB.facts; go_simp; (try with_reducible rfl); done)))); simp only [Act.put, Act.eval, List.setIfInBounds_toArray, List.set_cons_zero, List.set_cons_succ, Array.getD_eq_getD_getElem?, List.getElem?_toArray, List.getElem?_cons_zero, List.getElem?_cons_succ, Option.getD_some])
        refine eag_hard ?_
        obtain ⟨hcR, hfR⟩ := HR.facts
        go_wp2_with fail
        have PG := HG
        have PA := HA
        have PB := HB
        have PO := HO
        have PR := HR
        have Pbw := bw
        replace HG : Hd ((w4.setCell ⟨w2.heap.size, 0, none⟩ (.int .i64 z4.lo)).setCell ⟨w2.heap.size, 1, none⟩ (.int .i64 z4.hi)) g 83 #[.int .i64 e4] := by (with_reducible repeat' (first | assumption | (apply hdN; (try simp only [sA, sS, sD]); done) | apply hdA | apply hdD | apply hdS | (apply hdF; case hp => first | (simp; done) | (simp; omega)) | with_unfolding_all rfl))
        replace HA : Hd ((w4.setCell ⟨w2.heap.size, 0, none⟩ (.int .i64 z4.lo)).setCell ⟨w2.heap.size, 1, none⟩ (.int .i64 z4.hi)) w.heap.size 25 #[.int .i64 x.re.lo, .int .i64 x.re.hi, .int .i64 x.im.lo, .int .i64 x.im.hi] := by (with_reducible repeat' (first | assumption | (apply hdN; (try simp only [sA, sS, sD]); done) | apply hdA | apply hdD | apply hdS | (apply hdF; case hp => first | (simp; done) | (simp; omega)) | with_unfolding_all rfl))
        replace HB : Hd ((w4.setCell ⟨w2.heap.size, 0, none⟩ (.int .i64 z4.lo)).setCell ⟨w2.heap.size, 1, none⟩ (.int .i64 z4.hi)) (w.heap.size + 1) 25 #[.int .i64 y.re.lo, .int .i64 y.re.hi, .int .i64 y.im.lo, .int .i64 y.im.hi] := by (with_reducible repeat' (first | assumption | (apply hdN; (try simp only [sA, sS, sD]); done) | apply hdA | apply hdD | apply hdS | (apply hdF; case hp => first | (simp; done) | (simp; omega)) | with_unfolding_all rfl))
        replace HO : Hd ((w4.setCell ⟨w2.heap.size, 0, none⟩ (.int .i64 z4.lo)).setCell ⟨w2.heap.size, 1, none⟩ (.int .i64 z4.hi)) (w.heap.size + 2) 25 #[.int .i64 0, .int .i64 0, .int .i64 0, .int .i64 0] := by (with_reducible repeat' (first | assumption | (apply hdN; (try simp only [sA, sS, sD]); done) | apply hdA | apply hdD | apply hdS | (apply hdF; case hp => first | (simp; done) | (simp; omega)) | with_unfolding_all rfl))
        replace HR : Hd ((w4.setCell ⟨w2.heap.size, 0, none⟩ (.int .i64 z4.lo)).setCell ⟨w2.heap.size, 1, none⟩ (.int .i64 z4.hi)) w2.heap.size 23 #[.int .i64 z4.lo, .int .i64 z4.hi] := by (with_reducible repeat' (first | assumption | (apply hdN; (try simp only [sA, sS, sD]); done) | apply hdA | apply hdD | apply hdS | (apply hdF; case hp => first | (simp; done) | (simp; omega)) | with_unfolding_all rfl))
        replace bw : But g w ((w4.setCell ⟨w2.heap.size, 0, none⟩ (.int .i64 z4.lo)).setCell ⟨w2.heap.size, 1, none⟩ (.int .i64 z4.hi)) := by (with_reducible repeat' (first | assumption | exact But.refl _ _ | apply But.drew | apply But.alloc | (refine But.set ?_ ?hp _; case hp => first | (simp; done) | (simp; omega))))
        (try refine ⟨⟨HA, HB, bw⟩, ?_⟩)
        repeat ((first | with_reducible apply eag_move | with_reducible apply eag_assign | ((with_reducible refine eag_soft (v := ?_) (fun w' hw' => ?_) ?_); rotate_left 1; (focus (obtain ⟨hA, hB, hBw⟩ := hw'; obtain ⟨hcA, hfA⟩ := hA.facts; obtain ⟨hcB, hfB⟩ := hB.facts; go_simp; (try with_reducible rfl); done)))); simp only [Act.put, Act.eval, List.setIfInBounds_toArray, List.set_cons_zero, List.set_cons_succ, Array.getD_eq_getD_getElem?, List.getElem?_toArray, List.getElem?_cons_zero, List.getElem?_cons_succ, Option.getD_some])
        refine eag_nil ?_
        go_wp2_with fail
        go_meet
        exact ⟨w2.heap.size, z2, z3, z4, e2, e3, e4, rfl, by omega, ok4, qq2, qq3, qq4, HG, HA, HB, HO, HR, bw⟩
    · go_wp2_with fail
      have PG := HG
      have PA := HA
      have PB := HB
      have PO := HO
      have Pbw := bw
      have ltGR : g < w1.heap.size := by (have := HG.lt; (try simp only [World.size_alloc, World.size_setCell, World.size_drew] at this); omega)
      have ltAR : w.heap.size < w1.heap.size := by (have := HA.lt; (try simp only [World.size_alloc, World.size_setCell, World.size_drew] at this); omega)
      have ltBR : (w.heap.size + 1) < w1.heap.size := by (have := HB.lt; (try simp only [World.size_alloc, World.size_setCell, World.size_drew] at this); omega)
      have ltOR : (w.heap.size + 2) < w1.heap.size := by (have := HO.lt; (try simp only [World.size_alloc, World.size_setCell, World.size_drew] at this); omega)
      replace HG : Hd (w1.alloc (.cells #[.int .i64 0, .int .i64 0] 23)) g 83 #[.int .i64 e0] := by (with_reducible repeat' (first | assumption | (apply hdN; (try simp only [sA, sS, sD]); done) | apply hdA | apply hdD | apply hdS | (apply hdF; case hp => first | (simp; done) | (simp; omega)) | with_unfolding_all rfl))
      replace HA : Hd (w1.alloc (.cells #[.int .i64 0, .int .i64 0] 23)) w.heap.size 25 #[.int .i64 x.re.lo, .int .i64 x.re.hi, .int .i64 x.im.lo, .int .i64 x.im.hi] := by (with_reducible repeat' (first | assumption | (apply hdN; (try simp only [sA, sS, sD]); done) | apply hdA | apply hdD | apply hdS | (apply hdF; case hp => first | (simp; done) | (simp; omega)) | with_unfolding_all rfl))
      replace HB : Hd (w1.alloc (.cells #[.int .i64 0, .int .i64 0] 23)) (w.heap.size + 1) 25 #[.int .i64 y.re.lo, .int .i64 y.re.hi, .int .i64 y.im.lo, .int .i64 y.im.hi] := by (with_reducible repeat' (first | assumption | (apply hdN; (try simp only [sA, sS, sD]); done) | apply hdA | apply hdD | apply hdS | (apply hdF; case hp => first | (simp; done) | (simp; omega)) | with_unfolding_all rfl))
      replace HO : Hd (w1.alloc (.cells #[.int .i64 0, .int .i64 0] 23)) (w.heap.size + 2) 25 #[.int .i64 0, .int .i64 0, .int .i64 0, .int .i64 0] := by (with_reducible repeat' (first | assumption | (apply hdN; (try simp only [sA, sS, sD]); done) | apply hdA | apply hdD | apply hdS | (apply hdF; case hp => first | (simp; done) | (simp; omega)) | with_unfolding_all rfl))
      replace bw : But g w (w1.alloc (.cells #[.int .i64 0, .int .i64 0] 23)) := by (with_reducible repeat' (first | assumption | exact But.refl _ _ | apply But.drew | apply But.alloc | (refine But.set ?_ ?hp _; case hp => first | (simp; done) | (simp; omega))))
      have HR : Hd (w1.alloc (.cells #[.int .i64 0, .int .i64 0] 23)) w1.heap.size 23 #[.int .i64 0, .int .i64 0] := by (with_reducible repeat' (first | assumption | (apply hdN; (try simp only [sA, sS, sD]); done) | apply hdA | apply hdD | apply hdS | (apply hdF; case hp => first | (simp; done) | (simp; omega)) | with_unfolding_all rfl))
      (try refine ⟨⟨HA, HB, bw⟩, ?_⟩)
      repeat ((first | with_reducible apply eag_move | with_reducible apply eag_assign | ((with_reducible refine eag_soft (v := ?_) (fun w' hw' => ?_) ?_); rotate_left 1; (focus (obtain ⟨hA, hB, hBw⟩ := hw'; obtain ⟨hcA, hfA⟩ := hA.facts; obtain ⟨hcB, hfB⟩ := hB.facts; go_simp; (try with_reducible rfl); done)))); simp only [Act.put, Act.eval, List.setIfInBounds_toArray, List.set_cons_zero, List.set_cons_succ, Array.getD_eq_getD_getElem?, List.getElem?_toArray, List.getElem?_cons_zero, List.getElem?_cons_succ, Option.getD_some])
      repeat ((first | with_reducible apply eag_move | with_reducible apply eag_assign | ((with_reducible refine eag_soft (v := ?_) (fun w' hw' => ?_) ?_); rotate_left 1; (focus (obtain ⟨hA, hB, hBw⟩ := hw'; obtain ⟨hcA, hfA⟩ := hA.facts; obtain ⟨hcB, hfB⟩ := hB.facts; go_simp; (try with_reducible rfl); done)))); simp only [Act.put, Act.eval, List.setIfInBounds_toArray, List.set_cons_zero, List.set_cons_succ, Array.getD_eq_getD_getElem?, List.getElem?_toArray, List.getElem?_cons_zero, List.getElem?_cons_succ, Option.getD_some])
      refine eag_hard ?_
      go_wp2_with fail
      refine (wtimes_any x.re y.re xr yr e0 g _ HG).mono ?_
      rintro e w2 ⟨z2, e2, rfl, ok2, zz2, qq2, HG2, hb2⟩
      replace bw : But g w w2 := bw.trans hb2
      replace HA := HA.but hb2 (by omega)
      replace HB := HB.but hb2 (by omega)
      replace HO := HO.but hb2 (by omega)
      replace HR := HR.but hb2 (by omega)
      replace HG := HG2
      clear HG2
      replace qq2 := Lib.hid qq2
      replace zz2 := Lib.hid zz2
      have lw2 : w.heap.size ≤ w2.heap.size := bw.size
      clear hb2
      go_wp2_with fail
      (try refine ⟨⟨HA, HB, bw⟩, ?_⟩)
      repeat ((first | with_reducible apply eag_move | with_reducible apply eag_assign | ((with_reducible refine eag_soft (v := ?_) (fun w' hw' => ?_) ?_); rotate_left 1; (focus (obtain ⟨hA, hB, hBw⟩ := hw'; obtain ⟨hcA, hfA⟩ := hA.facts; obtain ⟨hcB, hfB⟩ := hB.facts; go_simp; (try with_reducible rfl); done)))); simp only [Act.put, Act.eval, List.setIfInBounds_toArray, List.set_cons_zero, List.set_cons_succ, Array.getD_eq_getD_getElem?, List.getElem?_toArray, List.getElem?_cons_zero, List.getElem?_cons_succ, Option.getD_some])
      refine eag_hard ?_
      go_wp2_with fail
      refine (wtimes_any x.im y.im xi yi e2 g _ HG).mono ?_
      rintro e w3 ⟨z3, e3, rfl, ok3, zz3, qq3, HG3, hb3⟩
      replace bw : But g w w3 := bw.trans hb3
      replace HA := HA.but hb3 (by omega)
      replace HB := HB.but hb3 (by omega)
      replace HO := HO.but hb3 (by omega)
      replace HR := HR.but hb3 (by omega)
      replace HG := HG3
      clear HG3
      replace qq3 := Lib.hid qq3
      replace zz3 := Lib.hid zz3
      have lw3 : w.heap.size ≤ w3.heap.size := bw.size
      clear hb3
      go_wp2_with fail
      (try refine ⟨⟨HA, HB, bw⟩, ?_⟩)
      repeat ((first | with_reducible apply eag_move | with_reducible apply eag_assign | ((with_reducible refine eag_soft (v := ?_) (fun w' hw' => ?_) ?_); rotate_left 1; (focus (obtain ⟨hA, hB, hBw⟩ := hw'; obtain ⟨hcA, hfA⟩ := hA.facts; obtain ⟨hcB, hfB⟩ := hB.facts; go_simp; (try with_reducible rfl); done)))); simp only [Act.put, Act.eval, List.setIfInBounds_toArray, List.set_cons_zero, List.set_cons_succ, Array.getD_eq_getD_getElem?, List.getElem?_toArray, List.getElem?_cons_zero, List.getElem?_cons_succ, Option.getD_some])
      refine eag_hard ?_
      go_wp2_with fail
      refine (wless_any z2 z3 (En.Sp.fit_of_ok ok2) (En.Sp.fit_of_ok ok3) e3 g _ HG).mono ?_
      rintro e w4 ⟨z4, e4, rfl, ok4, zz4, qq4, HG4, hb4⟩
      replace bw : But g w w4 := bw.trans hb4
      replace HA := HA.but hb4 (by omega)
      replace HB := HB.but hb4 (by omega)
      replace HO := HO.but hb4 (by omega)
      replace HR := HR.but hb4 (by omega)
      replace HG := HG4
      clear HG4
      replace qq4 := Lib.hid qq4
      replace zz4 := Lib.hid zz4
      have lw4 : w.heap.size ≤ w4.heap.size := bw.size
      clear hb4
      go_wp2_with fail
      (try refine ⟨⟨HA, HB, bw⟩, ?_⟩)
      repeat ((first | with_reducible apply eag_move | with_reducible apply eag_assign | ((with_reducible refine eag_soft (v := ?_) (fun w' hw' => ?_) ?_); rotate_left 1; (focus (obtain ⟨hA, hB, hBw⟩ := hw'; obtain ⟨hcA, hfA⟩ := hA.facts; obtain ⟨hcB, hfB⟩ := hB.facts; go_simp; (try with_reducible rfl); done)))); simp only [Act.put, Act.eval, List.setIfInBounds_toArray, List.set_cons_zero, List.set_cons_succ, Array.getD_eq_getD_getElem?, List.getElem?_toArray, List.getElem?_cons_zero, List.getElem?_cons_succ, Option.getD_some])
      refine eag_hard ?_
      obtain ⟨hcR, hfR⟩ := HR.facts
      go_wp2_with fail
      have PG := HG
      have PA := HA
      have PB := HB
      have PO := HO
      have PR := HR
      have Pbw := bw
      replace HG : Hd ((w4.setCell ⟨w1.heap.size, 0, none⟩ (.int .i64 z4.lo)).setCell ⟨w1.heap.size, 1, none⟩ (.int .i64 z4.hi)) g 83 #[.int .i64 e4] := by (with_reducible repeat' (first | assumption | (apply hdN; (try simp only [sA, sS, sD]); done) | apply hdA | apply hdD | apply hdS | (apply hdF; case hp => first | (simp; done) | (simp; omega)) | with_unfolding_all rfl))
      replace HA : Hd ((w4.setCell ⟨w1.heap.size, 0, none⟩ (.int .i64 z4.lo)).setCell ⟨w1.heap.size, 1, none⟩ (.int .i64 z4.hi)) w.heap.size 25 #[.int .i64 x.re.lo, .int .i64 x.re.hi, .int .i64 x.im.lo, .int .i64 x.im.hi] := by (with_reducible repeat' (first | assumption | (apply hdN; (try simp only [sA, sS, sD]); done) | apply hdA | apply hdD | apply hdS | (apply hdF; case hp => first | (simp; done) | (simp; omega)) | with_unfolding_all rfl))
      replace HB : Hd ((w4.setCell ⟨w1.heap.size, 0, none⟩ (.int .i64 z4.lo)).setCell ⟨w1.heap.size, 1, none⟩ (.int .i64 z4.hi)) (w.heap.size + 1) 25 #[.int .i64 y.re.lo, .int .i64 y.re.hi, .int .i64 y.im.lo, .int .i64 y.im.hi] := by (with_reducible repeat' (first | assumption | (apply hdN; (try simp only [sA, sS, sD]); done) | apply hdA | apply hdD | apply hdS | (apply hdF; case hp => first | (simp; done) | (simp; omega)) | with_unfolding_all rfl))
      replace HO : Hd ((w4.setCell ⟨w1.heap.size, 0, none⟩ (.int .i64 z4.lo)).setCell ⟨w1.heap.size, 1, none⟩ (.int .i64 z4.hi)) (w.heap.size + 2) 25 #[.int .i64 0, .int .i64 0, .int .i64 0, .int .i64 0] := by (with_reducible repeat' (first | assumption | (apply hdN; (try simp only [sA, sS, sD]); done) | apply hdA | apply hdD | apply hdS | (apply hdF; case hp => first | (simp; done) | (simp; omega)) | with_unfolding_all rfl))
      replace HR : Hd ((w4.setCell ⟨w1.heap.size, 0, none⟩ (.int .i64 z4.lo)).setCell ⟨w1.heap.size, 1, none⟩ (.int .i64 z4.hi)) w1.heap.size 23 #[.int .i64 z4.lo, .int .i64 z4.hi] := by (with_reducible repeat' (first | assumption | (apply hdN; (try simp only [sA, sS, sD]); done) | apply hdA | apply hdD | apply hdS | (apply hdF; case hp => first | (simp; done) | (simp; omega)) | with_unfolding_all rfl))
      replace bw : But g w ((w4.setCell ⟨w1.heap.size, 0, none⟩ (.int .i64 z4.lo)).setCell ⟨w1.heap.size, 1, none⟩ (.int .i64 z4.hi)) := by (with_reducible repeat' (first | assumption | exact But.refl _ _ | apply But.drew | apply But.alloc | (refine But.set ?_ ?hp _; case hp => first | (simp; done) | (simp; omega))))
      (try refine ⟨⟨HA, HB, bw⟩, ?_⟩)
      repeat ((first | with_reducible apply eag_move | with_reducible apply eag_assign | ((with_reducible refine eag_soft (v := ?_) (fun w' hw' => ?_) ?_); rotate_left 1; (focus (obtain ⟨hA, hB, hBw⟩ := hw'; obtain ⟨hcA, hfA⟩ := hA.facts; obtain ⟨hcB, hfB⟩ := hB.facts; go_simp; (try with_reducible rfl); done)))); simp only [Act.put, Act.eval, List.setIfInBounds_toArray, List.set_cons_zero, List.set_cons_succ, Array.getD_eq_getD_getElem?, List.getElem?_toArray, List.getElem?_cons_zero, List.getElem?_cons_succ, Option.getD_some])
      refine eag_nil ?_
      go_wp2_with fail
      go_meet
      exact ⟨w1.heap.size, z2, z3, z4, e2, e3, e4, rfl, by omega, ok4, qq2, qq3, qq4, HG, HA, HB, HO, HR, bw⟩

theorem rtwo_mul (x y : En.Rc) (w : World) :
    Calls Try.prog 46 #[rcV x, rcV y] w fun e w' => e = .returned (rcE (twoR En.times x y)) ∧ Below w.heap.size w w' := by
  have CV := rboth_any x y
  cases hv : (x.ok && y.ok) with
  | false =>
    have ht : twoR En.times x y = (⟨⟨0, 0⟩, ⟨0, 0⟩⟩, 50) := by unfold twoR; rw [hv]; rfl
    rw [hv] at CV
    rw [ht]
    replace CV := Lib.hid CV
    clear hv ht
    go_enter Try.func46, Try.ntmps46
    go_wp2_with fail
    have HA : Hd (((w.alloc (.cells #[.int .i64 x.re.lo, .int .i64 x.re.hi, .int .i64 x.im.lo, .int .i64 x.im.hi] 25)).alloc (.cells #[.int .i64 y.re.lo, .int .i64 y.re.hi, .int .i64 y.im.lo, .int .i64 y.im.hi] 25)).alloc (.cells #[.int .i64 0, .int .i64 0, .int .i64 0, .int .i64 0] 25)) w.heap.size 25 #[.int .i64 x.re.lo, .int .i64 x.re.hi, .int .i64 x.im.lo, .int .i64 x.im.hi] := by (with_reducible repeat' (first | assumption | (apply hdN; (try simp only [sA, sS, sD]); done) | apply hdA | apply hdD | apply hdS | (apply hdF; case hp => first | (simp; done) | (simp; omega)) | with_unfolding_all rfl))
    have HB : Hd (((w.alloc (.cells #[.int .i64 x.re.lo, .int .i64 x.re.hi, .int .i64 x.im.lo, .int .i64 x.im.hi] 25)).alloc (.cells #[.int .i64 y.re.lo, .int .i64 y.re.hi, .int .i64 y.im.lo, .int .i64 y.im.hi] 25)).alloc (.cells #[.int .i64 0, .int .i64 0, .int .i64 0, .int .i64 0] 25)) (w.heap.size + 1) 25 #[.int .i64 y.re.lo, .int .i64 y.re.hi, .int .i64 y.im.lo, .int .i64 y.im.hi] := by (with_reducible repeat' (first | assumption | (apply hdN; (try simp only [sA, sS, sD]); done) | apply hdA | apply hdD | apply hdS | (apply hdF; case hp => first | (simp; done) | (simp; omega)) | with_unfolding_all rfl))
    have HO : Hd (((w.alloc (.cells #[.int .i64 x.re.lo, .int .i64 x.re.hi, .int .i64 x.im.lo, .int .i64 x.im.hi] 25)).alloc (.cells #[.int .i64 y.re.lo, .int .i64 y.re.hi, .int .i64 y.im.lo, .int .i64 y.im.hi] 25)).alloc (.cells #[.int .i64 0, .int .i64 0, .int .i64 0, .int .i64 0] 25)) (w.heap.size + 2) 25 #[.int .i64 0, .int .i64 0, .int .i64 0, .int .i64 0] := by (with_reducible repeat' (first | assumption | (apply hdN; (try simp only [sA, sS, sD]); done) | apply hdA | apply hdD | apply hdS | (apply hdF; case hp => first | (simp; done) | (simp; omega)) | with_unfolding_all rfl))
    have bw : Below w.heap.size w (((w.alloc (.cells #[.int .i64 x.re.lo, .int .i64 x.re.hi, .int .i64 x.im.lo, .int .i64 x.im.hi] 25)).alloc (.cells #[.int .i64 y.re.lo, .int .i64 y.re.hi, .int .i64 y.im.lo, .int .i64 y.im.hi] 25)).alloc (.cells #[.int .i64 0, .int .i64 0, .int .i64 0, .int .i64 0] 25)) := by go_grown
    refine (CV.out _).mono ?_
    rintro e w1 ⟨rfl, hb1⟩
    replace bw : Below w.heap.size w w1 := below_next bw hb1
    replace HA := HA.call hb1
    replace HB := HB.call hb1
    replace HO := HO.call hb1
    have lw1 : w.heap.size ≤ w1.heap.size := bw.size
    clear hb1
    obtain ⟨hcA, hfA⟩ := HA.facts
    obtain ⟨hcB, hfB⟩ := HB.facts
    obtain ⟨hcO, hfO⟩ := HO.facts
    go_wp2
    refine bodyPost_ret (run_results2 rfl rfl (by (show Hd _ (w.heap.size + 2) 25 #[.int .i64 0, .int .i64 0, .int .i64 0, .int .i64 0]); (with_reducible repeat' (first | assumption | (apply hdN; (try simp only [sA, sS, sD]); done) | apply hdA | apply hdD | apply hdS | (apply hdF; case hp => first | (simp; done) | (simp; omega)) | with_unfolding_all rfl))) Try.underlying25 rfl (by kernel_rfl)) rfl ⟨rfl, by go_grown⟩
  | true =>
    have ht : twoR En.times x y = outR (En.times x y) := by unfold twoR; rw [hv]; rfl
    rw [hv] at CV
    rw [ht]
    replace CV := Lib.hid CV
    have hop' := Lib.hid (rmul_any x y (by cases h : x.ok <;> simp_all) (by cases h : y.ok <;> simp_all))
    clear hv ht
    go_enter Try.func46, Try.ntmps46
    go_wp2_with fail
    have HA : Hd (((w.alloc (.cells #[.int .i64 x.re.lo, .int .i64 x.re.hi, .int .i64 x.im.lo, .int .i64 x.im.hi] 25)).alloc (.cells #[.int .i64 y.re.lo, .int .i64 y.re.hi, .int .i64 y.im.lo, .int .i64 y.im.hi] 25)).alloc (.cells #[.int .i64 0, .int .i64 0, .int .i64 0, .int .i64 0] 25)) w.heap.size 25 #[.int .i64 x.re.lo, .int .i64 x.re.hi, .int .i64 x.im.lo, .int .i64 x.im.hi] := by (with_reducible repeat' (first | assumption | (apply hdN; (try simp only [sA, sS, sD]); done) | apply hdA | apply hdD | apply hdS | (apply hdF; case hp => first | (simp; done) | (simp; omega)) | with_unfolding_all rfl))
    have HB : Hd (((w.alloc (.cells #[.int .i64 x.re.lo, .int .i64 x.re.hi, .int .i64 x.im.lo, .int .i64 x.im.hi] 25)).alloc (.cells #[.int .i64 y.re.lo, .int .i64 y.re.hi, .int .i64 y.im.lo, .int .i64 y.im.hi] 25)).alloc (.cells #[.int .i64 0, .int .i64 0, .int .i64 0, .int .i64 0] 25)) (w.heap.size + 1) 25 #[.int .i64 y.re.lo, .int .i64 y.re.hi, .int .i64 y.im.lo, .int .i64 y.im.hi] := by (with_reducible repeat' (first | assumption | (apply hdN; (try simp only [sA, sS, sD]); done) | apply hdA | apply hdD | apply hdS | (apply hdF; case hp => first | (simp; done) | (simp; omega)) | with_unfolding_all rfl))
    have HO : Hd (((w.alloc (.cells #[.int .i64 x.re.lo, .int .i64 x.re.hi, .int .i64 x.im.lo, .int .i64 x.im.hi] 25)).alloc (.cells #[.int .i64 y.re.lo, .int .i64 y.re.hi, .int .i64 y.im.lo, .int .i64 y.im.hi] 25)).alloc (.cells #[.int .i64 0, .int .i64 0, .int .i64 0, .int .i64 0] 25)) (w.heap.size + 2) 25 #[.int .i64 0, .int .i64 0, .int .i64 0, .int .i64 0] := by (with_reducible repeat' (first | assumption | (apply hdN; (try simp only [sA, sS, sD]); done) | apply hdA | apply hdD | apply hdS | (apply hdF; case hp => first | (simp; done) | (simp; omega)) | with_unfolding_all rfl))
    have bw : Below w.heap.size w (((w.alloc (.cells #[.int .i64 x.re.lo, .int .i64 x.re.hi, .int .i64 x.im.lo, .int .i64 x.im.hi] 25)).alloc (.cells #[.int .i64 y.re.lo, .int .i64 y.re.hi, .int .i64 y.im.lo, .int .i64 y.im.hi] 25)).alloc (.cells #[.int .i64 0, .int .i64 0, .int .i64 0, .int .i64 0] 25)) := by go_grown
    refine (CV.out _).mono ?_
    rintro e w1 ⟨rfl, hb1⟩
    replace bw : Below w.heap.size w w1 := below_next bw hb1
    replace HA := HA.call hb1
    replace HB := HB.call hb1
    replace HO := HO.call hb1
    have lw1 : w.heap.size ≤ w1.heap.size := bw.size
    clear hb1
    obtain ⟨hcA, hfA⟩ := HA.facts
    obtain ⟨hcB, hfB⟩ := HB.facts
    obtain ⟨hcO, hfO⟩ := HO.facts
    have ltA := HA.lt
    have ltB := HB.lt
    have ltO := HO.lt
    go_wp2_with fail
    replace HA : Hd (w1.alloc (.cells #[.int .i64 0] 83)) w.heap.size 25 #[.int .i64 x.re.lo, .int .i64 x.re.hi, .int .i64 x.im.lo, .int .i64 x.im.hi] := by (with_reducible repeat' (first | assumption | (apply hdN; (try simp only [sA, sS, sD]); done) | apply hdA | apply hdD | apply hdS | (apply hdF; case hp => first | (simp; done) | (simp; omega)) | with_unfolding_all rfl))
    replace HB : Hd (w1.alloc (.cells #[.int .i64 0] 83)) (w.heap.size + 1) 25 #[.int .i64 y.re.lo, .int .i64 y.re.hi, .int .i64 y.im.lo, .int .i64 y.im.hi] := by (with_reducible repeat' (first | assumption | (apply hdN; (try simp only [sA, sS, sD]); done) | apply hdA | apply hdD | apply hdS | (apply hdF; case hp => first | (simp; done) | (simp; omega)) | with_unfolding_all rfl))
    replace HO : Hd (w1.alloc (.cells #[.int .i64 0] 83)) (w.heap.size + 2) 25 #[.int .i64 0, .int .i64 0, .int .i64 0, .int .i64 0] := by (with_reducible repeat' (first | assumption | (apply hdN; (try simp only [sA, sS, sD]); done) | apply hdA | apply hdD | apply hdS | (apply hdF; case hp => first | (simp; done) | (simp; omega)) | with_unfolding_all rfl))
    replace bw : Below w.heap.size w (w1.alloc (.cells #[.int .i64 0] 83)) := by go_grown
    have HG : Hd (w1.alloc (.cells #[.int .i64 0] 83)) w1.heap.size 83 #[.int .i64 0] := by (with_reducible repeat' (first | assumption | (apply hdN; (try simp only [sA, sS, sD]); done) | apply hdA | apply hdD | apply hdS | (apply hdF; case hp => first | (simp; done) | (simp; omega)) | with_unfolding_all rfl))
    refine (hop'.out 0 _ _ HG).mono ?_
    rintro e w2 ⟨z, e1, rfl, okz, qq, HG2, hb2⟩
    replace qq := Lib.hid qq
    replace bw : Below w.heap.size w w2 := But.far bw hb2 (by omega) (by simp only [World.size_alloc]; omega)
    replace HA := HA.but hb2 (by omega)
    replace HB := HB.but hb2 (by omega)
    replace HO := HO.but hb2 (by omega)
    have ltG := HG2.lt
    have lw2 : w.heap.size ≤ w2.heap.size := bw.size
    clear hb2 HG
    have HG := HG2
    clear HG2
    obtain ⟨hcA, hfA⟩ := HA.facts
    obtain ⟨hcB, hfB⟩ := HB.facts
    obtain ⟨hcO, hfO⟩ := HO.facts
    obtain ⟨hcG, hfG⟩ := HG.facts
    have ltA2 := HA.lt
    have ltB2 := HB.lt
    have ltO2 := HO.lt
    go_wp2_with fail
    replace HA : Hd (w2.alloc (.cells #[.int .i64 z.re.lo, .int .i64 z.re.hi, .int .i64 z.im.lo, .int .i64 z.im.hi] 25)) w.heap.size 25 #[.int .i64 x.re.lo, .int .i64 x.re.hi, .int .i64 x.im.lo, .int .i64 x.im.hi] := by (with_reducible repeat' (first | assumption | (apply hdN; (try simp only [sA, sS, sD]); done) | apply hdA | apply hdD | apply hdS | (apply hdF; case hp => first | (simp; done) | (simp; omega)) | with_unfolding_all rfl))
    replace HB : Hd (w2.alloc (.cells #[.int .i64 z.re.lo, .int .i64 z.re.hi, .int .i64 z.im.lo, .int .i64 z.im.hi] 25)) (w.heap.size + 1) 25 #[.int .i64 y.re.lo, .int .i64 y.re.hi, .int .i64 y.im.lo, .int .i64 y.im.hi] := by (with_reducible repeat' (first | assumption | (apply hdN; (try simp only [sA, sS, sD]); done) | apply hdA | apply hdD | apply hdS | (apply hdF; case hp => first | (simp; done) | (simp; omega)) | with_unfolding_all rfl))
    replace HO : Hd (w2.alloc (.cells #[.int .i64 z.re.lo, .int .i64 z.re.hi, .int .i64 z.im.lo, .int .i64 z.im.hi] 25)) (w.heap.size + 2) 25 #[.int .i64 0, .int .i64 0, .int .i64 0, .int .i64 0] := by (with_reducible repeat' (first | assumption | (apply hdN; (try simp only [sA, sS, sD]); done) | apply hdA | apply hdD | apply hdS | (apply hdF; case hp => first | (simp; done) | (simp; omega)) | with_unfolding_all rfl))
    replace HG : Hd (w2.alloc (.cells #[.int .i64 z.re.lo, .int .i64 z.re.hi, .int .i64 z.im.lo, .int .i64 z.im.hi] 25)) w1.heap.size 83 #[.int .i64 e1] := by (with_reducible repeat' (first | assumption | (apply hdN; (try simp only [sA, sS, sD]); done) | apply hdA | apply hdD | apply hdS | (apply hdF; case hp => first | (simp; done) | (simp; omega)) | with_unfolding_all rfl))
    replace bw : Below w.heap.size w (w2.alloc (.cells #[.int .i64 z.re.lo, .int .i64 z.re.hi, .int .i64 z.im.lo, .int .i64 z.im.hi] 25)) := by go_grown
    have HZ : Hd (w2.alloc (.cells #[.int .i64 z.re.lo, .int .i64 z.re.hi, .int .i64 z.im.lo, .int .i64 z.im.hi] 25)) w2.heap.size 25 #[.int .i64 z.re.lo, .int .i64 z.re.hi, .int .i64 z.im.lo, .int .i64 z.im.hi] := by (with_reducible repeat' (first | assumption | (apply hdN; (try simp only [sA, sS, sD]); done) | apply hdA | apply hdD | apply hdS | (apply hdF; case hp => first | (simp; done) | (simp; omega)) | with_unfolding_all rfl))
    refine (rdone_any z e1 _ _ HG).mono ?_
    rintro e w3 ⟨rfl, hb3⟩
    replace bw : Below w.heap.size w w3 := below_next bw hb3
    replace HA := HA.call hb3
    replace HB := HB.call hb3
    replace HO := HO.call hb3
    replace HG := HG.call hb3
    replace HZ := HZ.call hb3
    have lw3 : w.heap.size ≤ w3.heap.size := bw.size
    clear hb3
    obtain ⟨hcO, hfO⟩ := HO.facts
    rcases qq.out.zero with ⟨hr, rfl⟩ | ⟨hr, hne⟩
    · rw [if_pos rfl]
      go_wp2
      refine bodyPost_ret (run_results2 rfl rfl (by (show Hd _ (w.heap.size + 2) 25 #[.int .i64 z.re.lo, .int .i64 z.re.hi, .int .i64 z.im.lo, .int .i64 z.im.hi]); (with_reducible repeat' (first | assumption | (apply hdN; (try simp only [sA, sS, sD]); done) | apply hdA | apply hdD | apply hdS | (apply hdF; case hp => first | (simp; done) | (simp; omega)) | with_unfolding_all rfl))) Try.underlying25 rfl (by kernel_rfl)) rfl ⟨by rw [hr]; rfl, by go_grown⟩
    · rw [if_neg hne]
      go_wp2
      refine bodyPost_ret (run_results2 rfl rfl (by (show Hd _ (w.heap.size + 2) 25 #[.int .i64 0, .int .i64 0, .int .i64 0, .int .i64 0]); (with_reducible repeat' (first | assumption | (apply hdN; (try simp only [sA, sS, sD]); done) | apply hdA | apply hdD | apply hdS | (apply hdF; case hp => first | (simp; done) | (simp; omega)) | with_unfolding_all rfl))) Try.underlying25 rfl (by kernel_rfl)) rfl ⟨by rw [hr]; rfl, by go_grown⟩
end Go.Proofs.Ytpbbbfglecbceaa
