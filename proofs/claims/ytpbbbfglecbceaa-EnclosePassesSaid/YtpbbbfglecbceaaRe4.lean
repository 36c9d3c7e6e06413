/- The document's operations on spans. -/
import Derived.Test.YtpbbbfglecbceaaRe2
namespace Go.Proofs.Ytpbbbfglecbceaa
set_option linter.all false
open Go.RowKit

theorem if_min (a b : Int) : (if b < a then b else a) = min a b := by split <;> omega
theorem if_max (a b : Int) : (if b > a then b else a) = max a b := by split <;> omega
theorem min4 (a b c d : Int) : min (min (min a b) c) d = min a (min b (min c d)) := by omega
theorem max4 (a b c d : Int) : max (max (max a b) c) d = max a (max b (max c d)) := by omega
@[go_sem] theorem run_min_int4 {P : Program} (w : World) (ts : Array TypeId) (t : TypeId) (k k1 k2 k3 : IntKind) (x y z u : Int) :
    (Builtin.min_ ts t #[.int k x, .int k1 y, .int k2 z, .int k3 u]).run P w = .ok (.int k (min (min (min x y) z) u)) w := by
  rw [← if_min, ← if_min, ← if_min]
  simp [Builtin.min_, Builtin.min2]
@[go_sem] theorem run_max_int4 {P : Program} (w : World) (ts : Array TypeId) (t : TypeId) (k k1 k2 k3 : IntKind) (x y z u : Int) :
    (Builtin.max_ ts t #[.int k x, .int k1 y, .int k2 z, .int k3 u]).run P w = .ok (.int k (max (max (max x y) z) u)) w := by
  rw [← if_max, ← if_max, ← if_max]
  simp [Builtin.max_, Builtin.max2]

theorem wsum_any (x y : En.Sp) (hx : x.fit) (hy : y.fit) (e0 : Int) (g : Nat) (w : World) (HG : Hd w g 83 #[.int .i64 e0]) :
    Calls Try.prog 94 #[ptr g, spV x, spV y] w (PostW (En.add x y) g e0 w) := by
  have hlt := HG.lt
  have bw := But.refl g w
  obtain ⟨x1, x2, x3, x4⟩ := hx
  obtain ⟨y1, y2, y3, y4⟩ := hy
  obtain ⟨hcG, hfG⟩ := HG.facts
  go_enter Try.func94, Try.ntmps94
  go_wp2_with fail
  replace HG : Hd (((w.alloc (.cells #[.int .i64 x.lo, .int .i64 x.hi] 23)).alloc (.cells #[.int .i64 y.lo, .int .i64 y.hi] 23)).alloc (.cells #[.int .i64 0, .int .i64 0] 23)) g 83 #[.int .i64 e0] := by (with_reducible repeat' (first | assumption | (apply hdN; (try simp only [sA, sS, sD]); done) | apply hdA | apply hdD | apply hdS | (apply hdF; case hp => first | (simp; done) | (simp; omega)) | with_unfolding_all rfl))
  have HA : Hd (((w.alloc (.cells #[.int .i64 x.lo, .int .i64 x.hi] 23)).alloc (.cells #[.int .i64 y.lo, .int .i64 y.hi] 23)).alloc (.cells #[.int .i64 0, .int .i64 0] 23)) w.heap.size 23 #[.int .i64 x.lo, .int .i64 x.hi] := by (with_reducible repeat' (first | assumption | (apply hdN; (try simp only [sA, sS, sD]); done) | apply hdA | apply hdD | apply hdS | (apply hdF; case hp => first | (simp; done) | (simp; omega)) | with_unfolding_all rfl))
  have HB : Hd (((w.alloc (.cells #[.int .i64 x.lo, .int .i64 x.hi] 23)).alloc (.cells #[.int .i64 y.lo, .int .i64 y.hi] 23)).alloc (.cells #[.int .i64 0, .int .i64 0] 23)) (w.heap.size + 1) 23 #[.int .i64 y.lo, .int .i64 y.hi] := by (with_reducible repeat' (first | assumption | (apply hdN; (try simp only [sA, sS, sD]); done) | apply hdA | apply hdD | apply hdS | (apply hdF; case hp => first | (simp; done) | (simp; omega)) | with_unfolding_all rfl))
  have HO : Hd (((w.alloc (.cells #[.int .i64 x.lo, .int .i64 x.hi] 23)).alloc (.cells #[.int .i64 y.lo, .int .i64 y.hi] 23)).alloc (.cells #[.int .i64 0, .int .i64 0] 23)) (w.heap.size + 2) 23 #[.int .i64 0, .int .i64 0] := by (with_reducible repeat' (first | assumption | (apply hdN; (try simp only [sA, sS, sD]); done) | apply hdA | apply hdD | apply hdS | (apply hdF; case hp => first | (simp; done) | (simp; omega)) | with_unfolding_all rfl))
  replace bw : But g w (((w.alloc (.cells #[.int .i64 x.lo, .int .i64 x.hi] 23)).alloc (.cells #[.int .i64 y.lo, .int .i64 y.hi] 23)).alloc (.cells #[.int .i64 0, .int .i64 0] 23)) := by (with_reducible repeat' (first | assumption | exact But.refl _ _ | apply But.drew | apply But.alloc | (refine But.set ?_ ?hp _; case hp => first | (simp; done) | (simp; omega))))
  refine (wspan_any _ _ e0 g _ HG).mono ?_
  rintro e w1 ⟨z1, e1, rfl, ok1, zz1, qq1, HG1, hb1⟩
  replace bw : But g w w1 := bw.trans hb1
  replace HA := HA.but hb1 (by omega)
  replace HB := HB.but hb1 (by omega)
  replace HO := HO.but hb1 (by omega)
  replace HG := HG1
  clear HG1
  replace qq1 := Lib.hid qq1
  replace zz1 := Lib.hid zz1
  have lw1 : w.heap.size ≤ w1.heap.size := bw.size
  clear hb1
  obtain ⟨hcO, hfO⟩ := HO.facts
  go_wp2
  refine bodyPost_ret (run_results1 rfl rfl (by (show Hd _ ((w.heap.size + 2)) 23 #[.int .i64 z1.lo, .int .i64 z1.hi]); (with_reducible repeat' (first | assumption | (apply hdN; (try simp only [sA, sS, sD]); done) | apply hdA | apply hdD | apply hdS | (apply hdF; case hp => first | (simp; done) | (simp; omega)) | with_unfolding_all rfl))) Try.underlying23 rfl (by kernel_rfl)) rfl ⟨z1, e1, rfl, ok1, zz1.out, qq1.out, by (with_reducible repeat' (first | assumption | (apply hdN; (try simp only [sA, sS, sD]); done) | apply hdA | apply hdD | apply hdS | (apply hdF; case hp => first | (simp; done) | (simp; omega)) | with_unfolding_all rfl)), by (with_reducible repeat' (first | assumption | exact But.refl _ _ | apply But.drew | apply But.alloc | (refine But.set ?_ ?hp _; case hp => first | (simp; done) | (simp; omega))))⟩

theorem wless_any (x y : En.Sp) (hx : x.fit) (hy : y.fit) (e0 : Int) (g : Nat) (w : World) (HG : Hd w g 83 #[.int .i64 e0]) :
    Calls Try.prog 111 #[ptr g, spV x, spV y] w (PostW (En.sub x y) g e0 w) := by
  have hlt := HG.lt
  have bw := But.refl g w
  obtain ⟨x1, x2, x3, x4⟩ := hx
  obtain ⟨y1, y2, y3, y4⟩ := hy
  obtain ⟨hcG, hfG⟩ := HG.facts
  go_enter Try.func111, Try.ntmps111
  go_wp2_with fail
  replace HG : Hd (((w.alloc (.cells #[.int .i64 x.lo, .int .i64 x.hi] 23)).alloc (.cells #[.int .i64 y.lo, .int .i64 y.hi] 23)).alloc (.cells #[.int .i64 0, .int .i64 0] 23)) g 83 #[.int .i64 e0] := by (with_reducible repeat' (first | assumption | (apply hdN; (try simp only [sA, sS, sD]); done) | apply hdA | apply hdD | apply hdS | (apply hdF; case hp => first | (simp; done) | (simp; omega)) | with_unfolding_all rfl))
  have HA : Hd (((w.alloc (.cells #[.int .i64 x.lo, .int .i64 x.hi] 23)).alloc (.cells #[.int .i64 y.lo, .int .i64 y.hi] 23)).alloc (.cells #[.int .i64 0, .int .i64 0] 23)) w.heap.size 23 #[.int .i64 x.lo, .int .i64 x.hi] := by (with_reducible repeat' (first | assumption | (apply hdN; (try simp only [sA, sS, sD]); done) | apply hdA | apply hdD | apply hdS | (apply hdF; case hp => first | (simp; done) | (simp; omega)) | with_unfolding_all rfl))
  have HB : Hd (((w.alloc (.cells #[.int .i64 x.lo, .int .i64 x.hi] 23)).alloc (.cells #[.int .i64 y.lo, .int .i64 y.hi] 23)).alloc (.cells #[.int .i64 0, .int .i64 0] 23)) (w.heap.size + 1) 23 #[.int .i64 y.lo, .int .i64 y.hi] := by (with_reducible repeat' (first | assumption | (apply hdN; (try simp only [sA, sS, sD]); done) | apply hdA | apply hdD | apply hdS | (apply hdF; case hp => first | (simp; done) | (simp; omega)) | with_unfolding_all rfl))
  have HO : Hd (((w.alloc (.cells #[.int .i64 x.lo, .int .i64 x.hi] 23)).alloc (.cells #[.int .i64 y.lo, .int .i64 y.hi] 23)).alloc (.cells #[.int .i64 0, .int .i64 0] 23)) (w.heap.size + 2) 23 #[.int .i64 0, .int .i64 0] := by (with_reducible repeat' (first | assumption | (apply hdN; (try simp only [sA, sS, sD]); done) | apply hdA | apply hdD | apply hdS | (apply hdF; case hp => first | (simp; done) | (simp; omega)) | with_unfolding_all rfl))
  replace bw : But g w (((w.alloc (.cells #[.int .i64 x.lo, .int .i64 x.hi] 23)).alloc (.cells #[.int .i64 y.lo, .int .i64 y.hi] 23)).alloc (.cells #[.int .i64 0, .int .i64 0] 23)) := by (with_reducible repeat' (first | assumption | exact But.refl _ _ | apply But.drew | apply But.alloc | (refine But.set ?_ ?hp _; case hp => first | (simp; done) | (simp; omega))))
  refine (wspan_any _ _ e0 g _ HG).mono ?_
  rintro e w1 ⟨z1, e1, rfl, ok1, zz1, qq1, HG1, hb1⟩
  replace bw : But g w w1 := bw.trans hb1
  replace HA := HA.but hb1 (by omega)
  replace HB := HB.but hb1 (by omega)
  replace HO := HO.but hb1 (by omega)
  replace HG := HG1
  clear HG1
  replace qq1 := Lib.hid qq1
  replace zz1 := Lib.hid zz1
  have lw1 : w.heap.size ≤ w1.heap.size := bw.size
  clear hb1
  obtain ⟨hcO, hfO⟩ := HO.facts
  go_wp2
  refine bodyPost_ret (run_results1 rfl rfl (by (show Hd _ ((w.heap.size + 2)) 23 #[.int .i64 z1.lo, .int .i64 z1.hi]); (with_reducible repeat' (first | assumption | (apply hdN; (try simp only [sA, sS, sD]); done) | apply hdA | apply hdD | apply hdS | (apply hdF; case hp => first | (simp; done) | (simp; omega)) | with_unfolding_all rfl))) Try.underlying23 rfl (by kernel_rfl)) rfl ⟨z1, e1, rfl, ok1, zz1.out, qq1.out, by (with_reducible repeat' (first | assumption | (apply hdN; (try simp only [sA, sS, sD]); done) | apply hdA | apply hdD | apply hdS | (apply hdF; case hp => first | (simp; done) | (simp; omega)) | with_unfolding_all rfl)), by (with_reducible repeat' (first | assumption | exact But.refl _ _ | apply But.drew | apply But.alloc | (refine But.set ?_ ?hp _; case hp => first | (simp; done) | (simp; omega))))⟩

theorem whalf_any (x : En.Sp) (hx : x.fit) (e0 : Int) (g : Nat) (w : World) (HG : Hd w g 83 #[.int .i64 e0]) :
    Calls Try.prog 113 #[ptr g, spV x] w (PostW (En.half x) g e0 w) := by
  have hlt := HG.lt
  have bw := But.refl g w
  obtain ⟨x1, x2, x3, x4⟩ := hx
  obtain ⟨hcG, hfG⟩ := HG.facts
  go_enter Try.func113, Try.ntmps113
  go_wp2_with fail
  replace HG : Hd (((w.alloc (.cells #[.int .i64 x.lo, .int .i64 x.hi] 23)).alloc (.cells #[.int .i64 0, .int .i64 0] 23)).drew) g 83 #[.int .i64 e0] := by (with_reducible repeat' (first | assumption | (apply hdN; (try simp only [sA, sS, sD]); done) | apply hdA | apply hdD | apply hdS | (apply hdF; case hp => first | (simp; done) | (simp; omega)) | with_unfolding_all rfl))
  have HA : Hd (((w.alloc (.cells #[.int .i64 x.lo, .int .i64 x.hi] 23)).alloc (.cells #[.int .i64 0, .int .i64 0] 23)).drew) w.heap.size 23 #[.int .i64 x.lo, .int .i64 x.hi] := by (with_reducible repeat' (first | assumption | (apply hdN; (try simp only [sA, sS, sD]); done) | apply hdA | apply hdD | apply hdS | (apply hdF; case hp => first | (simp; done) | (simp; omega)) | with_unfolding_all rfl))
  have HO : Hd (((w.alloc (.cells #[.int .i64 x.lo, .int .i64 x.hi] 23)).alloc (.cells #[.int .i64 0, .int .i64 0] 23)).drew) (w.heap.size + 1) 23 #[.int .i64 0, .int .i64 0] := by (with_reducible repeat' (first | assumption | (apply hdN; (try simp only [sA, sS, sD]); done) | apply hdA | apply hdD | apply hdS | (apply hdF; case hp => first | (simp; done) | (simp; omega)) | with_unfolding_all rfl))
  replace bw : But g w (((w.alloc (.cells #[.int .i64 x.lo, .int .i64 x.hi] 23)).alloc (.cells #[.int .i64 0, .int .i64 0] 23)).drew) := by (with_reducible repeat' (first | assumption | exact But.refl _ _ | apply But.drew | apply But.alloc | (refine But.set ?_ ?hp _; case hp => first | (simp; done) | (simp; omega))))
  (refine wp_region_eag (fun w' => Hd w' w.heap.size 23 #[.int .i64 x.lo, .int .i64 x.hi] ∧ But g w w') [(0, true), (1, true), (2, true), (4, true), (5, true), (6, true), (3, false), (7, false), (8, true), (9, false), (10, false)] (by kernel_rfl) (by kernel_rfl) (fun c d v a w h => by cases d <;> exact h) ⟨HA, bw⟩ ?_; simp only [List.map_cons, List.map_nil, List.getD_cons_zero, List.getD_cons_succ, flMark, Nat.reduceEqDiff, ↓reduceIte])
  repeat ((first | with_reducible apply eag_move | with_reducible apply eag_assign | ((with_reducible refine eag_soft (v := ?_) (fun w' hw' => ?_) ?_); rotate_left 1; (focus (obtain ⟨hA, hBw⟩ := hw'; obtain ⟨hcA, hfA⟩ := hA.facts; go_simp; (try with_reducible rfl); done)))); simp only [Act.put, Act.eval, List.setIfInBounds_toArray, List.set_cons_zero, List.set_cons_succ, Array.getD_eq_getD_getElem?, List.getElem?_toArray, List.getElem?_cons_zero, List.getElem?_cons_succ, Option.getD_some])
  refine eag_hard ?_
  go_wp2_with fail
  refine (below_any x.lo 2 (by omega) (by omega) (by omega) (by omega) _).mono ?_
  rintro e w'' ⟨rfl, rfl⟩
  go_wp2_with fail
  (try refine ⟨⟨HA, bw⟩, ?_⟩)
  repeat ((first | with_reducible apply eag_move | with_reducible apply eag_assign | ((with_reducible refine eag_soft (v := ?_) (fun w' hw' => ?_) ?_); rotate_left 1; (focus (obtain ⟨hA, hBw⟩ := hw'; obtain ⟨hcA, hfA⟩ := hA.facts; go_simp; (try with_reducible rfl); done)))); simp only [Act.put, Act.eval, List.setIfInBounds_toArray, List.set_cons_zero, List.set_cons_succ, Array.getD_eq_getD_getElem?, List.getElem?_toArray, List.getElem?_cons_zero, List.getElem?_cons_succ, Option.getD_some])
  refine eag_hard ?_
  go_wp2_with fail
  refine (below_any (-x.hi) 2 (by omega) (by omega) (by omega) (by omega) _).mono ?_
  rintro e w'' ⟨rfl, rfl⟩
  go_wp2_with fail
  (try refine ⟨⟨HA, bw⟩, ?_⟩)
  repeat ((first | with_reducible apply eag_move | with_reducible apply eag_assign | ((with_reducible refine eag_soft (v := ?_) (fun w' hw' => ?_) ?_); rotate_left 1; (focus (obtain ⟨hA, hBw⟩ := hw'; obtain ⟨hcA, hfA⟩ := hA.facts; go_simp; (try with_reducible rfl); done)))); simp only [Act.put, Act.eval, List.setIfInBounds_toArray, List.set_cons_zero, List.set_cons_succ, Array.getD_eq_getD_getElem?, List.getElem?_toArray, List.getElem?_cons_zero, List.getElem?_cons_succ, Option.getD_some])
  refine eag_hard ?_
  go_wp2_with fail
  refine (wspan_any _ _ e0 g _ HG).mono ?_
  rintro e w1 ⟨z1, e1, rfl, ok1, zz1, qq1, HG1, hb1⟩
  replace bw : But g w w1 := bw.trans hb1
  replace HA := HA.but hb1 (by omega)
  replace HO := HO.but hb1 (by omega)
  replace HG := HG1
  clear HG1
  replace qq1 := Lib.hid qq1
  replace zz1 := Lib.hid zz1
  have lw1 : w.heap.size ≤ w1.heap.size := bw.size
  clear hb1
  go_wp2_with fail
  (try refine ⟨⟨HA, bw⟩, ?_⟩)
  repeat ((first | with_reducible apply eag_move | with_reducible apply eag_assign | ((with_reducible refine eag_soft (v := ?_) (fun w' hw' => ?_) ?_); rotate_left 1; (focus (obtain ⟨hA, hBw⟩ := hw'; obtain ⟨hcA, hfA⟩ := hA.facts; go_simp; (try with_reducible rfl); done)))); simp only [Act.put, Act.eval, List.setIfInBounds_toArray, List.set_cons_zero, List.set_cons_succ, Array.getD_eq_getD_getElem?, List.getElem?_toArray, List.getElem?_cons_zero, List.getElem?_cons_succ, Option.getD_some])
  obtain ⟨hcO, hfO⟩ := HO.facts
  refine eag_hard ?_
  go_wp2_with fail
  replace HG : Hd ((w1.setCell ⟨(w.heap.size + 1), 0, none⟩ (.int .i64 z1.lo)).setCell ⟨(w.heap.size + 1), 1, none⟩ (.int .i64 z1.hi)) g 83 #[.int .i64 e1] := by (with_reducible repeat' (first | assumption | (apply hdN; (try simp only [sA, sS, sD]); done) | apply hdA | apply hdD | apply hdS | (apply hdF; case hp => first | (simp; done) | (simp; omega)) | with_unfolding_all rfl))
  replace HA : Hd ((w1.setCell ⟨(w.heap.size + 1), 0, none⟩ (.int .i64 z1.lo)).setCell ⟨(w.heap.size + 1), 1, none⟩ (.int .i64 z1.hi)) w.heap.size 23 #[.int .i64 x.lo, .int .i64 x.hi] := by (with_reducible repeat' (first | assumption | (apply hdN; (try simp only [sA, sS, sD]); done) | apply hdA | apply hdD | apply hdS | (apply hdF; case hp => first | (simp; done) | (simp; omega)) | with_unfolding_all rfl))
  replace HO : Hd ((w1.setCell ⟨(w.heap.size + 1), 0, none⟩ (.int .i64 z1.lo)).setCell ⟨(w.heap.size + 1), 1, none⟩ (.int .i64 z1.hi)) (w.heap.size + 1) 23 #[.int .i64 z1.lo, .int .i64 z1.hi] := by (with_reducible repeat' (first | assumption | (apply hdN; (try simp only [sA, sS, sD]); done) | apply hdA | apply hdD | apply hdS | (apply hdF; case hp => first | (simp; done) | (simp; omega)) | with_unfolding_all rfl))
  replace bw : But g w ((w1.setCell ⟨(w.heap.size + 1), 0, none⟩ (.int .i64 z1.lo)).setCell ⟨(w.heap.size + 1), 1, none⟩ (.int .i64 z1.hi)) := by (with_reducible repeat' (first | assumption | exact But.refl _ _ | apply But.drew | apply But.alloc | (refine But.set ?_ ?hp _; case hp => first | (simp; done) | (simp; omega))))
  (try refine ⟨⟨HA, bw⟩, ?_⟩)
  refine eag_nil ?_
  go_wp2
  refine bodyPost_ret (run_results1 rfl rfl (by (show Hd _ ((w.heap.size + 1)) 23 #[.int .i64 z1.lo, .int .i64 z1.hi]); (with_reducible repeat' (first | assumption | (apply hdN; (try simp only [sA, sS, sD]); done) | apply hdA | apply hdD | apply hdS | (apply hdF; case hp => first | (simp; done) | (simp; omega)) | with_unfolding_all rfl))) Try.underlying23 rfl (by kernel_rfl)) rfl ⟨z1, e1, rfl, ok1, zz1.out, qq1.out, by (with_reducible repeat' (first | assumption | (apply hdN; (try simp only [sA, sS, sD]); done) | apply hdA | apply hdD | apply hdS | (apply hdF; case hp => first | (simp; done) | (simp; omega)) | with_unfolding_all rfl)), by (with_reducible repeat' (first | assumption | exact But.refl _ _ | apply But.drew | apply But.alloc | (refine But.set ?_ ?hp _; case hp => first | (simp; done) | (simp; omega))))⟩

theorem wtimes_any (x y : En.Sp) (hx : x.fit) (hy : y.fit) (e0 : Int) (g : Nat) (w : World) (HG : Hd w g 83 #[.int .i64 e0]) :
    Calls Try.prog 112 #[ptr g, spV x, spV y] w (PostW (En.mul x y) g e0 w) := by
  have hlt := HG.lt
  have bw := But.refl g w
  obtain ⟨x1, x2, x3, x4⟩ := hx
  obtain ⟨y1, y2, y3, y4⟩ := hy
  obtain ⟨hcG, hfG⟩ := HG.facts
  go_enter Try.func112, Try.ntmps112
  go_wp2_with fail
  replace HG : Hd ((((w.alloc (.cells #[.int .i64 x.lo, .int .i64 x.hi] 23)).alloc (.cells #[.int .i64 y.lo, .int .i64 y.hi] 23)).alloc (.cells #[.int .i64 0, .int .i64 0] 23)).drew) g 83 #[.int .i64 e0] := by (with_reducible repeat' (first | assumption | (apply hdN; (try simp only [sA, sS, sD]); done) | apply hdA | apply hdD | apply hdS | (apply hdF; case hp => first | (simp; done) | (simp; omega)) | with_unfolding_all rfl))
  have HA : Hd ((((w.alloc (.cells #[.int .i64 x.lo, .int .i64 x.hi] 23)).alloc (.cells #[.int .i64 y.lo, .int .i64 y.hi] 23)).alloc (.cells #[.int .i64 0, .int .i64 0] 23)).drew) w.heap.size 23 #[.int .i64 x.lo, .int .i64 x.hi] := by (with_reducible repeat' (first | assumption | (apply hdN; (try simp only [sA, sS, sD]); done) | apply hdA | apply hdD | apply hdS | (apply hdF; case hp => first | (simp; done) | (simp; omega)) | with_unfolding_all rfl))
  have HB : Hd ((((w.alloc (.cells #[.int .i64 x.lo, .int .i64 x.hi] 23)).alloc (.cells #[.int .i64 y.lo, .int .i64 y.hi] 23)).alloc (.cells #[.int .i64 0, .int .i64 0] 23)).drew) (w.heap.size + 1) 23 #[.int .i64 y.lo, .int .i64 y.hi] := by (with_reducible repeat' (first | assumption | (apply hdN; (try simp only [sA, sS, sD]); done) | apply hdA | apply hdD | apply hdS | (apply hdF; case hp => first | (simp; done) | (simp; omega)) | with_unfolding_all rfl))
  have HO : Hd ((((w.alloc (.cells #[.int .i64 x.lo, .int .i64 x.hi] 23)).alloc (.cells #[.int .i64 y.lo, .int .i64 y.hi] 23)).alloc (.cells #[.int .i64 0, .int .i64 0] 23)).drew) (w.heap.size + 2) 23 #[.int .i64 0, .int .i64 0] := by (with_reducible repeat' (first | assumption | (apply hdN; (try simp only [sA, sS, sD]); done) | apply hdA | apply hdD | apply hdS | (apply hdF; case hp => first | (simp; done) | (simp; omega)) | with_unfolding_all rfl))
  replace bw : But g w ((((w.alloc (.cells #[.int .i64 x.lo, .int .i64 x.hi] 23)).alloc (.cells #[.int .i64 y.lo, .int .i64 y.hi] 23)).alloc (.cells #[.int .i64 0, .int .i64 0] 23)).drew) := by (with_reducible repeat' (first | assumption | exact But.refl _ _ | apply But.drew | apply But.alloc | (refine But.set ?_ ?hp _; case hp => first | (simp; done) | (simp; omega))))
  (refine wp_region_eag (fun w' => Hd w' w.heap.size 23 #[.int .i64 x.lo, .int .i64 x.hi] ∧ Hd w' (w.heap.size + 1) 23 #[.int .i64 y.lo, .int .i64 y.hi] ∧ But g w w') [(0, true), (1, true), (2, true), (3, true), (5, true), (6, true), (7, true), (8, true), (10, true), (11, true), (12, true), (13, true), (15, true), (16, true), (17, true), (18, true), (4, false), (9, false), (14, false), (19, false), (20, false), (21, true)] (by kernel_rfl) (by kernel_rfl) (fun c d v a w h => by cases d <;> exact h) ⟨HA, HB, bw⟩ ?_; simp only [List.map_cons, List.map_nil, List.getD_cons_zero, List.getD_cons_succ, flMark, Nat.reduceEqDiff, ↓reduceIte])
  repeat ((first | with_reducible apply eag_move | with_reducible apply eag_assign | ((with_reducible refine eag_soft (v := ?_) (fun w' hw' => ?_) ?_); rotate_left 1; (focus (obtain ⟨hA, hB, hBw⟩ := hw'; obtain ⟨hcA, hfA⟩ := hA.facts; obtain ⟨hcB, hfB⟩ := hB.facts; go_simp; (try with_reducible rfl); done)))); simp only [Act.put, Act.eval, List.setIfInBounds_toArray, List.set_cons_zero, List.set_cons_succ, Array.getD_eq_getD_getElem?, List.getElem?_toArray, List.getElem?_cons_zero, List.getElem?_cons_succ, Option.getD_some])
  refine eag_hard ?_
  go_wp2_with fail
  refine (timesDown_any x.lo y.lo (by omega) (by omega) (by omega) (by omega) _).mono ?_
  rintro e w'' ⟨rfl, rfl⟩
  go_wp2_with fail
  (try refine ⟨⟨HA, HB, bw⟩, ?_⟩)
  repeat ((first | with_reducible apply eag_move | with_reducible apply eag_assign | ((with_reducible refine eag_soft (v := ?_) (fun w' hw' => ?_) ?_); rotate_left 1; (focus (obtain ⟨hA, hB, hBw⟩ := hw'; obtain ⟨hcA, hfA⟩ := hA.facts; obtain ⟨hcB, hfB⟩ := hB.facts; go_simp; (try with_reducible rfl); done)))); simp only [Act.put, Act.eval, List.setIfInBounds_toArray, List.set_cons_zero, List.set_cons_succ, Array.getD_eq_getD_getElem?, List.getElem?_toArray, List.getElem?_cons_zero, List.getElem?_cons_succ, Option.getD_some])
  refine eag_hard ?_
  go_wp2_with fail
  refine (timesDown_any x.lo y.hi (by omega) (by omega) (by omega) (by omega) _).mono ?_
  rintro e w'' ⟨rfl, rfl⟩
  go_wp2_with fail
  (try refine ⟨⟨HA, HB, bw⟩, ?_⟩)
  repeat ((first | with_reducible apply eag_move | with_reducible apply eag_assign | ((with_reducible refine eag_soft (v := ?_) (fun w' hw' => ?_) ?_); rotate_left 1; (focus (obtain ⟨hA, hB, hBw⟩ := hw'; obtain ⟨hcA, hfA⟩ := hA.facts; obtain ⟨hcB, hfB⟩ := hB.facts; go_simp; (try with_reducible rfl); done)))); simp only [Act.put, Act.eval, List.setIfInBounds_toArray, List.set_cons_zero, List.set_cons_succ, Array.getD_eq_getD_getElem?, List.getElem?_toArray, List.getElem?_cons_zero, List.getElem?_cons_succ, Option.getD_some])
  refine eag_hard ?_
  go_wp2_with fail
  refine (timesDown_any x.hi y.lo (by omega) (by omega) (by omega) (by omega) _).mono ?_
  rintro e w'' ⟨rfl, rfl⟩
  go_wp2_with fail
  (try refine ⟨⟨HA, HB, bw⟩, ?_⟩)
  repeat ((first | with_reducible apply eag_move | with_reducible apply eag_assign | ((with_reducible refine eag_soft (v := ?_) (fun w' hw' => ?_) ?_); rotate_left 1; (focus (obtain ⟨hA, hB, hBw⟩ := hw'; obtain ⟨hcA, hfA⟩ := hA.facts; obtain ⟨hcB, hfB⟩ := hB.facts; go_simp; (try with_reducible rfl); done)))); simp only [Act.put, Act.eval, List.setIfInBounds_toArray, List.set_cons_zero, List.set_cons_succ, Array.getD_eq_getD_getElem?, List.getElem?_toArray, List.getElem?_cons_zero, List.getElem?_cons_succ, Option.getD_some])
  refine eag_hard ?_
  go_wp2_with fail
  refine (timesDown_any x.hi y.hi (by omega) (by omega) (by omega) (by omega) _).mono ?_
  rintro e w'' ⟨rfl, rfl⟩
  go_wp2_with fail
  (try refine ⟨⟨HA, HB, bw⟩, ?_⟩)
  repeat ((first | with_reducible apply eag_move | with_reducible apply eag_assign | ((with_reducible refine eag_soft (v := ?_) (fun w' hw' => ?_) ?_); rotate_left 1; (focus (obtain ⟨hA, hB, hBw⟩ := hw'; obtain ⟨hcA, hfA⟩ := hA.facts; obtain ⟨hcB, hfB⟩ := hB.facts; go_simp; (try with_reducible rfl); done)))); simp only [Act.put, Act.eval, List.setIfInBounds_toArray, List.set_cons_zero, List.set_cons_succ, Array.getD_eq_getD_getElem?, List.getElem?_toArray, List.getElem?_cons_zero, List.getElem?_cons_succ, Option.getD_some])
  refine eag_hard ?_
  go_wp2_with fail
  (try refine ⟨⟨HA, HB, bw⟩, ?_⟩)
  repeat ((first | with_reducible apply eag_move | with_reducible apply eag_assign | ((with_reducible refine eag_soft (v := ?_) (fun w' hw' => ?_) ?_); rotate_left 1; (focus (obtain ⟨hA, hB, hBw⟩ := hw'; obtain ⟨hcA, hfA⟩ := hA.facts; obtain ⟨hcB, hfB⟩ := hB.facts; go_simp; (try with_reducible rfl); done)))); simp only [Act.put, Act.eval, List.setIfInBounds_toArray, List.set_cons_zero, List.set_cons_succ, Array.getD_eq_getD_getElem?, List.getElem?_toArray, List.getElem?_cons_zero, List.getElem?_cons_succ, Option.getD_some])
  refine eag_nil ?_
  obtain ⟨hcA, hfA⟩ := HA.facts
  obtain ⟨hcB, hfB⟩ := HB.facts
  go_upto_region 2 with fail
  replace HG : Hd (((((w.alloc (.cells #[.int .i64 x.lo, .int .i64 x.hi] 23)).alloc (.cells #[.int .i64 y.lo, .int .i64 y.hi] 23)).alloc (.cells #[.int .i64 0, .int .i64 0] 23)).drew).drew) g 83 #[.int .i64 e0] := by (with_reducible repeat' (first | assumption | (apply hdN; (try simp only [sA, sS, sD]); done) | apply hdA | apply hdD | apply hdS | (apply hdF; case hp => first | (simp; done) | (simp; omega)) | with_unfolding_all rfl))
  replace HA : Hd (((((w.alloc (.cells #[.int .i64 x.lo, .int .i64 x.hi] 23)).alloc (.cells #[.int .i64 y.lo, .int .i64 y.hi] 23)).alloc (.cells #[.int .i64 0, .int .i64 0] 23)).drew).drew) w.heap.size 23 #[.int .i64 x.lo, .int .i64 x.hi] := by (with_reducible repeat' (first | assumption | (apply hdN; (try simp only [sA, sS, sD]); done) | apply hdA | apply hdD | apply hdS | (apply hdF; case hp => first | (simp; done) | (simp; omega)) | with_unfolding_all rfl))
  replace HB : Hd (((((w.alloc (.cells #[.int .i64 x.lo, .int .i64 x.hi] 23)).alloc (.cells #[.int .i64 y.lo, .int .i64 y.hi] 23)).alloc (.cells #[.int .i64 0, .int .i64 0] 23)).drew).drew) (w.heap.size + 1) 23 #[.int .i64 y.lo, .int .i64 y.hi] := by (with_reducible repeat' (first | assumption | (apply hdN; (try simp only [sA, sS, sD]); done) | apply hdA | apply hdD | apply hdS | (apply hdF; case hp => first | (simp; done) | (simp; omega)) | with_unfolding_all rfl))
  replace HO : Hd (((((w.alloc (.cells #[.int .i64 x.lo, .int .i64 x.hi] 23)).alloc (.cells #[.int .i64 y.lo, .int .i64 y.hi] 23)).alloc (.cells #[.int .i64 0, .int .i64 0] 23)).drew).drew) (w.heap.size + 2) 23 #[.int .i64 0, .int .i64 0] := by (with_reducible repeat' (first | assumption | (apply hdN; (try simp only [sA, sS, sD]); done) | apply hdA | apply hdD | apply hdS | (apply hdF; case hp => first | (simp; done) | (simp; omega)) | with_unfolding_all rfl))
  replace bw : But g w (((((w.alloc (.cells #[.int .i64 x.lo, .int .i64 x.hi] 23)).alloc (.cells #[.int .i64 y.lo, .int .i64 y.hi] 23)).alloc (.cells #[.int .i64 0, .int .i64 0] 23)).drew).drew) := by (with_reducible repeat' (first | assumption | exact But.refl _ _ | apply But.drew | apply But.alloc | (refine But.set ?_ ?hp _; case hp => first | (simp; done) | (simp; omega))))
  (refine wp_region_eag (fun w' => Hd w' w.heap.size 23 #[.int .i64 x.lo, .int .i64 x.hi] ∧ Hd w' (w.heap.size + 1) 23 #[.int .i64 y.lo, .int .i64 y.hi] ∧ But g w w') [(0, true), (1, true), (2, true), (3, true), (5, true), (6, true), (7, true), (8, true), (10, true), (11, true), (12, true), (13, true), (15, true), (16, true), (17, true), (18, true), (4, false), (9, false), (14, false), (19, false), (20, false), (21, true)] (by kernel_rfl) (by kernel_rfl) (fun c d v a w h => by cases d <;> exact h) ⟨HA, HB, bw⟩ ?_; simp only [List.map_cons, List.map_nil, List.getD_cons_zero, List.getD_cons_succ, flMark, Nat.reduceEqDiff, ↓reduceIte])
  repeat ((first | with_reducible apply eag_move | with_reducible apply eag_assign | ((with_reducible refine eag_soft (v := ?_) (fun w' hw' => ?_) ?_); rotate_left 1; (focus (obtain ⟨hA, hB, hBw⟩ := hw'; obtain ⟨hcA, hfA⟩ := hA.facts; obtain ⟨hcB, hfB⟩ := hB.facts; go_simp; (try with_reducible rfl); done)))); simp only [Act.put, Act.eval, List.setIfInBounds_toArray, List.set_cons_zero, List.set_cons_succ, Array.getD_eq_getD_getElem?, List.getElem?_toArray, List.getElem?_cons_zero, List.getElem?_cons_succ, Option.getD_some])
  refine eag_hard ?_
  go_wp2_with fail
  refine (timesUp_any x.lo y.lo (by omega) (by omega) (by omega) (by omega) _).mono ?_
  rintro e w'' ⟨rfl, rfl⟩
  go_wp2_with fail
  (try refine ⟨⟨HA, HB, bw⟩, ?_⟩)
  repeat ((first | with_reducible apply eag_move | with_reducible apply eag_assign | ((with_reducible refine eag_soft (v := ?_) (fun w' hw' => ?_) ?_); rotate_left 1; (focus (obtain ⟨hA, hB, hBw⟩ := hw'; obtain ⟨hcA, hfA⟩ := hA.facts; obtain ⟨hcB, hfB⟩ := hB.facts; go_simp; (try with_reducible rfl); done)))); simp only [Act.put, Act.eval, List.setIfInBounds_toArray, List.set_cons_zero, List.set_cons_succ, Array.getD_eq_getD_getElem?, List.getElem?_toArray, List.getElem?_cons_zero, List.getElem?_cons_succ, Option.getD_some])
  refine eag_hard ?_
  go_wp2_with fail
  refine (timesUp_any x.lo y.hi (by omega) (by omega) (by omega) (by omega) _).mono ?_
  rintro e w'' ⟨rfl, rfl⟩
  go_wp2_with fail
  (try refine ⟨⟨HA, HB, bw⟩, ?_⟩)
  repeat ((first | with_reducible apply eag_move | with_reducible apply eag_assign | ((with_reducible refine eag_soft (v := ?_) (fun w' hw' => ?_) ?_); rotate_left 1; (focus (obtain ⟨hA, hB, hBw⟩ := hw'; obtain ⟨hcA, hfA⟩ := hA.facts; obtain ⟨hcB, hfB⟩ := hB.facts; go_simp; (try with_reducible rfl); done)))); simp only [Act.put, Act.eval, List.setIfInBounds_toArray, List.set_cons_zero, List.set_cons_succ, Array.getD_eq_getD_getElem?, List.getElem?_toArray, List.getElem?_cons_zero, List.getElem?_cons_succ, Option.getD_some])
  refine eag_hard ?_
  go_wp2_with fail
  refine (timesUp_any x.hi y.lo (by omega) (by omega) (by omega) (by omega) _).mono ?_
  rintro e w'' ⟨rfl, rfl⟩
  go_wp2_with fail
  (try refine ⟨⟨HA, HB, bw⟩, ?_⟩)
  repeat ((first | with_reducible apply eag_move | with_reducible apply eag_assign | ((with_reducible refine eag_soft (v := ?_) (fun w' hw' => ?_) ?_); rotate_left 1; (focus (obtain ⟨hA, hB, hBw⟩ := hw'; obtain ⟨hcA, hfA⟩ := hA.facts; obtain ⟨hcB, hfB⟩ := hB.facts; go_simp; (try with_reducible rfl); done)))); simp only [Act.put, Act.eval, List.setIfInBounds_toArray, List.set_cons_zero, List.set_cons_succ, Array.getD_eq_getD_getElem?, List.getElem?_toArray, List.getElem?_cons_zero, List.getElem?_cons_succ, Option.getD_some])
  refine eag_hard ?_
  go_wp2_with fail
  refine (timesUp_any x.hi y.hi (by omega) (by omega) (by omega) (by omega) _).mono ?_
  rintro e w'' ⟨rfl, rfl⟩
  go_wp2_with fail
  (try refine ⟨⟨HA, HB, bw⟩, ?_⟩)
  repeat ((first | with_reducible apply eag_move | with_reducible apply eag_assign | ((with_reducible refine eag_soft (v := ?_) (fun w' hw' => ?_) ?_); rotate_left 1; (focus (obtain ⟨hA, hB, hBw⟩ := hw'; obtain ⟨hcA, hfA⟩ := hA.facts; obtain ⟨hcB, hfB⟩ := hB.facts; go_simp; (try with_reducible rfl); done)))); simp only [Act.put, Act.eval, List.setIfInBounds_toArray, List.set_cons_zero, List.set_cons_succ, Array.getD_eq_getD_getElem?, List.getElem?_toArray, List.getElem?_cons_zero, List.getElem?_cons_succ, Option.getD_some])
  refine eag_hard ?_
  go_wp2_with fail
  (try refine ⟨⟨HA, HB, bw⟩, ?_⟩)
  repeat ((first | with_reducible apply eag_move | with_reducible apply eag_assign | ((with_reducible refine eag_soft (v := ?_) (fun w' hw' => ?_) ?_); rotate_left 1; (focus (obtain ⟨hA, hB, hBw⟩ := hw'; obtain ⟨hcA, hfA⟩ := hA.facts; obtain ⟨hcB, hfB⟩ := hB.facts; go_simp; (try with_reducible rfl); done)))); simp only [Act.put, Act.eval, List.setIfInBounds_toArray, List.set_cons_zero, List.set_cons_succ, Array.getD_eq_getD_getElem?, List.getElem?_toArray, List.getElem?_cons_zero, List.getElem?_cons_succ, Option.getD_some])
  refine eag_nil ?_
  go_wp2_with fail
  refine (wspan_any _ _ e0 g _ HG).mono ?_
  rintro e w1 ⟨z1, e1, rfl, ok1, zz1, qq1, HG1, hb1⟩
  replace bw : But g w w1 := bw.trans hb1
  replace HA := HA.but hb1 (by omega)
  replace HB := HB.but hb1 (by omega)
  replace HO := HO.but hb1 (by omega)
  replace HG := HG1
  clear HG1
  replace qq1 := Lib.hid qq1
  replace zz1 := Lib.hid zz1
  have lw1 : w.heap.size ≤ w1.heap.size := bw.size
  clear hb1
  obtain ⟨hcO, hfO⟩ := HO.facts
  go_wp2
  refine bodyPost_ret (run_results1 rfl rfl (by (show Hd _ ((w.heap.size + 2)) 23 #[.int .i64 z1.lo, .int .i64 z1.hi]); (with_reducible repeat' (first | assumption | (apply hdN; (try simp only [sA, sS, sD]); done) | apply hdA | apply hdD | apply hdS | (apply hdF; case hp => first | (simp; done) | (simp; omega)) | with_unfolding_all rfl))) Try.underlying23 rfl (by kernel_rfl)) rfl ⟨z1, e1, rfl, ok1, zz1.out, (by rw [En.mul_eq ⟨x1, x2, x3, x4⟩ ⟨y1, y2, y3, y4⟩, min4, max4]; exact qq1.out), by (with_reducible repeat' (first | assumption | (apply hdN; (try simp only [sA, sS, sD]); done) | apply hdA | apply hdD | apply hdS | (apply hdF; case hp => first | (simp; done) | (simp; omega)) | with_unfolding_all rfl)), by (with_reducible repeat' (first | assumption | exact But.refl _ _ | apply But.drew | apply But.alloc | (refine But.set ?_ ?hp _; case hp => first | (simp; done) | (simp; omega))))⟩
end Go.Proofs.Ytpbbbfglecbceaa
