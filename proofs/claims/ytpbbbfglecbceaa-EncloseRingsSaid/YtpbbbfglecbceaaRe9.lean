/- The document's points of the unit circle. -/
import Derived.Test.YtpbbbfglecbceaaRe6
import Derived.Test.YtpbbbfglecbceaaRe7
import Derived.Test.YtpbbbfglecbceaaEn16
namespace Go.Proofs.Ytpbbbfglecbceaa
set_option linter.all false
open Go.RowKit

theorem En.Stk.sure {α : Type} {r : En.R α} {z v : α} {e' : Int} (h : En.Stk r 0 z e') (hr : r = .ok v) : v = z ∧ e' = 0 := by
  rcases h.zero with ⟨h1, h2⟩ | ⟨h1, h2⟩
  · rw [hr] at h1
    cases h1
    exact ⟨rfl, h2⟩
  · rw [hr] at h1
    cases h1
theorem whole1 (w : World) : Calls Try.prog 64 #[.int .i64 (1)] w fun e w' => e = .returned (.agg #[.int .i64 1073741824, .int .i64 1073741824, .int .i64 0, .int .i64 0]) ∧ Below w.heap.size w w' := by
  go_enter Try.func64, Try.ntmps64
  go_wp2
  refine bodyPost_ret (run_results1 rfl rfl (by (show Hd _ (w.heap.size) 25 #[.int .i64 1073741824, .int .i64 1073741824, .int .i64 0, .int .i64 0]); (with_reducible repeat' (first | assumption | (apply hdN; (try simp only [sA, sS, sD]); done) | apply hdA | apply hdD | apply hdS | (apply hdF; case hp => first | (simp; done) | (simp; omega)) | with_unfolding_all rfl))) Try.underlying25 rfl (by kernel_rfl)) rfl ⟨rfl, by go_grown⟩
theorem wholem (w : World) : Calls Try.prog 64 #[.int .i64 (-1)] w fun e w' => e = .returned (.agg #[.int .i64 (-1073741824), .int .i64 (-1073741824), .int .i64 0, .int .i64 0]) ∧ Below w.heap.size w w' := by
  go_enter Try.func64, Try.ntmps64
  go_wp2
  refine bodyPost_ret (run_results1 rfl rfl (by (show Hd _ (w.heap.size) 25 #[.int .i64 (-1073741824), .int .i64 (-1073741824), .int .i64 0, .int .i64 0]); (with_reducible repeat' (first | assumption | (apply hdN; (try simp only [sA, sS, sD]); done) | apply hdA | apply hdD | apply hdS | (apply hdF; case hp => first | (simp; done) | (simp; omega)) | with_unfolding_all rfl))) Try.underlying25 rfl (by kernel_rfl)) rfl ⟨rfl, by go_grown⟩

set_option maxHeartbeats 4000000 in
theorem wpoint_any (j0 : Nat) (hj : 1 ≤ j0) (hj8 : j0 ≤ 8) (k0 : Int) (hk0 : k0 = (j0 : Int) + 2) (g : Nat) (w : World) (HG : Hd w g 83 #[.int .i64 0]) :
    Calls Try.prog 66 #[ptr g, .int .i64 k0] w fun e w' => e = .returned (rcV ⟨En.tabC j0, En.tabS j0⟩) ∧ Hd w' g 83 #[.int .i64 0] ∧ But g w w' := by
  have hlt := HG.lt
  have bw := But.refl g w
  have hfd := field_re
  have HJ := Lib.hid hj
  clear hj
  go_enter Try.func66, Try.ntmps66
  go_wp2_with fail
  replace HG : Hd (w.alloc (.cells #[.int .i64 0, .int .i64 0, .int .i64 0, .int .i64 0] 25)) g 83 #[.int .i64 0] := by (with_reducible repeat' (first | assumption | (apply hdN; (try simp only [sA, sS, sD]); done) | apply hdA | apply hdD | apply hdS | (apply hdF; case hp => first | (simp; done) | (simp; omega)) | with_unfolding_all rfl))
  have HO : Hd (w.alloc (.cells #[.int .i64 0, .int .i64 0, .int .i64 0, .int .i64 0] 25)) w.heap.size 25 #[.int .i64 0, .int .i64 0, .int .i64 0, .int .i64 0] := by (with_reducible repeat' (first | assumption | (apply hdN; (try simp only [sA, sS, sD]); done) | apply hdA | apply hdD | apply hdS | (apply hdF; case hp => first | (simp; done) | (simp; omega)) | with_unfolding_all rfl))
  replace bw : But g w (w.alloc (.cells #[.int .i64 0, .int .i64 0, .int .i64 0, .int .i64 0] 25)) := by (with_reducible repeat' (first | assumption | exact But.refl _ _ | apply But.drew | apply But.alloc | (refine But.set ?_ ?hp _; case hp => first | (simp; done) | (simp; omega))))
  refine (whole1 _).mono ?_
  rintro e w1 ⟨rfl, hb1⟩
  replace bw : But g w w1 := bw.below hb1
  replace HG := HG.call hb1
  replace HO := HO.call hb1
  have lw1 : w.heap.size ≤ w1.heap.size := bw.size
  clear hb1
  have ltO := HO.lt
  go_wp2
  replace HG : Hd (((w1.alloc (.cells #[.int .i64 1073741824, .int .i64 1073741824] 23)).alloc (.cells #[.int .i64 0, .int .i64 0] 23)).alloc (.cells #[.int .i64 0, .int .i64 0] 23)) g 83 #[.int .i64 0] := by (with_reducible repeat' (first | assumption | (apply hdN; (try simp only [sA, sS, sD]); done) | apply hdA | apply hdD | apply hdS | (apply hdF; case hp => first | (simp; done) | (simp; omega)) | with_unfolding_all rfl))
  replace HO : Hd (((w1.alloc (.cells #[.int .i64 1073741824, .int .i64 1073741824] 23)).alloc (.cells #[.int .i64 0, .int .i64 0] 23)).alloc (.cells #[.int .i64 0, .int .i64 0] 23)) w.heap.size 25 #[.int .i64 0, .int .i64 0, .int .i64 0, .int .i64 0] := by (with_reducible repeat' (first | assumption | (apply hdN; (try simp only [sA, sS, sD]); done) | apply hdA | apply hdD | apply hdS | (apply hdF; case hp => first | (simp; done) | (simp; omega)) | with_unfolding_all rfl))
  replace bw : But g w (((w1.alloc (.cells #[.int .i64 1073741824, .int .i64 1073741824] 23)).alloc (.cells #[.int .i64 0, .int .i64 0] 23)).alloc (.cells #[.int .i64 0, .int .i64 0] 23)) := by (with_reducible repeat' (first | assumption | exact But.refl _ _ | apply But.drew | apply But.alloc | (refine But.set ?_ ?hp _; case hp => first | (simp; done) | (simp; omega))))
  have HP : Hd (((w1.alloc (.cells #[.int .i64 1073741824, .int .i64 1073741824] 23)).alloc (.cells #[.int .i64 0, .int .i64 0] 23)).alloc (.cells #[.int .i64 0, .int .i64 0] 23)) w1.heap.size 23 #[.int .i64 1073741824, .int .i64 1073741824] := by (with_reducible repeat' (first | assumption | (apply hdN; (try simp only [sA, sS, sD]); done) | apply hdA | apply hdD | apply hdS | (apply hdF; case hp => first | (simp; done) | (simp; omega)) | with_unfolding_all rfl))
  have HC : Hd (((w1.alloc (.cells #[.int .i64 1073741824, .int .i64 1073741824] 23)).alloc (.cells #[.int .i64 0, .int .i64 0] 23)).alloc (.cells #[.int .i64 0, .int .i64 0] 23)) (w1.heap.size + 1) 23 #[.int .i64 0, .int .i64 0] := by (with_reducible repeat' (first | assumption | (apply hdN; (try simp only [sA, sS, sD]); done) | apply hdA | apply hdD | apply hdS | (apply hdF; case hp => first | (simp; done) | (simp; omega)) | with_unfolding_all rfl))
  have HD : Hd (((w1.alloc (.cells #[.int .i64 1073741824, .int .i64 1073741824] 23)).alloc (.cells #[.int .i64 0, .int .i64 0] 23)).alloc (.cells #[.int .i64 0, .int .i64 0] 23)) (w1.heap.size + 1 + 1) 23 #[.int .i64 0, .int .i64 0] := by (with_reducible repeat' (first | assumption | (apply hdN; (try simp only [sA, sS, sD]); done) | apply hdA | apply hdD | apply hdS | (apply hdF; case hp => first | (simp; done) | (simp; omega)) | with_unfolding_all rfl))
  go_loopw [8] (fun b wx => ∃ (j : Nat) (sv : En.Sp) (kk : Int), j ≤ j0 ∧ kk = (j : Int) + 2 ∧ b = .int .i64 kk ∧ RowKit.Hid (0 < j → sv = En.tabS j) ∧ Hd wx g 83 #[.int .i64 0] ∧ Hd wx w.heap.size 25 #[.int .i64 0, .int .i64 0, .int .i64 0, .int .i64 0] ∧ Hd wx w1.heap.size 23 #[.int .i64 1073741824, .int .i64 1073741824] ∧
      Hd wx (w1.heap.size + 1) 23 #[.int .i64 (En.tabC j).lo, .int .i64 (En.tabC j).hi] ∧ Hd wx (w1.heap.size + 1 + 1) 23 #[.int .i64 sv.lo, .int .i64 sv.hi] ∧ But g w wx) (fun b _ => (k0 - intOf b).toNat)
  case atStart => exact ⟨0, ⟨0, 0⟩, 2, by omega, by omega, rfl, Lib.hid (fun h => absurd h (by omega)), HG, HO, HP, HC, HD, bw⟩
  case round =>
    clear HG HO HP HC HD bw ltO
    obtain ⟨j, sv, kk, hjj, hkk, rfl, HSV, HG, HO, HP, HC, HD, bw⟩ := hrel
    have lwr : w.heap.size ≤ wr.heap.size := bw.size
    by_cases hjl : j < j0
    · have hlt2 : kk < k0 := by omega
      obtain ⟨d, hf0, ep, g', hd, hh, h0, ho, hr, he, hg, g0, go, hq⟩ := En.tab_step j (by omega)
      have HD1 := Lib.hid hd
      have HH1 := Lib.hid hh
      have H01 := Lib.hid h0
      have HO1 := Lib.hid ho
      have HR1 := Lib.hid hr
      have HE1 := Lib.hid he
      have HG1 := Lib.hid hg
      have HG0 := Lib.hid g0
      have HGO := Lib.hid go
      have HQ1 := Lib.hid hq
      clear hd hh h0 ho hr he hg g0 go hq
      go_upto_region 6 with fail
      replace HG : Hd (wr.drew) g 83 #[.int .i64 0] := by (with_reducible repeat' (first | assumption | (apply hdN; (try simp only [sA, sS, sD]); done) | apply hdA | apply hdD | apply hdS | (apply hdF; case hp => first | (simp; done) | (simp; omega)) | with_unfolding_all rfl))
      replace HO : Hd (wr.drew) w.heap.size 25 #[.int .i64 0, .int .i64 0, .int .i64 0, .int .i64 0] := by (with_reducible repeat' (first | assumption | (apply hdN; (try simp only [sA, sS, sD]); done) | apply hdA | apply hdD | apply hdS | (apply hdF; case hp => first | (simp; done) | (simp; omega)) | with_unfolding_all rfl))
      replace HP : Hd (wr.drew) w1.heap.size 23 #[.int .i64 1073741824, .int .i64 1073741824] := by (with_reducible repeat' (first | assumption | (apply hdN; (try simp only [sA, sS, sD]); done) | apply hdA | apply hdD | apply hdS | (apply hdF; case hp => first | (simp; done) | (simp; omega)) | with_unfolding_all rfl))
      replace HC : Hd (wr.drew) (w1.heap.size + 1) 23 #[.int .i64 (En.tabC j).lo, .int .i64 (En.tabC j).hi] := by (with_reducible repeat' (first | assumption | (apply hdN; (try simp only [sA, sS, sD]); done) | apply hdA | apply hdD | apply hdS | (apply hdF; case hp => first | (simp; done) | (simp; omega)) | with_unfolding_all rfl))
      replace HD : Hd (wr.drew) (w1.heap.size + 1 + 1) 23 #[.int .i64 sv.lo, .int .i64 sv.hi] := by (with_reducible repeat' (first | assumption | (apply hdN; (try simp only [sA, sS, sD]); done) | apply hdA | apply hdD | apply hdS | (apply hdF; case hp => first | (simp; done) | (simp; omega)) | with_unfolding_all rfl))
      replace bw : But g w (wr.drew) := by (with_reducible repeat' (first | assumption | exact But.refl _ _ | apply But.drew | apply But.alloc | (refine But.set ?_ ?hp _; case hp => first | (simp; done) | (simp; omega))))
      (refine wp_region_fl (fun w' => Hd w' w1.heap.size 23 #[.int .i64 1073741824, .int .i64 1073741824] ∧ But g w w') 12 [(0, 0), (1, 0), (2, 0), (3, 0), (8, 0), (9, 0), (10, 0), (11, 0), (4, 2), (5, 2), (6, 2), (7, 2), (12, 1), (13, 1), (14, 1), (15, 1), (16, 1), (17, 1)] (by kernel_rfl) (by kernel_rfl) (fun c d v a w h => by cases d <;> exact h) ⟨HP, bw⟩ ?_; simp only [List.map_cons, List.map_nil, List.getD_cons_zero, List.getD_cons_succ, flMark, Nat.reduceEqDiff, ↓reduceIte])
      generalize hW : wr.drew = w11 at HG HO HP HC HD bw ⊢
      clear hW
      have lw11 : w.heap.size ≤ w11.heap.size := bw.size
      repeat ((first | with_reducible apply fl_move | with_reducible apply fl_assign | ((with_reducible refine fl_soft (v := ?_) (fun w' hw' => ?_) ?_); rotate_left 1; (focus (obtain ⟨hP, hBw⟩ := hw'; obtain ⟨hcP, hfP⟩ := hP.facts; go_simp; (try with_reducible rfl); done)))); simp only [Act.put, Act.eval, List.setIfInBounds_toArray, List.set_cons_zero, List.set_cons_succ, Array.getD_eq_getD_getElem?, List.getElem?_toArray, List.getElem?_cons_zero, List.getElem?_cons_succ, Option.getD_some])
      refine fl_both ?_ ?_
      · obtain ⟨hcC, hfC⟩ := HC.facts
        go_wp2_with fail
        (try refine ⟨⟨HP, bw⟩, ?_⟩)
        repeat ((first | with_reducible apply fl_move | with_reducible apply fl_assign | ((with_reducible refine fl_soft (v := ?_) (fun w' hw' => ?_) ?_); rotate_left 1; (focus (obtain ⟨hP, hBw⟩ := hw'; obtain ⟨hcP, hfP⟩ := hP.facts; go_simp; (try with_reducible rfl); done)))); simp only [Act.put, Act.eval, List.setIfInBounds_toArray, List.set_cons_zero, List.set_cons_succ, Array.getD_eq_getD_getElem?, List.getElem?_toArray, List.getElem?_cons_zero, List.getElem?_cons_succ, Option.getD_some])
        refine fl_both ?_ ?_
        · go_wp2_with fail
          refine (wsum_any En.one (En.tabC j) (En.Sp.fit_of_ok (s := En.one) (by decide)) (En.Sp.fit_of_ok (En.tab_ok j).1) 0 g _ HG).mono ?_
          rintro e w12 ⟨z12, e12, rfl, ok12, _, qq12, HG12, hb12⟩
          obtain ⟨rfl, rfl⟩ := qq12.sure HE1.out
          clear ok12 qq12
          replace bw := bw.trans hb12
          replace HO := HO.but hb12 (by omega)
          replace HP := HP.but hb12 (by omega)
          replace HC := HC.but hb12 (by omega)
          replace HD := HD.but hb12 (by omega)
          replace HG := HG12
          clear HG12
          have lw12 : w.heap.size ≤ w12.heap.size := bw.size
          clear hb12
          go_wp2_with fail
          (try refine ⟨⟨HP, bw⟩, ?_⟩)
          repeat ((first | with_reducible apply fl_move | with_reducible apply fl_assign | ((with_reducible refine fl_soft (v := ?_) (fun w' hw' => ?_) ?_); rotate_left 1; (focus (obtain ⟨hP, hBw⟩ := hw'; obtain ⟨hcP, hfP⟩ := hP.facts; go_simp; (try with_reducible rfl); done)))); simp only [Act.put, Act.eval, List.setIfInBounds_toArray, List.set_cons_zero, List.set_cons_succ, Array.getD_eq_getD_getElem?, List.getElem?_toArray, List.getElem?_cons_zero, List.getElem?_cons_succ, Option.getD_some])
          refine fl_both ?_ ?_
          · go_wp2_with fail
            refine (whalf_any ep (En.Sp.fit_of_ok (En.add_ok HE1.out)) 0 g _ HG).mono ?_
            rintro e w13 ⟨z13, e13, rfl, ok13, _, qq13, HG13, hb13⟩
            obtain ⟨rfl, rfl⟩ := qq13.sure HG1.out
            clear ok13 qq13
            replace bw := bw.trans hb13
            replace HO := HO.but hb13 (by omega)
            replace HP := HP.but hb13 (by omega)
            replace HC := HC.but hb13 (by omega)
            replace HD := HD.but hb13 (by omega)
            replace HG := HG13
            clear HG13
            have lw13 : w.heap.size ≤ w13.heap.size := bw.size
            clear hb13
            go_wp2_with fail
            (try refine ⟨⟨HP, bw⟩, ?_⟩)
            repeat ((first | with_reducible apply fl_move | with_reducible apply fl_assign | ((with_reducible refine fl_soft (v := ?_) (fun w' hw' => ?_) ?_); rotate_left 1; (focus (obtain ⟨hP, hBw⟩ := hw'; obtain ⟨hcP, hfP⟩ := hP.facts; go_simp; (try with_reducible rfl); done)))); simp only [Act.put, Act.eval, List.setIfInBounds_toArray, List.set_cons_zero, List.set_cons_succ, Array.getD_eq_getD_getElem?, List.getElem?_toArray, List.getElem?_cons_zero, List.getElem?_cons_succ, Option.getD_some])
            refine fl_both ?_ ?_
            · go_wp2_with fail
              refine (wroot_any g' (En.Sp.fit_of_ok HGO.out) HG0.out (Int.le_trans HG0.out (En.Sp.le_of_ok HGO.out)) 0 g _ HG).mono ?_
              rintro e w14 ⟨z14, e14, rfl, ok14, _, qq14, HG14, hb14⟩
              obtain ⟨rfl, rfl⟩ := qq14.sure HQ1.out
              clear ok14 qq14
              replace bw := bw.trans hb14
              replace HO := HO.but hb14 (by omega)
              replace HP := HP.but hb14 (by omega)
              replace HC := HC.but hb14 (by omega)
              replace HD := HD.but hb14 (by omega)
              replace HG := HG14
              clear HG14
              have lw14 : w.heap.size ≤ w14.heap.size := bw.size
              clear hb14
              go_wp2_with fail
              (try refine ⟨⟨HP, bw⟩, ?_⟩)
              repeat ((first | with_reducible apply fl_move | with_reducible apply fl_assign | ((with_reducible refine fl_soft (v := ?_) (fun w' hw' => ?_) ?_); rotate_left 1; (focus (obtain ⟨hP, hBw⟩ := hw'; obtain ⟨hcP, hfP⟩ := hP.facts; go_simp; (try with_reducible rfl); done)))); simp only [Act.put, Act.eval, List.setIfInBounds_toArray, List.set_cons_zero, List.set_cons_succ, Array.getD_eq_getD_getElem?, List.getElem?_toArray, List.getElem?_cons_zero, List.getElem?_cons_succ, Option.getD_some])
              refine fl_must ?_
              obtain ⟨hcC, hfC⟩ := HC.facts
              go_wp2_with fail
              (try refine ⟨⟨HP, bw⟩, ?_⟩)
              repeat ((first | with_reducible apply fl_move | with_reducible apply fl_assign | ((with_reducible refine fl_soft (v := ?_) (fun w' hw' => ?_) ?_); rotate_left 1; (focus (obtain ⟨hP, hBw⟩ := hw'; obtain ⟨hcP, hfP⟩ := hP.facts; go_simp; (try with_reducible rfl); done)))); simp only [Act.put, Act.eval, List.setIfInBounds_toArray, List.set_cons_zero, List.set_cons_succ, Array.getD_eq_getD_getElem?, List.getElem?_toArray, List.getElem?_cons_zero, List.getElem?_cons_succ, Option.getD_some])
              repeat ((first | with_reducible apply fl_move | with_reducible apply fl_assign | ((with_reducible refine fl_soft (v := ?_) (fun w' hw' => ?_) ?_); rotate_left 1; (focus (obtain ⟨hP, hBw⟩ := hw'; obtain ⟨hcP, hfP⟩ := hP.facts; go_simp; (try with_reducible rfl); done)))); simp only [Act.put, Act.eval, List.setIfInBounds_toArray, List.set_cons_zero, List.set_cons_succ, Array.getD_eq_getD_getElem?, List.getElem?_toArray, List.getElem?_cons_zero, List.getElem?_cons_succ, Option.getD_some])
              refine fl_hard ?_
              go_wp2_with fail
              refine (wless_any En.one (En.tabC j) (En.Sp.fit_of_ok (s := En.one) (by decide)) (En.Sp.fit_of_ok (En.tab_ok j).1) 0 g _ HG).mono ?_
              rintro e w15 ⟨z15, e15, rfl, ok15, _, qq15, HG15, hb15⟩
              obtain ⟨rfl, rfl⟩ := qq15.sure HD1.out
              clear ok15 qq15
              replace bw := bw.trans hb15
              replace HO := HO.but hb15 (by omega)
              replace HP := HP.but hb15 (by omega)
              replace HC := HC.but hb15 (by omega)
              replace HD := HD.but hb15 (by omega)
              replace HG := HG15
              clear HG15
              have lw15 : w.heap.size ≤ w15.heap.size := bw.size
              clear hb15
              go_wp2_with fail
              (try refine ⟨⟨HP, bw⟩, ?_⟩)
              repeat ((first | with_reducible apply fl_move | with_reducible apply fl_assign | ((with_reducible refine fl_soft (v := ?_) (fun w' hw' => ?_) ?_); rotate_left 1; (focus (obtain ⟨hP, hBw⟩ := hw'; obtain ⟨hcP, hfP⟩ := hP.facts; go_simp; (try with_reducible rfl); done)))); simp only [Act.put, Act.eval, List.setIfInBounds_toArray, List.set_cons_zero, List.set_cons_succ, Array.getD_eq_getD_getElem?, List.getElem?_toArray, List.getElem?_cons_zero, List.getElem?_cons_succ, Option.getD_some])
              refine fl_hard ?_
              go_wp2_with fail
              refine (whalf_any d (En.Sp.fit_of_ok (En.sub_ok HD1.out)) 0 g _ HG).mono ?_
              rintro e w16 ⟨z16, e16, rfl, ok16, _, qq16, HG16, hb16⟩
              obtain ⟨rfl, rfl⟩ := qq16.sure HH1.out
              clear ok16 qq16
              replace bw := bw.trans hb16
              replace HO := HO.but hb16 (by omega)
              replace HP := HP.but hb16 (by omega)
              replace HC := HC.but hb16 (by omega)
              replace HD := HD.but hb16 (by omega)
              replace HG := HG16
              clear HG16
              have lw16 : w.heap.size ≤ w16.heap.size := bw.size
              clear hb16
              go_wp2_with fail
              (try refine ⟨⟨HP, bw⟩, ?_⟩)
              repeat ((first | with_reducible apply fl_move | with_reducible apply fl_assign | ((with_reducible refine fl_soft (v := ?_) (fun w' hw' => ?_) ?_); rotate_left 1; (focus (obtain ⟨hP, hBw⟩ := hw'; obtain ⟨hcP, hfP⟩ := hP.facts; go_simp; (try with_reducible rfl); done)))); simp only [Act.put, Act.eval, List.setIfInBounds_toArray, List.set_cons_zero, List.set_cons_succ, Array.getD_eq_getD_getElem?, List.getElem?_toArray, List.getElem?_cons_zero, List.getElem?_cons_succ, Option.getD_some])
              refine fl_hard ?_
              go_wp2_with fail
              refine (wroot_any hf0 (En.Sp.fit_of_ok HO1.out) H01.out (Int.le_trans H01.out (En.Sp.le_of_ok HO1.out)) 0 g _ HG).mono ?_
              rintro e w17 ⟨z17, e17, rfl, ok17, _, qq17, HG17, hb17⟩
              obtain ⟨rfl, rfl⟩ := qq17.sure HR1.out
              clear ok17 qq17
              replace bw := bw.trans hb17
              replace HO := HO.but hb17 (by omega)
              replace HP := HP.but hb17 (by omega)
              replace HC := HC.but hb17 (by omega)
              replace HD := HD.but hb17 (by omega)
              replace HG := HG17
              clear HG17
              have lw17 : w.heap.size ≤ w17.heap.size := bw.size
              clear hb17
              go_wp2_with fail
              (try refine ⟨⟨HP, bw⟩, ?_⟩)
              repeat ((first | with_reducible apply fl_move | with_reducible apply fl_assign | ((with_reducible refine fl_soft (v := ?_) (fun w' hw' => ?_) ?_); rotate_left 1; (focus (obtain ⟨hP, hBw⟩ := hw'; obtain ⟨hcP, hfP⟩ := hP.facts; go_simp; (try with_reducible rfl); done)))); simp only [Act.put, Act.eval, List.setIfInBounds_toArray, List.set_cons_zero, List.set_cons_succ, Array.getD_eq_getD_getElem?, List.getElem?_toArray, List.getElem?_cons_zero, List.getElem?_cons_succ, Option.getD_some])
              refine fl_hard ?_
              obtain ⟨hcC, hfC⟩ := HC.facts
              go_wp2_with fail
              have PG := HG
              have PO := HO
              have PP := HP
              have PC := HC
              have PD := HD
              have Pbw := bw
              replace HG : Hd ((w17.setCell ⟨(w1.heap.size + 1), 0, none⟩ (.int .i64 (En.tabC (j + 1)).lo)).setCell ⟨(w1.heap.size + 1), 1, none⟩ (.int .i64 (En.tabC (j + 1)).hi)) g 83 #[.int .i64 0] := by (with_reducible repeat' (first | assumption | (apply hdN; (try simp only [sA, sS, sD]); done) | apply hdA | apply hdD | apply hdS | (apply hdF; case hp => first | (simp; done) | (simp; omega)) | with_unfolding_all rfl))
              replace HO : Hd ((w17.setCell ⟨(w1.heap.size + 1), 0, none⟩ (.int .i64 (En.tabC (j + 1)).lo)).setCell ⟨(w1.heap.size + 1), 1, none⟩ (.int .i64 (En.tabC (j + 1)).hi)) w.heap.size 25 #[.int .i64 0, .int .i64 0, .int .i64 0, .int .i64 0] := by (with_reducible repeat' (first | assumption | (apply hdN; (try simp only [sA, sS, sD]); done) | apply hdA | apply hdD | apply hdS | (apply hdF; case hp => first | (simp; done) | (simp; omega)) | with_unfolding_all rfl))
              replace HP : Hd ((w17.setCell ⟨(w1.heap.size + 1), 0, none⟩ (.int .i64 (En.tabC (j + 1)).lo)).setCell ⟨(w1.heap.size + 1), 1, none⟩ (.int .i64 (En.tabC (j + 1)).hi)) w1.heap.size 23 #[.int .i64 1073741824, .int .i64 1073741824] := by (with_reducible repeat' (first | assumption | (apply hdN; (try simp only [sA, sS, sD]); done) | apply hdA | apply hdD | apply hdS | (apply hdF; case hp => first | (simp; done) | (simp; omega)) | with_unfolding_all rfl))
              replace HC : Hd ((w17.setCell ⟨(w1.heap.size + 1), 0, none⟩ (.int .i64 (En.tabC (j + 1)).lo)).setCell ⟨(w1.heap.size + 1), 1, none⟩ (.int .i64 (En.tabC (j + 1)).hi)) (w1.heap.size + 1) 23 #[.int .i64 (En.tabC (j + 1)).lo, .int .i64 (En.tabC (j + 1)).hi] := by (with_reducible repeat' (first | assumption | (apply hdN; (try simp only [sA, sS, sD]); done) | apply hdA | apply hdD | apply hdS | (apply hdF; case hp => first | (simp; done) | (simp; omega)) | with_unfolding_all rfl))
              replace HD : Hd ((w17.setCell ⟨(w1.heap.size + 1), 0, none⟩ (.int .i64 (En.tabC (j + 1)).lo)).setCell ⟨(w1.heap.size + 1), 1, none⟩ (.int .i64 (En.tabC (j + 1)).hi)) (w1.heap.size + 1 + 1) 23 #[.int .i64 sv.lo, .int .i64 sv.hi] := by (with_reducible repeat' (first | assumption | (apply hdN; (try simp only [sA, sS, sD]); done) | apply hdA | apply hdD | apply hdS | (apply hdF; case hp => first | (simp; done) | (simp; omega)) | with_unfolding_all rfl))
              replace bw : But g w ((w17.setCell ⟨(w1.heap.size + 1), 0, none⟩ (.int .i64 (En.tabC (j + 1)).lo)).setCell ⟨(w1.heap.size + 1), 1, none⟩ (.int .i64 (En.tabC (j + 1)).hi)) := by (with_reducible repeat' (first | assumption | exact But.refl _ _ | apply But.drew | apply But.alloc | (refine But.set ?_ ?hp _; case hp => first | (simp; done) | (simp; omega))))
              (try refine ⟨⟨HP, bw⟩, ?_⟩)
              repeat ((first | with_reducible apply fl_move | with_reducible apply fl_assign | ((with_reducible refine fl_soft (v := ?_) (fun w' hw' => ?_) ?_); rotate_left 1; (focus (obtain ⟨hP, hBw⟩ := hw'; obtain ⟨hcP, hfP⟩ := hP.facts; go_simp; (try with_reducible rfl); done)))); simp only [Act.put, Act.eval, List.setIfInBounds_toArray, List.set_cons_zero, List.set_cons_succ, Array.getD_eq_getD_getElem?, List.getElem?_toArray, List.getElem?_cons_zero, List.getElem?_cons_succ, Option.getD_some])
              refine fl_hard ?_
              generalize hW : (w17.setCell ⟨(w1.heap.size + 1), 0, none⟩ (.int .i64 (En.tabC (j + 1)).lo)).setCell ⟨(w1.heap.size + 1), 1, none⟩ (.int .i64 (En.tabC (j + 1)).hi) = w18 at HG HO HP HC HD bw ⊢
              clear hW
              have lw18 : w.heap.size ≤ w18.heap.size := bw.size
              obtain ⟨hcD, hfD⟩ := HD.facts
              go_wp2_with fail
              have PG := HG
              have PO := HO
              have PP := HP
              have PC := HC
              have PD := HD
              have Pbw := bw
              replace HG : Hd ((w18.setCell ⟨(w1.heap.size + 1 + 1), 0, none⟩ (.int .i64 (En.tabS (j + 1)).lo)).setCell ⟨(w1.heap.size + 1 + 1), 1, none⟩ (.int .i64 (En.tabS (j + 1)).hi)) g 83 #[.int .i64 0] := by (with_reducible repeat' (first | assumption | (apply hdN; (try simp only [sA, sS, sD]); done) | apply hdA | apply hdD | apply hdS | (apply hdF; case hp => first | (simp; done) | (simp; omega)) | with_unfolding_all rfl))
              replace HO : Hd ((w18.setCell ⟨(w1.heap.size + 1 + 1), 0, none⟩ (.int .i64 (En.tabS (j + 1)).lo)).setCell ⟨(w1.heap.size + 1 + 1), 1, none⟩ (.int .i64 (En.tabS (j + 1)).hi)) w.heap.size 25 #[.int .i64 0, .int .i64 0, .int .i64 0, .int .i64 0] := by (with_reducible repeat' (first | assumption | (apply hdN; (try simp only [sA, sS, sD]); done) | apply hdA | apply hdD | apply hdS | (apply hdF; case hp => first | (simp; done) | (simp; omega)) | with_unfolding_all rfl))
              replace HP : Hd ((w18.setCell ⟨(w1.heap.size + 1 + 1), 0, none⟩ (.int .i64 (En.tabS (j + 1)).lo)).setCell ⟨(w1.heap.size + 1 + 1), 1, none⟩ (.int .i64 (En.tabS (j + 1)).hi)) w1.heap.size 23 #[.int .i64 1073741824, .int .i64 1073741824] := by (with_reducible repeat' (first | assumption | (apply hdN; (try simp only [sA, sS, sD]); done) | apply hdA | apply hdD | apply hdS | (apply hdF; case hp => first | (simp; done) | (simp; omega)) | with_unfolding_all rfl))
              replace HC : Hd ((w18.setCell ⟨(w1.heap.size + 1 + 1), 0, none⟩ (.int .i64 (En.tabS (j + 1)).lo)).setCell ⟨(w1.heap.size + 1 + 1), 1, none⟩ (.int .i64 (En.tabS (j + 1)).hi)) (w1.heap.size + 1) 23 #[.int .i64 (En.tabC (j + 1)).lo, .int .i64 (En.tabC (j + 1)).hi] := by (with_reducible repeat' (first | assumption | (apply hdN; (try simp only [sA, sS, sD]); done) | apply hdA | apply hdD | apply hdS | (apply hdF; case hp => first | (simp; done) | (simp; omega)) | with_unfolding_all rfl))
              replace HD : Hd ((w18.setCell ⟨(w1.heap.size + 1 + 1), 0, none⟩ (.int .i64 (En.tabS (j + 1)).lo)).setCell ⟨(w1.heap.size + 1 + 1), 1, none⟩ (.int .i64 (En.tabS (j + 1)).hi)) (w1.heap.size + 1 + 1) 23 #[.int .i64 (En.tabS (j + 1)).lo, .int .i64 (En.tabS (j + 1)).hi] := by (with_reducible repeat' (first | assumption | (apply hdN; (try simp only [sA, sS, sD]); done) | apply hdA | apply hdD | apply hdS | (apply hdF; case hp => first | (simp; done) | (simp; omega)) | with_unfolding_all rfl))
              replace bw : But g w ((w18.setCell ⟨(w1.heap.size + 1 + 1), 0, none⟩ (.int .i64 (En.tabS (j + 1)).lo)).setCell ⟨(w1.heap.size + 1 + 1), 1, none⟩ (.int .i64 (En.tabS (j + 1)).hi)) := by (with_reducible repeat' (first | assumption | exact But.refl _ _ | apply But.drew | apply But.alloc | (refine But.set ?_ ?hp _; case hp => first | (simp; done) | (simp; omega))))
              (try refine ⟨⟨HP, bw⟩, ?_⟩)
              repeat ((first | with_reducible apply fl_move | with_reducible apply fl_assign | ((with_reducible refine fl_soft (v := ?_) (fun w' hw' => ?_) ?_); rotate_left 1; (focus (obtain ⟨hP, hBw⟩ := hw'; obtain ⟨hcP, hfP⟩ := hP.facts; go_simp; (try with_reducible rfl); done)))); simp only [Act.put, Act.eval, List.setIfInBounds_toArray, List.set_cons_zero, List.set_cons_succ, Array.getD_eq_getD_getElem?, List.getElem?_toArray, List.getElem?_cons_zero, List.getElem?_cons_succ, Option.getD_some])
              refine fl_nil ?_
              go_wp2_with fail
              exact ⟨⟨j + 1, En.tabS (j + 1), kk + 1, by omega, by omega, (by rw [hkk]), Lib.hid (fun _ => rfl), HG, HO, HP, HC, HD, bw⟩, by simp only [intOf]; omega⟩
            · obtain ⟨hcC, hfC⟩ := HC.facts
              go_wp2_with fail
              (try refine ⟨⟨HP, bw⟩, ?_⟩)
              repeat ((first | with_reducible apply eag_move | with_reducible apply eag_assign | ((with_reducible refine eag_soft (v := ?_) (fun w' hw' => ?_) ?_); rotate_left 1; (focus (obtain ⟨hP, hBw⟩ := hw'; obtain ⟨hcP, hfP⟩ := hP.facts; go_simp; (try with_reducible rfl); done)))); simp only [Act.put, Act.eval, List.setIfInBounds_toArray, List.set_cons_zero, List.set_cons_succ, Array.getD_eq_getD_getElem?, List.getElem?_toArray, List.getElem?_cons_zero, List.getElem?_cons_succ, Option.getD_some])
              repeat ((first | with_reducible apply eag_move | with_reducible apply eag_assign | ((with_reducible refine eag_soft (v := ?_) (fun w' hw' => ?_) ?_); rotate_left 1; (focus (obtain ⟨hP, hBw⟩ := hw'; obtain ⟨hcP, hfP⟩ := hP.facts; go_simp; (try with_reducible rfl); done)))); simp only [Act.put, Act.eval, List.setIfInBounds_toArray, List.set_cons_zero, List.set_cons_succ, Array.getD_eq_getD_getElem?, List.getElem?_toArray, List.getElem?_cons_zero, List.getElem?_cons_succ, Option.getD_some])
              refine eag_hard ?_
              go_wp2_with fail
              refine (wroot_any g' (En.Sp.fit_of_ok HGO.out) HG0.out (Int.le_trans HG0.out (En.Sp.le_of_ok HGO.out)) 0 g _ HG).mono ?_
              rintro e w14 ⟨z14, e14, rfl, ok14, _, qq14, HG14, hb14⟩
              obtain ⟨rfl, rfl⟩ := qq14.sure HQ1.out
              clear ok14 qq14
              replace bw := bw.trans hb14
              replace HO := HO.but hb14 (by omega)
              replace HP := HP.but hb14 (by omega)
              replace HC := HC.but hb14 (by omega)
              replace HD := HD.but hb14 (by omega)
              replace HG := HG14
              clear HG14
              have lw14 : w.heap.size ≤ w14.heap.size := bw.size
              clear hb14
              go_wp2_with fail
              (try refine ⟨⟨HP, bw⟩, ?_⟩)
              repeat ((first | with_reducible apply eag_move | with_reducible apply eag_assign | ((with_reducible refine eag_soft (v := ?_) (fun w' hw' => ?_) ?_); rotate_left 1; (focus (obtain ⟨hP, hBw⟩ := hw'; obtain ⟨hcP, hfP⟩ := hP.facts; go_simp; (try with_reducible rfl); done)))); simp only [Act.put, Act.eval, List.setIfInBounds_toArray, List.set_cons_zero, List.set_cons_succ, Array.getD_eq_getD_getElem?, List.getElem?_toArray, List.getElem?_cons_zero, List.getElem?_cons_succ, Option.getD_some])
              refine eag_hard ?_
              go_wp2_with fail
              refine (wless_any En.one (En.tabC j) (En.Sp.fit_of_ok (s := En.one) (by decide)) (En.Sp.fit_of_ok (En.tab_ok j).1) 0 g _ HG).mono ?_
              rintro e w15 ⟨z15, e15, rfl, ok15, _, qq15, HG15, hb15⟩
              obtain ⟨rfl, rfl⟩ := qq15.sure HD1.out
              clear ok15 qq15
              replace bw := bw.trans hb15
              replace HO := HO.but hb15 (by omega)
              replace HP := HP.but hb15 (by omega)
              replace HC := HC.but hb15 (by omega)
              replace HD := HD.but hb15 (by omega)
              replace HG := HG15
              clear HG15
              have lw15 : w.heap.size ≤ w15.heap.size := bw.size
              clear hb15
              go_wp2_with fail
              (try refine ⟨⟨HP, bw⟩, ?_⟩)
              repeat ((first | with_reducible apply eag_move | with_reducible apply eag_assign | ((with_reducible refine eag_soft (v := ?_) (fun w' hw' => ?_) ?_); rotate_left 1; (focus (obtain ⟨hP, hBw⟩ := hw'; obtain ⟨hcP, hfP⟩ := hP.facts; go_simp; (try with_reducible rfl); done)))); simp only [Act.put, Act.eval, List.setIfInBounds_toArray, List.set_cons_zero, List.set_cons_succ, Array.getD_eq_getD_getElem?, List.getElem?_toArray, List.getElem?_cons_zero, List.getElem?_cons_succ, Option.getD_some])
              refine eag_hard ?_
              go_wp2_with fail
              refine (whalf_any d (En.Sp.fit_of_ok (En.sub_ok HD1.out)) 0 g _ HG).mono ?_
              rintro e w16 ⟨z16, e16, rfl, ok16, _, qq16, HG16, hb16⟩
              obtain ⟨rfl, rfl⟩ := qq16.sure HH1.out
              clear ok16 qq16
              replace bw := bw.trans hb16
              replace HO := HO.but hb16 (by omega)
              replace HP := HP.but hb16 (by omega)
              replace HC := HC.but hb16 (by omega)
              replace HD := HD.but hb16 (by omega)
              replace HG := HG16
              clear HG16
              have lw16 : w.heap.size ≤ w16.heap.size := bw.size
              clear hb16
              go_wp2_with fail
              (try refine ⟨⟨HP, bw⟩, ?_⟩)
              repeat ((first | with_reducible apply eag_move | with_reducible apply eag_assign | ((with_reducible refine eag_soft (v := ?_) (fun w' hw' => ?_) ?_); rotate_left 1; (focus (obtain ⟨hP, hBw⟩ := hw'; obtain ⟨hcP, hfP⟩ := hP.facts; go_simp; (try with_reducible rfl); done)))); simp only [Act.put, Act.eval, List.setIfInBounds_toArray, List.set_cons_zero, List.set_cons_succ, Array.getD_eq_getD_getElem?, List.getElem?_toArray, List.getElem?_cons_zero, List.getElem?_cons_succ, Option.getD_some])
              refine eag_hard ?_
              go_wp2_with fail
              refine (wroot_any hf0 (En.Sp.fit_of_ok HO1.out) H01.out (Int.le_trans H01.out (En.Sp.le_of_ok HO1.out)) 0 g _ HG).mono ?_
              rintro e w17 ⟨z17, e17, rfl, ok17, _, qq17, HG17, hb17⟩
              obtain ⟨rfl, rfl⟩ := qq17.sure HR1.out
              clear ok17 qq17
              replace bw := bw.trans hb17
              replace HO := HO.but hb17 (by omega)
              replace HP := HP.but hb17 (by omega)
              replace HC := HC.but hb17 (by omega)
              replace HD := HD.but hb17 (by omega)
              replace HG := HG17
              clear HG17
              have lw17 : w.heap.size ≤ w17.heap.size := bw.size
              clear hb17
              go_wp2_with fail
              (try refine ⟨⟨HP, bw⟩, ?_⟩)
              repeat ((first | with_reducible apply eag_move | with_reducible apply eag_assign | ((with_reducible refine eag_soft (v := ?_) (fun w' hw' => ?_) ?_); rotate_left 1; (focus (obtain ⟨hP, hBw⟩ := hw'; obtain ⟨hcP, hfP⟩ := hP.facts; go_simp; (try with_reducible rfl); done)))); simp only [Act.put, Act.eval, List.setIfInBounds_toArray, List.set_cons_zero, List.set_cons_succ, Array.getD_eq_getD_getElem?, List.getElem?_toArray, List.getElem?_cons_zero, List.getElem?_cons_succ, Option.getD_some])
              refine eag_hard ?_
              obtain ⟨hcC, hfC⟩ := HC.facts
              go_wp2_with fail
              have PG := HG
              have PO := HO
              have PP := HP
              have PC := HC
              have PD := HD
              have Pbw := bw
              replace HG : Hd ((w17.setCell ⟨(w1.heap.size + 1), 0, none⟩ (.int .i64 (En.tabC (j + 1)).lo)).setCell ⟨(w1.heap.size + 1), 1, none⟩ (.int .i64 (En.tabC (j + 1)).hi)) g 83 #[.int .i64 0] := by (with_reducible repeat' (first | assumption | (apply hdN; (try simp only [sA, sS, sD]); done) | apply hdA | apply hdD | apply hdS | (apply hdF; case hp => first | (simp; done) | (simp; omega)) | with_unfolding_all rfl))
              replace HO : Hd ((w17.setCell ⟨(w1.heap.size + 1), 0, none⟩ (.int .i64 (En.tabC (j + 1)).lo)).setCell ⟨(w1.heap.size + 1), 1, none⟩ (.int .i64 (En.tabC (j + 1)).hi)) w.heap.size 25 #[.int .i64 0, .int .i64 0, .int .i64 0, .int .i64 0] := by (with_reducible repeat' (first | assumption | (apply hdN; (try simp only [sA, sS, sD]); done) | apply hdA | apply hdD | apply hdS | (apply hdF; case hp => first | (simp; done) | (simp; omega)) | with_unfolding_all rfl))
              replace HP : Hd ((w17.setCell ⟨(w1.heap.size + 1), 0, none⟩ (.int .i64 (En.tabC (j + 1)).lo)).setCell ⟨(w1.heap.size + 1), 1, none⟩ (.int .i64 (En.tabC (j + 1)).hi)) w1.heap.size 23 #[.int .i64 1073741824, .int .i64 1073741824] := by (with_reducible repeat' (first | assumption | (apply hdN; (try simp only [sA, sS, sD]); done) | apply hdA | apply hdD | apply hdS | (apply hdF; case hp => first | (simp; done) | (simp; omega)) | with_unfolding_all rfl))
              replace HC : Hd ((w17.setCell ⟨(w1.heap.size + 1), 0, none⟩ (.int .i64 (En.tabC (j + 1)).lo)).setCell ⟨(w1.heap.size + 1), 1, none⟩ (.int .i64 (En.tabC (j + 1)).hi)) (w1.heap.size + 1) 23 #[.int .i64 (En.tabC (j + 1)).lo, .int .i64 (En.tabC (j + 1)).hi] := by (with_reducible repeat' (first | assumption | (apply hdN; (try simp only [sA, sS, sD]); done) | apply hdA | apply hdD | apply hdS | (apply hdF; case hp => first | (simp; done) | (simp; omega)) | with_unfolding_all rfl))
              replace HD : Hd ((w17.setCell ⟨(w1.heap.size + 1), 0, none⟩ (.int .i64 (En.tabC (j + 1)).lo)).setCell ⟨(w1.heap.size + 1), 1, none⟩ (.int .i64 (En.tabC (j + 1)).hi)) (w1.heap.size + 1 + 1) 23 #[.int .i64 sv.lo, .int .i64 sv.hi] := by (with_reducible repeat' (first | assumption | (apply hdN; (try simp only [sA, sS, sD]); done) | apply hdA | apply hdD | apply hdS | (apply hdF; case hp => first | (simp; done) | (simp; omega)) | with_unfolding_all rfl))
              replace bw : But g w ((w17.setCell ⟨(w1.heap.size + 1), 0, none⟩ (.int .i64 (En.tabC (j + 1)).lo)).setCell ⟨(w1.heap.size + 1), 1, none⟩ (.int .i64 (En.tabC (j + 1)).hi)) := by (with_reducible repeat' (first | assumption | exact But.refl _ _ | apply But.drew | apply But.alloc | (refine But.set ?_ ?hp _; case hp => first | (simp; done) | (simp; omega))))
              (try refine ⟨⟨HP, bw⟩, ?_⟩)
              repeat ((first | with_reducible apply eag_move | with_reducible apply eag_assign | ((with_reducible refine eag_soft (v := ?_) (fun w' hw' => ?_) ?_); rotate_left 1; (focus (obtain ⟨hP, hBw⟩ := hw'; obtain ⟨hcP, hfP⟩ := hP.facts; go_simp; (try with_reducible rfl); done)))); simp only [Act.put, Act.eval, List.setIfInBounds_toArray, List.set_cons_zero, List.set_cons_succ, Array.getD_eq_getD_getElem?, List.getElem?_toArray, List.getElem?_cons_zero, List.getElem?_cons_succ, Option.getD_some])
              refine eag_hard ?_
              generalize hW : (w17.setCell ⟨(w1.heap.size + 1), 0, none⟩ (.int .i64 (En.tabC (j + 1)).lo)).setCell ⟨(w1.heap.size + 1), 1, none⟩ (.int .i64 (En.tabC (j + 1)).hi) = w18 at HG HO HP HC HD bw ⊢
              clear hW
              have lw18 : w.heap.size ≤ w18.heap.size := bw.size
              obtain ⟨hcD, hfD⟩ := HD.facts
              go_wp2_with fail
              have PG := HG
              have PO := HO
              have PP := HP
              have PC := HC
              have PD := HD
              have Pbw := bw
              replace HG : Hd ((w18.setCell ⟨(w1.heap.size + 1 + 1), 0, none⟩ (.int .i64 (En.tabS (j + 1)).lo)).setCell ⟨(w1.heap.size + 1 + 1), 1, none⟩ (.int .i64 (En.tabS (j + 1)).hi)) g 83 #[.int .i64 0] := by (with_reducible repeat' (first | assumption | (apply hdN; (try simp only [sA, sS, sD]); done) | apply hdA | apply hdD | apply hdS | (apply hdF; case hp => first | (simp; done) | (simp; omega)) | with_unfolding_all rfl))
              replace HO : Hd ((w18.setCell ⟨(w1.heap.size + 1 + 1), 0, none⟩ (.int .i64 (En.tabS (j + 1)).lo)).setCell ⟨(w1.heap.size + 1 + 1), 1, none⟩ (.int .i64 (En.tabS (j + 1)).hi)) w.heap.size 25 #[.int .i64 0, .int .i64 0, .int .i64 0, .int .i64 0] := by (with_reducible repeat' (first | assumption | (apply hdN; (try simp only [sA, sS, sD]); done) | apply hdA | apply hdD | apply hdS | (apply hdF; case hp => first | (simp; done) | (simp; omega)) | with_unfolding_all rfl))
              replace HP : Hd ((w18.setCell ⟨(w1.heap.size + 1 + 1), 0, none⟩ (.int .i64 (En.tabS (j + 1)).lo)).setCell ⟨(w1.heap.size + 1 + 1), 1, none⟩ (.int .i64 (En.tabS (j + 1)).hi)) w1.heap.size 23 #[.int .i64 1073741824, .int .i64 1073741824] := by (with_reducible repeat' (first | assumption | (apply hdN; (try simp only [sA, sS, sD]); done) | apply hdA | apply hdD | apply hdS | (apply hdF; case hp => first | (simp; done) | (simp; omega)) | with_unfolding_all rfl))
              replace HC : Hd ((w18.setCell ⟨(w1.heap.size + 1 + 1), 0, none⟩ (.int .i64 (En.tabS (j + 1)).lo)).setCell ⟨(w1.heap.size + 1 + 1), 1, none⟩ (.int .i64 (En.tabS (j + 1)).hi)) (w1.heap.size + 1) 23 #[.int .i64 (En.tabC (j + 1)).lo, .int .i64 (En.tabC (j + 1)).hi] := by (with_reducible repeat' (first | assumption | (apply hdN; (try simp only [sA, sS, sD]); done) | apply hdA | apply hdD | apply hdS | (apply hdF; case hp => first | (simp; done) | (simp; omega)) | with_unfolding_all rfl))
              replace HD : Hd ((w18.setCell ⟨(w1.heap.size + 1 + 1), 0, none⟩ (.int .i64 (En.tabS (j + 1)).lo)).setCell ⟨(w1.heap.size + 1 + 1), 1, none⟩ (.int .i64 (En.tabS (j + 1)).hi)) (w1.heap.size + 1 + 1) 23 #[.int .i64 (En.tabS (j + 1)).lo, .int .i64 (En.tabS (j + 1)).hi] := by (with_reducible repeat' (first | assumption | (apply hdN; (try simp only [sA, sS, sD]); done) | apply hdA | apply hdD | apply hdS | (apply hdF; case hp => first | (simp; done) | (simp; omega)) | with_unfolding_all rfl))
              replace bw : But g w ((w18.setCell ⟨(w1.heap.size + 1 + 1), 0, none⟩ (.int .i64 (En.tabS (j + 1)).lo)).setCell ⟨(w1.heap.size + 1 + 1), 1, none⟩ (.int .i64 (En.tabS (j + 1)).hi)) := by (with_reducible repeat' (first | assumption | exact But.refl _ _ | apply But.drew | apply But.alloc | (refine But.set ?_ ?hp _; case hp => first | (simp; done) | (simp; omega))))
              (try refine ⟨⟨HP, bw⟩, ?_⟩)
              repeat ((first | with_reducible apply eag_move | with_reducible apply eag_assign | ((with_reducible refine eag_soft (v := ?_) (fun w' hw' => ?_) ?_); rotate_left 1; (focus (obtain ⟨hP, hBw⟩ := hw'; obtain ⟨hcP, hfP⟩ := hP.facts; go_simp; (try with_reducible rfl); done)))); simp only [Act.put, Act.eval, List.setIfInBounds_toArray, List.set_cons_zero, List.set_cons_succ, Array.getD_eq_getD_getElem?, List.getElem?_toArray, List.getElem?_cons_zero, List.getElem?_cons_succ, Option.getD_some])
              refine eag_nil ?_
              go_wp2_with fail
              exact ⟨⟨j + 1, En.tabS (j + 1), kk + 1, by omega, by omega, (by rw [hkk]), Lib.hid (fun _ => rfl), HG, HO, HP, HC, HD, bw⟩, by simp only [intOf]; omega⟩
          · obtain ⟨hcC, hfC⟩ := HC.facts
            go_wp2_with fail
            (try refine ⟨⟨HP, bw⟩, ?_⟩)
            repeat ((first | with_reducible apply eag_move | with_reducible apply eag_assign | ((with_reducible refine eag_soft (v := ?_) (fun w' hw' => ?_) ?_); rotate_left 1; (focus (obtain ⟨hP, hBw⟩ := hw'; obtain ⟨hcP, hfP⟩ := hP.facts; go_simp; (try with_reducible rfl); done)))); simp only [Act.put, Act.eval, List.setIfInBounds_toArray, List.set_cons_zero, List.set_cons_succ, Array.getD_eq_getD_getElem?, List.getElem?_toArray, List.getElem?_cons_zero, List.getElem?_cons_succ, Option.getD_some])
            repeat ((first | with_reducible apply eag_move | with_reducible apply eag_assign | ((with_reducible refine eag_soft (v := ?_) (fun w' hw' => ?_) ?_); rotate_left 1; (focus (obtain ⟨hP, hBw⟩ := hw'; obtain ⟨hcP, hfP⟩ := hP.facts; go_simp; (try with_reducible rfl); done)))); simp only [Act.put, Act.eval, List.setIfInBounds_toArray, List.set_cons_zero, List.set_cons_succ, Array.getD_eq_getD_getElem?, List.getElem?_toArray, List.getElem?_cons_zero, List.getElem?_cons_succ, Option.getD_some])
            refine eag_hard ?_
            go_wp2_with fail
            refine (whalf_any ep (En.Sp.fit_of_ok (En.add_ok HE1.out)) 0 g _ HG).mono ?_
            rintro e w13 ⟨z13, e13, rfl, ok13, _, qq13, HG13, hb13⟩
            obtain ⟨rfl, rfl⟩ := qq13.sure HG1.out
            clear ok13 qq13
            replace bw := bw.trans hb13
            replace HO := HO.but hb13 (by omega)
            replace HP := HP.but hb13 (by omega)
            replace HC := HC.but hb13 (by omega)
            replace HD := HD.but hb13 (by omega)
            replace HG := HG13
            clear HG13
            have lw13 : w.heap.size ≤ w13.heap.size := bw.size
            clear hb13
            go_wp2_with fail
            (try refine ⟨⟨HP, bw⟩, ?_⟩)
            repeat ((first | with_reducible apply eag_move | with_reducible apply eag_assign | ((with_reducible refine eag_soft (v := ?_) (fun w' hw' => ?_) ?_); rotate_left 1; (focus (obtain ⟨hP, hBw⟩ := hw'; obtain ⟨hcP, hfP⟩ := hP.facts; go_simp; (try with_reducible rfl); done)))); simp only [Act.put, Act.eval, List.setIfInBounds_toArray, List.set_cons_zero, List.set_cons_succ, Array.getD_eq_getD_getElem?, List.getElem?_toArray, List.getElem?_cons_zero, List.getElem?_cons_succ, Option.getD_some])
            refine eag_hard ?_
            go_wp2_with fail
            refine (wroot_any g' (En.Sp.fit_of_ok HGO.out) HG0.out (Int.le_trans HG0.out (En.Sp.le_of_ok HGO.out)) 0 g _ HG).mono ?_
            rintro e w14 ⟨z14, e14, rfl, ok14, _, qq14, HG14, hb14⟩
            obtain ⟨rfl, rfl⟩ := qq14.sure HQ1.out
            clear ok14 qq14
            replace bw := bw.trans hb14
            replace HO := HO.but hb14 (by omega)
            replace HP := HP.but hb14 (by omega)
            replace HC := HC.but hb14 (by omega)
            replace HD := HD.but hb14 (by omega)
            replace HG := HG14
            clear HG14
            have lw14 : w.heap.size ≤ w14.heap.size := bw.size
            clear hb14
            go_wp2_with fail
            (try refine ⟨⟨HP, bw⟩, ?_⟩)
            repeat ((first | with_reducible apply eag_move | with_reducible apply eag_assign | ((with_reducible refine eag_soft (v := ?_) (fun w' hw' => ?_) ?_); rotate_left 1; (focus (obtain ⟨hP, hBw⟩ := hw'; obtain ⟨hcP, hfP⟩ := hP.facts; go_simp; (try with_reducible rfl); done)))); simp only [Act.put, Act.eval, List.setIfInBounds_toArray, List.set_cons_zero, List.set_cons_succ, Array.getD_eq_getD_getElem?, List.getElem?_toArray, List.getElem?_cons_zero, List.getElem?_cons_succ, Option.getD_some])
            refine eag_hard ?_
            go_wp2_with fail
            refine (wless_any En.one (En.tabC j) (En.Sp.fit_of_ok (s := En.one) (by decide)) (En.Sp.fit_of_ok (En.tab_ok j).1) 0 g _ HG).mono ?_
            rintro e w15 ⟨z15, e15, rfl, ok15, _, qq15, HG15, hb15⟩
            obtain ⟨rfl, rfl⟩ := qq15.sure HD1.out
            clear ok15 qq15
            replace bw := bw.trans hb15
            replace HO := HO.but hb15 (by omega)
            replace HP := HP.but hb15 (by omega)
            replace HC := HC.but hb15 (by omega)
            replace HD := HD.but hb15 (by omega)
            replace HG := HG15
            clear HG15
            have lw15 : w.heap.size ≤ w15.heap.size := bw.size
            clear hb15
            go_wp2_with fail
            (try refine ⟨⟨HP, bw⟩, ?_⟩)
            repeat ((first | with_reducible apply eag_move | with_reducible apply eag_assign | ((with_reducible refine eag_soft (v := ?_) (fun w' hw' => ?_) ?_); rotate_left 1; (focus (obtain ⟨hP, hBw⟩ := hw'; obtain ⟨hcP, hfP⟩ := hP.facts; go_simp; (try with_reducible rfl); done)))); simp only [Act.put, Act.eval, List.setIfInBounds_toArray, List.set_cons_zero, List.set_cons_succ, Array.getD_eq_getD_getElem?, List.getElem?_toArray, List.getElem?_cons_zero, List.getElem?_cons_succ, Option.getD_some])
            refine eag_hard ?_
            go_wp2_with fail
            refine (whalf_any d (En.Sp.fit_of_ok (En.sub_ok HD1.out)) 0 g _ HG).mono ?_
            rintro e w16 ⟨z16, e16, rfl, ok16, _, qq16, HG16, hb16⟩
            obtain ⟨rfl, rfl⟩ := qq16.sure HH1.out
            clear ok16 qq16
            replace bw := bw.trans hb16
            replace HO := HO.but hb16 (by omega)
            replace HP := HP.but hb16 (by omega)
            replace HC := HC.but hb16 (by omega)
            replace HD := HD.but hb16 (by omega)
            replace HG := HG16
            clear HG16
            have lw16 : w.heap.size ≤ w16.heap.size := bw.size
            clear hb16
            go_wp2_with fail
            (try refine ⟨⟨HP, bw⟩, ?_⟩)
            repeat ((first | with_reducible apply eag_move | with_reducible apply eag_assign | ((with_reducible refine eag_soft (v := ?_) (fun w' hw' => ?_) ?_); rotate_left 1; (focus (obtain ⟨hP, hBw⟩ := hw'; obtain ⟨hcP, hfP⟩ := hP.facts; go_simp; (try with_reducible rfl); done)))); simp only [Act.put, Act.eval, List.setIfInBounds_toArray, List.set_cons_zero, List.set_cons_succ, Array.getD_eq_getD_getElem?, List.getElem?_toArray, List.getElem?_cons_zero, List.getElem?_cons_succ, Option.getD_some])
            refine eag_hard ?_
            go_wp2_with fail
            refine (wroot_any hf0 (En.Sp.fit_of_ok HO1.out) H01.out (Int.le_trans H01.out (En.Sp.le_of_ok HO1.out)) 0 g _ HG).mono ?_
            rintro e w17 ⟨z17, e17, rfl, ok17, _, qq17, HG17, hb17⟩
            obtain ⟨rfl, rfl⟩ := qq17.sure HR1.out
            clear ok17 qq17
            replace bw := bw.trans hb17
            replace HO := HO.but hb17 (by omega)
            replace HP := HP.but hb17 (by omega)
            replace HC := HC.but hb17 (by omega)
            replace HD := HD.but hb17 (by omega)
            replace HG := HG17
            clear HG17
            have lw17 : w.heap.size ≤ w17.heap.size := bw.size
            clear hb17
            go_wp2_with fail
            (try refine ⟨⟨HP, bw⟩, ?_⟩)
            repeat ((first | with_reducible apply eag_move | with_reducible apply eag_assign | ((with_reducible refine eag_soft (v := ?_) (fun w' hw' => ?_) ?_); rotate_left 1; (focus (obtain ⟨hP, hBw⟩ := hw'; obtain ⟨hcP, hfP⟩ := hP.facts; go_simp; (try with_reducible rfl); done)))); simp only [Act.put, Act.eval, List.setIfInBounds_toArray, List.set_cons_zero, List.set_cons_succ, Array.getD_eq_getD_getElem?, List.getElem?_toArray, List.getElem?_cons_zero, List.getElem?_cons_succ, Option.getD_some])
            refine eag_hard ?_
            obtain ⟨hcC, hfC⟩ := HC.facts
            go_wp2_with fail
            have PG := HG
            have PO := HO
            have PP := HP
            have PC := HC
            have PD := HD
            have Pbw := bw
            replace HG : Hd ((w17.setCell ⟨(w1.heap.size + 1), 0, none⟩ (.int .i64 (En.tabC (j + 1)).lo)).setCell ⟨(w1.heap.size + 1), 1, none⟩ (.int .i64 (En.tabC (j + 1)).hi)) g 83 #[.int .i64 0] := by (with_reducible repeat' (first | assumption | (apply hdN; (try simp only [sA, sS, sD]); done) | apply hdA | apply hdD | apply hdS | (apply hdF; case hp => first | (simp; done) | (simp; omega)) | with_unfolding_all rfl))
            replace HO : Hd ((w17.setCell ⟨(w1.heap.size + 1), 0, none⟩ (.int .i64 (En.tabC (j + 1)).lo)).setCell ⟨(w1.heap.size + 1), 1, none⟩ (.int .i64 (En.tabC (j + 1)).hi)) w.heap.size 25 #[.int .i64 0, .int .i64 0, .int .i64 0, .int .i64 0] := by (with_reducible repeat' (first | assumption | (apply hdN; (try simp only [sA, sS, sD]); done) | apply hdA | apply hdD | apply hdS | (apply hdF; case hp => first | (simp; done) | (simp; omega)) | with_unfolding_all rfl))
            replace HP : Hd ((w17.setCell ⟨(w1.heap.size + 1), 0, none⟩ (.int .i64 (En.tabC (j + 1)).lo)).setCell ⟨(w1.heap.size + 1), 1, none⟩ (.int .i64 (En.tabC (j + 1)).hi)) w1.heap.size 23 #[.int .i64 1073741824, .int .i64 1073741824] := by (with_reducible repeat' (first | assumption | (apply hdN; (try simp only [sA, sS, sD]); done) | apply hdA | apply hdD | apply hdS | (apply hdF; case hp => first | (simp; done) | (simp; omega)) | with_unfolding_all rfl))
            replace HC : Hd ((w17.setCell ⟨(w1.heap.size + 1), 0, none⟩ (.int .i64 (En.tabC (j + 1)).lo)).setCell ⟨(w1.heap.size + 1), 1, none⟩ (.int .i64 (En.tabC (j + 1)).hi)) (w1.heap.size + 1) 23 #[.int .i64 (En.tabC (j + 1)).lo, .int .i64 (En.tabC (j + 1)).hi] := by (with_reducible repeat' (first | assumption | (apply hdN; (try simp only [sA, sS, sD]); done) | apply hdA | apply hdD | apply hdS | (apply hdF; case hp => first | (simp; done) | (simp; omega)) | with_unfolding_all rfl))
            replace HD : Hd ((w17.setCell ⟨(w1.heap.size + 1), 0, none⟩ (.int .i64 (En.tabC (j + 1)).lo)).setCell ⟨(w1.heap.size + 1), 1, none⟩ (.int .i64 (En.tabC (j + 1)).hi)) (w1.heap.size + 1 + 1) 23 #[.int .i64 sv.lo, .int .i64 sv.hi] := by (with_reducible repeat' (first | assumption | (apply hdN; (try simp only [sA, sS, sD]); done) | apply hdA | apply hdD | apply hdS | (apply hdF; case hp => first | (simp; done) | (simp; omega)) | with_unfolding_all rfl))
            replace bw : But g w ((w17.setCell ⟨(w1.heap.size + 1), 0, none⟩ (.int .i64 (En.tabC (j + 1)).lo)).setCell ⟨(w1.heap.size + 1), 1, none⟩ (.int .i64 (En.tabC (j + 1)).hi)) := by (with_reducible repeat' (first | assumption | exact But.refl _ _ | apply But.drew | apply But.alloc | (refine But.set ?_ ?hp _; case hp => first | (simp; done) | (simp; omega))))
            (try refine ⟨⟨HP, bw⟩, ?_⟩)
            repeat ((first | with_reducible apply eag_move | with_reducible apply eag_assign | ((with_reducible refine eag_soft (v := ?_) (fun w' hw' => ?_) ?_); rotate_left 1; (focus (obtain ⟨hP, hBw⟩ := hw'; obtain ⟨hcP, hfP⟩ := hP.facts; go_simp; (try with_reducible rfl); done)))); simp only [Act.put, Act.eval, List.setIfInBounds_toArray, List.set_cons_zero, List.set_cons_succ, Array.getD_eq_getD_getElem?, List.getElem?_toArray, List.getElem?_cons_zero, List.getElem?_cons_succ, Option.getD_some])
            refine eag_hard ?_
            generalize hW : (w17.setCell ⟨(w1.heap.size + 1), 0, none⟩ (.int .i64 (En.tabC (j + 1)).lo)).setCell ⟨(w1.heap.size + 1), 1, none⟩ (.int .i64 (En.tabC (j + 1)).hi) = w18 at HG HO HP HC HD bw ⊢
            clear hW
            have lw18 : w.heap.size ≤ w18.heap.size := bw.size
            obtain ⟨hcD, hfD⟩ := HD.facts
            go_wp2_with fail
            have PG := HG
            have PO := HO
            have PP := HP
            have PC := HC
            have PD := HD
            have Pbw := bw
            replace HG : Hd ((w18.setCell ⟨(w1.heap.size + 1 + 1), 0, none⟩ (.int .i64 (En.tabS (j + 1)).lo)).setCell ⟨(w1.heap.size + 1 + 1), 1, none⟩ (.int .i64 (En.tabS (j + 1)).hi)) g 83 #[.int .i64 0] := by (with_reducible repeat' (first | assumption | (apply hdN; (try simp only [sA, sS, sD]); done) | apply hdA | apply hdD | apply hdS | (apply hdF; case hp => first | (simp; done) | (simp; omega)) | with_unfolding_all rfl))
            replace HO : Hd ((w18.setCell ⟨(w1.heap.size + 1 + 1), 0, none⟩ (.int .i64 (En.tabS (j + 1)).lo)).setCell ⟨(w1.heap.size + 1 + 1), 1, none⟩ (.int .i64 (En.tabS (j + 1)).hi)) w.heap.size 25 #[.int .i64 0, .int .i64 0, .int .i64 0, .int .i64 0] := by (with_reducible repeat' (first | assumption | (apply hdN; (try simp only [sA, sS, sD]); done) | apply hdA | apply hdD | apply hdS | (apply hdF; case hp => first | (simp; done) | (simp; omega)) | with_unfolding_all rfl))
            replace HP : Hd ((w18.setCell ⟨(w1.heap.size + 1 + 1), 0, none⟩ (.int .i64 (En.tabS (j + 1)).lo)).setCell ⟨(w1.heap.size + 1 + 1), 1, none⟩ (.int .i64 (En.tabS (j + 1)).hi)) w1.heap.size 23 #[.int .i64 1073741824, .int .i64 1073741824] := by (with_reducible repeat' (first | assumption | (apply hdN; (try simp only [sA, sS, sD]); done) | apply hdA | apply hdD | apply hdS | (apply hdF; case hp => first | (simp; done) | (simp; omega)) | with_unfolding_all rfl))
            replace HC : Hd ((w18.setCell ⟨(w1.heap.size + 1 + 1), 0, none⟩ (.int .i64 (En.tabS (j + 1)).lo)).setCell ⟨(w1.heap.size + 1 + 1), 1, none⟩ (.int .i64 (En.tabS (j + 1)).hi)) (w1.heap.size + 1) 23 #[.int .i64 (En.tabC (j + 1)).lo, .int .i64 (En.tabC (j + 1)).hi] := by (with_reducible repeat' (first | assumption | (apply hdN; (try simp only [sA, sS, sD]); done) | apply hdA | apply hdD | apply hdS | (apply hdF; case hp => first | (simp; done) | (simp; omega)) | with_unfolding_all rfl))
            replace HD : Hd ((w18.setCell ⟨(w1.heap.size + 1 + 1), 0, none⟩ (.int .i64 (En.tabS (j + 1)).lo)).setCell ⟨(w1.heap.size + 1 + 1), 1, none⟩ (.int .i64 (En.tabS (j + 1)).hi)) (w1.heap.size + 1 + 1) 23 #[.int .i64 (En.tabS (j + 1)).lo, .int .i64 (En.tabS (j + 1)).hi] := by (with_reducible repeat' (first | assumption | (apply hdN; (try simp only [sA, sS, sD]); done) | apply hdA | apply hdD | apply hdS | (apply hdF; case hp => first | (simp; done) | (simp; omega)) | with_unfolding_all rfl))
            replace bw : But g w ((w18.setCell ⟨(w1.heap.size + 1 + 1), 0, none⟩ (.int .i64 (En.tabS (j + 1)).lo)).setCell ⟨(w1.heap.size + 1 + 1), 1, none⟩ (.int .i64 (En.tabS (j + 1)).hi)) := by (with_reducible repeat' (first | assumption | exact But.refl _ _ | apply But.drew | apply But.alloc | (refine But.set ?_ ?hp _; case hp => first | (simp; done) | (simp; omega))))
            (try refine ⟨⟨HP, bw⟩, ?_⟩)
            repeat ((first | with_reducible apply eag_move | with_reducible apply eag_assign | ((with_reducible refine eag_soft (v := ?_) (fun w' hw' => ?_) ?_); rotate_left 1; (focus (obtain ⟨hP, hBw⟩ := hw'; obtain ⟨hcP, hfP⟩ := hP.facts; go_simp; (try with_reducible rfl); done)))); simp only [Act.put, Act.eval, List.setIfInBounds_toArray, List.set_cons_zero, List.set_cons_succ, Array.getD_eq_getD_getElem?, List.getElem?_toArray, List.getElem?_cons_zero, List.getElem?_cons_succ, Option.getD_some])
            refine eag_nil ?_
            go_wp2_with fail
            exact ⟨⟨j + 1, En.tabS (j + 1), kk + 1, by omega, by omega, (by rw [hkk]), Lib.hid (fun _ => rfl), HG, HO, HP, HC, HD, bw⟩, by simp only [intOf]; omega⟩
        · obtain ⟨hcC, hfC⟩ := HC.facts
          go_wp2_with fail
          (try refine ⟨⟨HP, bw⟩, ?_⟩)
          repeat ((first | with_reducible apply eag_move | with_reducible apply eag_assign | ((with_reducible refine eag_soft (v := ?_) (fun w' hw' => ?_) ?_); rotate_left 1; (focus (obtain ⟨hP, hBw⟩ := hw'; obtain ⟨hcP, hfP⟩ := hP.facts; go_simp; (try with_reducible rfl); done)))); simp only [Act.put, Act.eval, List.setIfInBounds_toArray, List.set_cons_zero, List.set_cons_succ, Array.getD_eq_getD_getElem?, List.getElem?_toArray, List.getElem?_cons_zero, List.getElem?_cons_succ, Option.getD_some])
          repeat ((first | with_reducible apply eag_move | with_reducible apply eag_assign | ((with_reducible refine eag_soft (v := ?_) (fun w' hw' => ?_) ?_); rotate_left 1; (focus (obtain ⟨hP, hBw⟩ := hw'; obtain ⟨hcP, hfP⟩ := hP.facts; go_simp; (try with_reducible rfl); done)))); simp only [Act.put, Act.eval, List.setIfInBounds_toArray, List.set_cons_zero, List.set_cons_succ, Array.getD_eq_getD_getElem?, List.getElem?_toArray, List.getElem?_cons_zero, List.getElem?_cons_succ, Option.getD_some])
          refine eag_hard ?_
          go_wp2_with fail
          refine (wsum_any En.one (En.tabC j) (En.Sp.fit_of_ok (s := En.one) (by decide)) (En.Sp.fit_of_ok (En.tab_ok j).1) 0 g _ HG).mono ?_
          rintro e w12 ⟨z12, e12, rfl, ok12, _, qq12, HG12, hb12⟩
          obtain ⟨rfl, rfl⟩ := qq12.sure HE1.out
          clear ok12 qq12
          replace bw := bw.trans hb12
          replace HO := HO.but hb12 (by omega)
          replace HP := HP.but hb12 (by omega)
          replace HC := HC.but hb12 (by omega)
          replace HD := HD.but hb12 (by omega)
          replace HG := HG12
          clear HG12
          have lw12 : w.heap.size ≤ w12.heap.size := bw.size
          clear hb12
          go_wp2_with fail
          (try refine ⟨⟨HP, bw⟩, ?_⟩)
          repeat ((first | with_reducible apply eag_move | with_reducible apply eag_assign | ((with_reducible refine eag_soft (v := ?_) (fun w' hw' => ?_) ?_); rotate_left 1; (focus (obtain ⟨hP, hBw⟩ := hw'; obtain ⟨hcP, hfP⟩ := hP.facts; go_simp; (try with_reducible rfl); done)))); simp only [Act.put, Act.eval, List.setIfInBounds_toArray, List.set_cons_zero, List.set_cons_succ, Array.getD_eq_getD_getElem?, List.getElem?_toArray, List.getElem?_cons_zero, List.getElem?_cons_succ, Option.getD_some])
          refine eag_hard ?_
          go_wp2_with fail
          refine (whalf_any ep (En.Sp.fit_of_ok (En.add_ok HE1.out)) 0 g _ HG).mono ?_
          rintro e w13 ⟨z13, e13, rfl, ok13, _, qq13, HG13, hb13⟩
          obtain ⟨rfl, rfl⟩ := qq13.sure HG1.out
          clear ok13 qq13
          replace bw := bw.trans hb13
          replace HO := HO.but hb13 (by omega)
          replace HP := HP.but hb13 (by omega)
          replace HC := HC.but hb13 (by omega)
          replace HD := HD.but hb13 (by omega)
          replace HG := HG13
          clear HG13
          have lw13 : w.heap.size ≤ w13.heap.size := bw.size
          clear hb13
          go_wp2_with fail
          (try refine ⟨⟨HP, bw⟩, ?_⟩)
          repeat ((first | with_reducible apply eag_move | with_reducible apply eag_assign | ((with_reducible refine eag_soft (v := ?_) (fun w' hw' => ?_) ?_); rotate_left 1; (focus (obtain ⟨hP, hBw⟩ := hw'; obtain ⟨hcP, hfP⟩ := hP.facts; go_simp; (try with_reducible rfl); done)))); simp only [Act.put, Act.eval, List.setIfInBounds_toArray, List.set_cons_zero, List.set_cons_succ, Array.getD_eq_getD_getElem?, List.getElem?_toArray, List.getElem?_cons_zero, List.getElem?_cons_succ, Option.getD_some])
          refine eag_hard ?_
          go_wp2_with fail
          refine (wroot_any g' (En.Sp.fit_of_ok HGO.out) HG0.out (Int.le_trans HG0.out (En.Sp.le_of_ok HGO.out)) 0 g _ HG).mono ?_
          rintro e w14 ⟨z14, e14, rfl, ok14, _, qq14, HG14, hb14⟩
          obtain ⟨rfl, rfl⟩ := qq14.sure HQ1.out
          clear ok14 qq14
          replace bw := bw.trans hb14
          replace HO := HO.but hb14 (by omega)
          replace HP := HP.but hb14 (by omega)
          replace HC := HC.but hb14 (by omega)
          replace HD := HD.but hb14 (by omega)
          replace HG := HG14
          clear HG14
          have lw14 : w.heap.size ≤ w14.heap.size := bw.size
          clear hb14
          go_wp2_with fail
          (try refine ⟨⟨HP, bw⟩, ?_⟩)
          repeat ((first | with_reducible apply eag_move | with_reducible apply eag_assign | ((with_reducible refine eag_soft (v := ?_) (fun w' hw' => ?_) ?_); rotate_left 1; (focus (obtain ⟨hP, hBw⟩ := hw'; obtain ⟨hcP, hfP⟩ := hP.facts; go_simp; (try with_reducible rfl); done)))); simp only [Act.put, Act.eval, List.setIfInBounds_toArray, List.set_cons_zero, List.set_cons_succ, Array.getD_eq_getD_getElem?, List.getElem?_toArray, List.getElem?_cons_zero, List.getElem?_cons_succ, Option.getD_some])
          refine eag_hard ?_
          go_wp2_with fail
          refine (wless_any En.one (En.tabC j) (En.Sp.fit_of_ok (s := En.one) (by decide)) (En.Sp.fit_of_ok (En.tab_ok j).1) 0 g _ HG).mono ?_
          rintro e w15 ⟨z15, e15, rfl, ok15, _, qq15, HG15, hb15⟩
          obtain ⟨rfl, rfl⟩ := qq15.sure HD1.out
          clear ok15 qq15
          replace bw := bw.trans hb15
          replace HO := HO.but hb15 (by omega)
          replace HP := HP.but hb15 (by omega)
          replace HC := HC.but hb15 (by omega)
          replace HD := HD.but hb15 (by omega)
          replace HG := HG15
          clear HG15
          have lw15 : w.heap.size ≤ w15.heap.size := bw.size
          clear hb15
          go_wp2_with fail
          (try refine ⟨⟨HP, bw⟩, ?_⟩)
          repeat ((first | with_reducible apply eag_move | with_reducible apply eag_assign | ((with_reducible refine eag_soft (v := ?_) (fun w' hw' => ?_) ?_); rotate_left 1; (focus (obtain ⟨hP, hBw⟩ := hw'; obtain ⟨hcP, hfP⟩ := hP.facts; go_simp; (try with_reducible rfl); done)))); simp only [Act.put, Act.eval, List.setIfInBounds_toArray, List.set_cons_zero, List.set_cons_succ, Array.getD_eq_getD_getElem?, List.getElem?_toArray, List.getElem?_cons_zero, List.getElem?_cons_succ, Option.getD_some])
          refine eag_hard ?_
          go_wp2_with fail
          refine (whalf_any d (En.Sp.fit_of_ok (En.sub_ok HD1.out)) 0 g _ HG).mono ?_
          rintro e w16 ⟨z16, e16, rfl, ok16, _, qq16, HG16, hb16⟩
          obtain ⟨rfl, rfl⟩ := qq16.sure HH1.out
          clear ok16 qq16
          replace bw := bw.trans hb16
          replace HO := HO.but hb16 (by omega)
          replace HP := HP.but hb16 (by omega)
          replace HC := HC.but hb16 (by omega)
          replace HD := HD.but hb16 (by omega)
          replace HG := HG16
          clear HG16
          have lw16 : w.heap.size ≤ w16.heap.size := bw.size
          clear hb16
          go_wp2_with fail
          (try refine ⟨⟨HP, bw⟩, ?_⟩)
          repeat ((first | with_reducible apply eag_move | with_reducible apply eag_assign | ((with_reducible refine eag_soft (v := ?_) (fun w' hw' => ?_) ?_); rotate_left 1; (focus (obtain ⟨hP, hBw⟩ := hw'; obtain ⟨hcP, hfP⟩ := hP.facts; go_simp; (try with_reducible rfl); done)))); simp only [Act.put, Act.eval, List.setIfInBounds_toArray, List.set_cons_zero, List.set_cons_succ, Array.getD_eq_getD_getElem?, List.getElem?_toArray, List.getElem?_cons_zero, List.getElem?_cons_succ, Option.getD_some])
          refine eag_hard ?_
          go_wp2_with fail
          refine (wroot_any hf0 (En.Sp.fit_of_ok HO1.out) H01.out (Int.le_trans H01.out (En.Sp.le_of_ok HO1.out)) 0 g _ HG).mono ?_
          rintro e w17 ⟨z17, e17, rfl, ok17, _, qq17, HG17, hb17⟩
          obtain ⟨rfl, rfl⟩ := qq17.sure HR1.out
          clear ok17 qq17
          replace bw := bw.trans hb17
          replace HO := HO.but hb17 (by omega)
          replace HP := HP.but hb17 (by omega)
          replace HC := HC.but hb17 (by omega)
          replace HD := HD.but hb17 (by omega)
          replace HG := HG17
          clear HG17
          have lw17 : w.heap.size ≤ w17.heap.size := bw.size
          clear hb17
          go_wp2_with fail
          (try refine ⟨⟨HP, bw⟩, ?_⟩)
          repeat ((first | with_reducible apply eag_move | with_reducible apply eag_assign | ((with_reducible refine eag_soft (v := ?_) (fun w' hw' => ?_) ?_); rotate_left 1; (focus (obtain ⟨hP, hBw⟩ := hw'; obtain ⟨hcP, hfP⟩ := hP.facts; go_simp; (try with_reducible rfl); done)))); simp only [Act.put, Act.eval, List.setIfInBounds_toArray, List.set_cons_zero, List.set_cons_succ, Array.getD_eq_getD_getElem?, List.getElem?_toArray, List.getElem?_cons_zero, List.getElem?_cons_succ, Option.getD_some])
          refine eag_hard ?_
          obtain ⟨hcC, hfC⟩ := HC.facts
          go_wp2_with fail
          have PG := HG
          have PO := HO
          have PP := HP
          have PC := HC
          have PD := HD
          have Pbw := bw
          replace HG : Hd ((w17.setCell ⟨(w1.heap.size + 1), 0, none⟩ (.int .i64 (En.tabC (j + 1)).lo)).setCell ⟨(w1.heap.size + 1), 1, none⟩ (.int .i64 (En.tabC (j + 1)).hi)) g 83 #[.int .i64 0] := by (with_reducible repeat' (first | assumption | (apply hdN; (try simp only [sA, sS, sD]); done) | apply hdA | apply hdD | apply hdS | (apply hdF; case hp => first | (simp; done) | (simp; omega)) | with_unfolding_all rfl))
          replace HO : Hd ((w17.setCell ⟨(w1.heap.size + 1), 0, none⟩ (.int .i64 (En.tabC (j + 1)).lo)).setCell ⟨(w1.heap.size + 1), 1, none⟩ (.int .i64 (En.tabC (j + 1)).hi)) w.heap.size 25 #[.int .i64 0, .int .i64 0, .int .i64 0, .int .i64 0] := by (with_reducible repeat' (first | assumption | (apply hdN; (try simp only [sA, sS, sD]); done) | apply hdA | apply hdD | apply hdS | (apply hdF; case hp => first | (simp; done) | (simp; omega)) | with_unfolding_all rfl))
          replace HP : Hd ((w17.setCell ⟨(w1.heap.size + 1), 0, none⟩ (.int .i64 (En.tabC (j + 1)).lo)).setCell ⟨(w1.heap.size + 1), 1, none⟩ (.int .i64 (En.tabC (j + 1)).hi)) w1.heap.size 23 #[.int .i64 1073741824, .int .i64 1073741824] := by (with_reducible repeat' (first | assumption | (apply hdN; (try simp only [sA, sS, sD]); done) | apply hdA | apply hdD | apply hdS | (apply hdF; case hp => first | (simp; done) | (simp; omega)) | with_unfolding_all rfl))
          replace HC : Hd ((w17.setCell ⟨(w1.heap.size + 1), 0, none⟩ (.int .i64 (En.tabC (j + 1)).lo)).setCell ⟨(w1.heap.size + 1), 1, none⟩ (.int .i64 (En.tabC (j + 1)).hi)) (w1.heap.size + 1) 23 #[.int .i64 (En.tabC (j + 1)).lo, .int .i64 (En.tabC (j + 1)).hi] := by (with_reducible repeat' (first | assumption | (apply hdN; (try simp only [sA, sS, sD]); done) | apply hdA | apply hdD | apply hdS | (apply hdF; case hp => first | (simp; done) | (simp; omega)) | with_unfolding_all rfl))
          replace HD : Hd ((w17.setCell ⟨(w1.heap.size + 1), 0, none⟩ (.int .i64 (En.tabC (j + 1)).lo)).setCell ⟨(w1.heap.size + 1), 1, none⟩ (.int .i64 (En.tabC (j + 1)).hi)) (w1.heap.size + 1 + 1) 23 #[.int .i64 sv.lo, .int .i64 sv.hi] := by (with_reducible repeat' (first | assumption | (apply hdN; (try simp only [sA, sS, sD]); done) | apply hdA | apply hdD | apply hdS | (apply hdF; case hp => first | (simp; done) | (simp; omega)) | with_unfolding_all rfl))
          replace bw : But g w ((w17.setCell ⟨(w1.heap.size + 1), 0, none⟩ (.int .i64 (En.tabC (j + 1)).lo)).setCell ⟨(w1.heap.size + 1), 1, none⟩ (.int .i64 (En.tabC (j + 1)).hi)) := by (with_reducible repeat' (first | assumption | exact But.refl _ _ | apply But.drew | apply But.alloc | (refine But.set ?_ ?hp _; case hp => first | (simp; done) | (simp; omega))))
          (try refine ⟨⟨HP, bw⟩, ?_⟩)
          repeat ((first | with_reducible apply eag_move | with_reducible apply eag_assign | ((with_reducible refine eag_soft (v := ?_) (fun w' hw' => ?_) ?_); rotate_left 1; (focus (obtain ⟨hP, hBw⟩ := hw'; obtain ⟨hcP, hfP⟩ := hP.facts; go_simp; (try with_reducible rfl); done)))); simp only [Act.put, Act.eval, List.setIfInBounds_toArray, List.set_cons_zero, List.set_cons_succ, Array.getD_eq_getD_getElem?, List.getElem?_toArray, List.getElem?_cons_zero, List.getElem?_cons_succ, Option.getD_some])
          refine eag_hard ?_
          generalize hW : (w17.setCell ⟨(w1.heap.size + 1), 0, none⟩ (.int .i64 (En.tabC (j + 1)).lo)).setCell ⟨(w1.heap.size + 1), 1, none⟩ (.int .i64 (En.tabC (j + 1)).hi) = w18 at HG HO HP HC HD bw ⊢
          clear hW
          have lw18 : w.heap.size ≤ w18.heap.size := bw.size
          obtain ⟨hcD, hfD⟩ := HD.facts
          go_wp2_with fail
          have PG := HG
          have PO := HO
          have PP := HP
          have PC := HC
          have PD := HD
          have Pbw := bw
          replace HG : Hd ((w18.setCell ⟨(w1.heap.size + 1 + 1), 0, none⟩ (.int .i64 (En.tabS (j + 1)).lo)).setCell ⟨(w1.heap.size + 1 + 1), 1, none⟩ (.int .i64 (En.tabS (j + 1)).hi)) g 83 #[.int .i64 0] := by (with_reducible repeat' (first | assumption | (apply hdN; (try simp only [sA, sS, sD]); done) | apply hdA | apply hdD | apply hdS | (apply hdF; case hp => first | (simp; done) | (simp; omega)) | with_unfolding_all rfl))
          replace HO : Hd ((w18.setCell ⟨(w1.heap.size + 1 + 1), 0, none⟩ (.int .i64 (En.tabS (j + 1)).lo)).setCell ⟨(w1.heap.size + 1 + 1), 1, none⟩ (.int .i64 (En.tabS (j + 1)).hi)) w.heap.size 25 #[.int .i64 0, .int .i64 0, .int .i64 0, .int .i64 0] := by (with_reducible repeat' (first | assumption | (apply hdN; (try simp only [sA, sS, sD]); done) | apply hdA | apply hdD | apply hdS | (apply hdF; case hp => first | (simp; done) | (simp; omega)) | with_unfolding_all rfl))
          replace HP : Hd ((w18.setCell ⟨(w1.heap.size + 1 + 1), 0, none⟩ (.int .i64 (En.tabS (j + 1)).lo)).setCell ⟨(w1.heap.size + 1 + 1), 1, none⟩ (.int .i64 (En.tabS (j + 1)).hi)) w1.heap.size 23 #[.int .i64 1073741824, .int .i64 1073741824] := by (with_reducible repeat' (first | assumption | (apply hdN; (try simp only [sA, sS, sD]); done) | apply hdA | apply hdD | apply hdS | (apply hdF; case hp => first | (simp; done) | (simp; omega)) | with_unfolding_all rfl))
          replace HC : Hd ((w18.setCell ⟨(w1.heap.size + 1 + 1), 0, none⟩ (.int .i64 (En.tabS (j + 1)).lo)).setCell ⟨(w1.heap.size + 1 + 1), 1, none⟩ (.int .i64 (En.tabS (j + 1)).hi)) (w1.heap.size + 1) 23 #[.int .i64 (En.tabC (j + 1)).lo, .int .i64 (En.tabC (j + 1)).hi] := by (with_reducible repeat' (first | assumption | (apply hdN; (try simp only [sA, sS, sD]); done) | apply hdA | apply hdD | apply hdS | (apply hdF; case hp => first | (simp; done) | (simp; omega)) | with_unfolding_all rfl))
          replace HD : Hd ((w18.setCell ⟨(w1.heap.size + 1 + 1), 0, none⟩ (.int .i64 (En.tabS (j + 1)).lo)).setCell ⟨(w1.heap.size + 1 + 1), 1, none⟩ (.int .i64 (En.tabS (j + 1)).hi)) (w1.heap.size + 1 + 1) 23 #[.int .i64 (En.tabS (j + 1)).lo, .int .i64 (En.tabS (j + 1)).hi] := by (with_reducible repeat' (first | assumption | (apply hdN; (try simp only [sA, sS, sD]); done) | apply hdA | apply hdD | apply hdS | (apply hdF; case hp => first | (simp; done) | (simp; omega)) | with_unfolding_all rfl))
          replace bw : But g w ((w18.setCell ⟨(w1.heap.size + 1 + 1), 0, none⟩ (.int .i64 (En.tabS (j + 1)).lo)).setCell ⟨(w1.heap.size + 1 + 1), 1, none⟩ (.int .i64 (En.tabS (j + 1)).hi)) := by (with_reducible repeat' (first | assumption | exact But.refl _ _ | apply But.drew | apply But.alloc | (refine But.set ?_ ?hp _; case hp => first | (simp; done) | (simp; omega))))
          (try refine ⟨⟨HP, bw⟩, ?_⟩)
          repeat ((first | with_reducible apply eag_move | with_reducible apply eag_assign | ((with_reducible refine eag_soft (v := ?_) (fun w' hw' => ?_) ?_); rotate_left 1; (focus (obtain ⟨hP, hBw⟩ := hw'; obtain ⟨hcP, hfP⟩ := hP.facts; go_simp; (try with_reducible rfl); done)))); simp only [Act.put, Act.eval, List.setIfInBounds_toArray, List.set_cons_zero, List.set_cons_succ, Array.getD_eq_getD_getElem?, List.getElem?_toArray, List.getElem?_cons_zero, List.getElem?_cons_succ, Option.getD_some])
          refine eag_nil ?_
          go_wp2_with fail
          exact ⟨⟨j + 1, En.tabS (j + 1), kk + 1, by omega, by omega, (by rw [hkk]), Lib.hid (fun _ => rfl), HG, HO, HP, HC, HD, bw⟩, by simp only [intOf]; omega⟩
      · obtain ⟨hcC, hfC⟩ := HC.facts
        go_wp2_with fail
        (try refine ⟨⟨HP, bw⟩, ?_⟩)
        repeat ((first | with_reducible apply eag_move | with_reducible apply eag_assign | ((with_reducible refine eag_soft (v := ?_) (fun w' hw' => ?_) ?_); rotate_left 1; (focus (obtain ⟨hP, hBw⟩ := hw'; obtain ⟨hcP, hfP⟩ := hP.facts; go_simp; (try with_reducible rfl); done)))); simp only [Act.put, Act.eval, List.setIfInBounds_toArray, List.set_cons_zero, List.set_cons_succ, Array.getD_eq_getD_getElem?, List.getElem?_toArray, List.getElem?_cons_zero, List.getElem?_cons_succ, Option.getD_some])
        repeat ((first | with_reducible apply eag_move | with_reducible apply eag_assign | ((with_reducible refine eag_soft (v := ?_) (fun w' hw' => ?_) ?_); rotate_left 1; (focus (obtain ⟨hP, hBw⟩ := hw'; obtain ⟨hcP, hfP⟩ := hP.facts; go_simp; (try with_reducible rfl); done)))); simp only [Act.put, Act.eval, List.setIfInBounds_toArray, List.set_cons_zero, List.set_cons_succ, Array.getD_eq_getD_getElem?, List.getElem?_toArray, List.getElem?_cons_zero, List.getElem?_cons_succ, Option.getD_some])
        refine eag_hard ?_
        obtain ⟨hcC, hfC⟩ := HC.facts
        go_wp2_with fail
        (try refine ⟨⟨HP, bw⟩, ?_⟩)
        repeat ((first | with_reducible apply eag_move | with_reducible apply eag_assign | ((with_reducible refine eag_soft (v := ?_) (fun w' hw' => ?_) ?_); rotate_left 1; (focus (obtain ⟨hP, hBw⟩ := hw'; obtain ⟨hcP, hfP⟩ := hP.facts; go_simp; (try with_reducible rfl); done)))); simp only [Act.put, Act.eval, List.setIfInBounds_toArray, List.set_cons_zero, List.set_cons_succ, Array.getD_eq_getD_getElem?, List.getElem?_toArray, List.getElem?_cons_zero, List.getElem?_cons_succ, Option.getD_some])
        refine eag_hard ?_
        go_wp2_with fail
        refine (wsum_any En.one (En.tabC j) (En.Sp.fit_of_ok (s := En.one) (by decide)) (En.Sp.fit_of_ok (En.tab_ok j).1) 0 g _ HG).mono ?_
        rintro e w12 ⟨z12, e12, rfl, ok12, _, qq12, HG12, hb12⟩
        obtain ⟨rfl, rfl⟩ := qq12.sure HE1.out
        clear ok12 qq12
        replace bw := bw.trans hb12
        replace HO := HO.but hb12 (by omega)
        replace HP := HP.but hb12 (by omega)
        replace HC := HC.but hb12 (by omega)
        replace HD := HD.but hb12 (by omega)
        replace HG := HG12
        clear HG12
        have lw12 : w.heap.size ≤ w12.heap.size := bw.size
        clear hb12
        go_wp2_with fail
        (try refine ⟨⟨HP, bw⟩, ?_⟩)
        repeat ((first | with_reducible apply eag_move | with_reducible apply eag_assign | ((with_reducible refine eag_soft (v := ?_) (fun w' hw' => ?_) ?_); rotate_left 1; (focus (obtain ⟨hP, hBw⟩ := hw'; obtain ⟨hcP, hfP⟩ := hP.facts; go_simp; (try with_reducible rfl); done)))); simp only [Act.put, Act.eval, List.setIfInBounds_toArray, List.set_cons_zero, List.set_cons_succ, Array.getD_eq_getD_getElem?, List.getElem?_toArray, List.getElem?_cons_zero, List.getElem?_cons_succ, Option.getD_some])
        refine eag_hard ?_
        go_wp2_with fail
        refine (whalf_any ep (En.Sp.fit_of_ok (En.add_ok HE1.out)) 0 g _ HG).mono ?_
        rintro e w13 ⟨z13, e13, rfl, ok13, _, qq13, HG13, hb13⟩
        obtain ⟨rfl, rfl⟩ := qq13.sure HG1.out
        clear ok13 qq13
        replace bw := bw.trans hb13
        replace HO := HO.but hb13 (by omega)
        replace HP := HP.but hb13 (by omega)
        replace HC := HC.but hb13 (by omega)
        replace HD := HD.but hb13 (by omega)
        replace HG := HG13
        clear HG13
        have lw13 : w.heap.size ≤ w13.heap.size := bw.size
        clear hb13
        go_wp2_with fail
        (try refine ⟨⟨HP, bw⟩, ?_⟩)
        repeat ((first | with_reducible apply eag_move | with_reducible apply eag_assign | ((with_reducible refine eag_soft (v := ?_) (fun w' hw' => ?_) ?_); rotate_left 1; (focus (obtain ⟨hP, hBw⟩ := hw'; obtain ⟨hcP, hfP⟩ := hP.facts; go_simp; (try with_reducible rfl); done)))); simp only [Act.put, Act.eval, List.setIfInBounds_toArray, List.set_cons_zero, List.set_cons_succ, Array.getD_eq_getD_getElem?, List.getElem?_toArray, List.getElem?_cons_zero, List.getElem?_cons_succ, Option.getD_some])
        refine eag_hard ?_
        go_wp2_with fail
        refine (wroot_any g' (En.Sp.fit_of_ok HGO.out) HG0.out (Int.le_trans HG0.out (En.Sp.le_of_ok HGO.out)) 0 g _ HG).mono ?_
        rintro e w14 ⟨z14, e14, rfl, ok14, _, qq14, HG14, hb14⟩
        obtain ⟨rfl, rfl⟩ := qq14.sure HQ1.out
        clear ok14 qq14
        replace bw := bw.trans hb14
        replace HO := HO.but hb14 (by omega)
        replace HP := HP.but hb14 (by omega)
        replace HC := HC.but hb14 (by omega)
        replace HD := HD.but hb14 (by omega)
        replace HG := HG14
        clear HG14
        have lw14 : w.heap.size ≤ w14.heap.size := bw.size
        clear hb14
        go_wp2_with fail
        (try refine ⟨⟨HP, bw⟩, ?_⟩)
        repeat ((first | with_reducible apply eag_move | with_reducible apply eag_assign | ((with_reducible refine eag_soft (v := ?_) (fun w' hw' => ?_) ?_); rotate_left 1; (focus (obtain ⟨hP, hBw⟩ := hw'; obtain ⟨hcP, hfP⟩ := hP.facts; go_simp; (try with_reducible rfl); done)))); simp only [Act.put, Act.eval, List.setIfInBounds_toArray, List.set_cons_zero, List.set_cons_succ, Array.getD_eq_getD_getElem?, List.getElem?_toArray, List.getElem?_cons_zero, List.getElem?_cons_succ, Option.getD_some])
        refine eag_hard ?_
        go_wp2_with fail
        refine (wless_any En.one (En.tabC j) (En.Sp.fit_of_ok (s := En.one) (by decide)) (En.Sp.fit_of_ok (En.tab_ok j).1) 0 g _ HG).mono ?_
        rintro e w15 ⟨z15, e15, rfl, ok15, _, qq15, HG15, hb15⟩
        obtain ⟨rfl, rfl⟩ := qq15.sure HD1.out
        clear ok15 qq15
        replace bw := bw.trans hb15
        replace HO := HO.but hb15 (by omega)
        replace HP := HP.but hb15 (by omega)
        replace HC := HC.but hb15 (by omega)
        replace HD := HD.but hb15 (by omega)
        replace HG := HG15
        clear HG15
        have lw15 : w.heap.size ≤ w15.heap.size := bw.size
        clear hb15
        go_wp2_with fail
        (try refine ⟨⟨HP, bw⟩, ?_⟩)
        repeat ((first | with_reducible apply eag_move | with_reducible apply eag_assign | ((with_reducible refine eag_soft (v := ?_) (fun w' hw' => ?_) ?_); rotate_left 1; (focus (obtain ⟨hP, hBw⟩ := hw'; obtain ⟨hcP, hfP⟩ := hP.facts; go_simp; (try with_reducible rfl); done)))); simp only [Act.put, Act.eval, List.setIfInBounds_toArray, List.set_cons_zero, List.set_cons_succ, Array.getD_eq_getD_getElem?, List.getElem?_toArray, List.getElem?_cons_zero, List.getElem?_cons_succ, Option.getD_some])
        refine eag_hard ?_
        go_wp2_with fail
        refine (whalf_any d (En.Sp.fit_of_ok (En.sub_ok HD1.out)) 0 g _ HG).mono ?_
        rintro e w16 ⟨z16, e16, rfl, ok16, _, qq16, HG16, hb16⟩
        obtain ⟨rfl, rfl⟩ := qq16.sure HH1.out
        clear ok16 qq16
        replace bw := bw.trans hb16
        replace HO := HO.but hb16 (by omega)
        replace HP := HP.but hb16 (by omega)
        replace HC := HC.but hb16 (by omega)
        replace HD := HD.but hb16 (by omega)
        replace HG := HG16
        clear HG16
        have lw16 : w.heap.size ≤ w16.heap.size := bw.size
        clear hb16
        go_wp2_with fail
        (try refine ⟨⟨HP, bw⟩, ?_⟩)
        repeat ((first | with_reducible apply eag_move | with_reducible apply eag_assign | ((with_reducible refine eag_soft (v := ?_) (fun w' hw' => ?_) ?_); rotate_left 1; (focus (obtain ⟨hP, hBw⟩ := hw'; obtain ⟨hcP, hfP⟩ := hP.facts; go_simp; (try with_reducible rfl); done)))); simp only [Act.put, Act.eval, List.setIfInBounds_toArray, List.set_cons_zero, List.set_cons_succ, Array.getD_eq_getD_getElem?, List.getElem?_toArray, List.getElem?_cons_zero, List.getElem?_cons_succ, Option.getD_some])
        refine eag_hard ?_
        go_wp2_with fail
        refine (wroot_any hf0 (En.Sp.fit_of_ok HO1.out) H01.out (Int.le_trans H01.out (En.Sp.le_of_ok HO1.out)) 0 g _ HG).mono ?_
        rintro e w17 ⟨z17, e17, rfl, ok17, _, qq17, HG17, hb17⟩
        obtain ⟨rfl, rfl⟩ := qq17.sure HR1.out
        clear ok17 qq17
        replace bw := bw.trans hb17
        replace HO := HO.but hb17 (by omega)
        replace HP := HP.but hb17 (by omega)
        replace HC := HC.but hb17 (by omega)
        replace HD := HD.but hb17 (by omega)
        replace HG := HG17
        clear HG17
        have lw17 : w.heap.size ≤ w17.heap.size := bw.size
        clear hb17
        go_wp2_with fail
        (try refine ⟨⟨HP, bw⟩, ?_⟩)
        repeat ((first | with_reducible apply eag_move | with_reducible apply eag_assign | ((with_reducible refine eag_soft (v := ?_) (fun w' hw' => ?_) ?_); rotate_left 1; (focus (obtain ⟨hP, hBw⟩ := hw'; obtain ⟨hcP, hfP⟩ := hP.facts; go_simp; (try with_reducible rfl); done)))); simp only [Act.put, Act.eval, List.setIfInBounds_toArray, List.set_cons_zero, List.set_cons_succ, Array.getD_eq_getD_getElem?, List.getElem?_toArray, List.getElem?_cons_zero, List.getElem?_cons_succ, Option.getD_some])
        refine eag_hard ?_
        obtain ⟨hcC, hfC⟩ := HC.facts
        go_wp2_with fail
        have PG := HG
        have PO := HO
        have PP := HP
        have PC := HC
        have PD := HD
        have Pbw := bw
        replace HG : Hd ((w17.setCell ⟨(w1.heap.size + 1), 0, none⟩ (.int .i64 (En.tabC (j + 1)).lo)).setCell ⟨(w1.heap.size + 1), 1, none⟩ (.int .i64 (En.tabC (j + 1)).hi)) g 83 #[.int .i64 0] := by (with_reducible repeat' (first | assumption | (apply hdN; (try simp only [sA, sS, sD]); done) | apply hdA | apply hdD | apply hdS | (apply hdF; case hp => first | (simp; done) | (simp; omega)) | with_unfolding_all rfl))
        replace HO : Hd ((w17.setCell ⟨(w1.heap.size + 1), 0, none⟩ (.int .i64 (En.tabC (j + 1)).lo)).setCell ⟨(w1.heap.size + 1), 1, none⟩ (.int .i64 (En.tabC (j + 1)).hi)) w.heap.size 25 #[.int .i64 0, .int .i64 0, .int .i64 0, .int .i64 0] := by (with_reducible repeat' (first | assumption | (apply hdN; (try simp only [sA, sS, sD]); done) | apply hdA | apply hdD | apply hdS | (apply hdF; case hp => first | (simp; done) | (simp; omega)) | with_unfolding_all rfl))
        replace HP : Hd ((w17.setCell ⟨(w1.heap.size + 1), 0, none⟩ (.int .i64 (En.tabC (j + 1)).lo)).setCell ⟨(w1.heap.size + 1), 1, none⟩ (.int .i64 (En.tabC (j + 1)).hi)) w1.heap.size 23 #[.int .i64 1073741824, .int .i64 1073741824] := by (with_reducible repeat' (first | assumption | (apply hdN; (try simp only [sA, sS, sD]); done) | apply hdA | apply hdD | apply hdS | (apply hdF; case hp => first | (simp; done) | (simp; omega)) | with_unfolding_all rfl))
        replace HC : Hd ((w17.setCell ⟨(w1.heap.size + 1), 0, none⟩ (.int .i64 (En.tabC (j + 1)).lo)).setCell ⟨(w1.heap.size + 1), 1, none⟩ (.int .i64 (En.tabC (j + 1)).hi)) (w1.heap.size + 1) 23 #[.int .i64 (En.tabC (j + 1)).lo, .int .i64 (En.tabC (j + 1)).hi] := by (with_reducible repeat' (first | assumption | (apply hdN; (try simp only [sA, sS, sD]); done) | apply hdA | apply hdD | apply hdS | (apply hdF; case hp => first | (simp; done) | (simp; omega)) | with_unfolding_all rfl))
        replace HD : Hd ((w17.setCell ⟨(w1.heap.size + 1), 0, none⟩ (.int .i64 (En.tabC (j + 1)).lo)).setCell ⟨(w1.heap.size + 1), 1, none⟩ (.int .i64 (En.tabC (j + 1)).hi)) (w1.heap.size + 1 + 1) 23 #[.int .i64 sv.lo, .int .i64 sv.hi] := by (with_reducible repeat' (first | assumption | (apply hdN; (try simp only [sA, sS, sD]); done) | apply hdA | apply hdD | apply hdS | (apply hdF; case hp => first | (simp; done) | (simp; omega)) | with_unfolding_all rfl))
        replace bw : But g w ((w17.setCell ⟨(w1.heap.size + 1), 0, none⟩ (.int .i64 (En.tabC (j + 1)).lo)).setCell ⟨(w1.heap.size + 1), 1, none⟩ (.int .i64 (En.tabC (j + 1)).hi)) := by (with_reducible repeat' (first | assumption | exact But.refl _ _ | apply But.drew | apply But.alloc | (refine But.set ?_ ?hp _; case hp => first | (simp; done) | (simp; omega))))
        (try refine ⟨⟨HP, bw⟩, ?_⟩)
        repeat ((first | with_reducible apply eag_move | with_reducible apply eag_assign | ((with_reducible refine eag_soft (v := ?_) (fun w' hw' => ?_) ?_); rotate_left 1; (focus (obtain ⟨hP, hBw⟩ := hw'; obtain ⟨hcP, hfP⟩ := hP.facts; go_simp; (try with_reducible rfl); done)))); simp only [Act.put, Act.eval, List.setIfInBounds_toArray, List.set_cons_zero, List.set_cons_succ, Array.getD_eq_getD_getElem?, List.getElem?_toArray, List.getElem?_cons_zero, List.getElem?_cons_succ, Option.getD_some])
        refine eag_hard ?_
        generalize hW : (w17.setCell ⟨(w1.heap.size + 1), 0, none⟩ (.int .i64 (En.tabC (j + 1)).lo)).setCell ⟨(w1.heap.size + 1), 1, none⟩ (.int .i64 (En.tabC (j + 1)).hi) = w18 at HG HO HP HC HD bw ⊢
        clear hW
        have lw18 : w.heap.size ≤ w18.heap.size := bw.size
        obtain ⟨hcD, hfD⟩ := HD.facts
        go_wp2_with fail
        have PG := HG
        have PO := HO
        have PP := HP
        have PC := HC
        have PD := HD
        have Pbw := bw
        replace HG : Hd ((w18.setCell ⟨(w1.heap.size + 1 + 1), 0, none⟩ (.int .i64 (En.tabS (j + 1)).lo)).setCell ⟨(w1.heap.size + 1 + 1), 1, none⟩ (.int .i64 (En.tabS (j + 1)).hi)) g 83 #[.int .i64 0] := by (with_reducible repeat' (first | assumption | (apply hdN; (try simp only [sA, sS, sD]); done) | apply hdA | apply hdD | apply hdS | (apply hdF; case hp => first | (simp; done) | (simp; omega)) | with_unfolding_all rfl))
        replace HO : Hd ((w18.setCell ⟨(w1.heap.size + 1 + 1), 0, none⟩ (.int .i64 (En.tabS (j + 1)).lo)).setCell ⟨(w1.heap.size + 1 + 1), 1, none⟩ (.int .i64 (En.tabS (j + 1)).hi)) w.heap.size 25 #[.int .i64 0, .int .i64 0, .int .i64 0, .int .i64 0] := by (with_reducible repeat' (first | assumption | (apply hdN; (try simp only [sA, sS, sD]); done) | apply hdA | apply hdD | apply hdS | (apply hdF; case hp => first | (simp; done) | (simp; omega)) | with_unfolding_all rfl))
        replace HP : Hd ((w18.setCell ⟨(w1.heap.size + 1 + 1), 0, none⟩ (.int .i64 (En.tabS (j + 1)).lo)).setCell ⟨(w1.heap.size + 1 + 1), 1, none⟩ (.int .i64 (En.tabS (j + 1)).hi)) w1.heap.size 23 #[.int .i64 1073741824, .int .i64 1073741824] := by (with_reducible repeat' (first | assumption | (apply hdN; (try simp only [sA, sS, sD]); done) | apply hdA | apply hdD | apply hdS | (apply hdF; case hp => first | (simp; done) | (simp; omega)) | with_unfolding_all rfl))
        replace HC : Hd ((w18.setCell ⟨(w1.heap.size + 1 + 1), 0, none⟩ (.int .i64 (En.tabS (j + 1)).lo)).setCell ⟨(w1.heap.size + 1 + 1), 1, none⟩ (.int .i64 (En.tabS (j + 1)).hi)) (w1.heap.size + 1) 23 #[.int .i64 (En.tabC (j + 1)).lo, .int .i64 (En.tabC (j + 1)).hi] := by (with_reducible repeat' (first | assumption | (apply hdN; (try simp only [sA, sS, sD]); done) | apply hdA | apply hdD | apply hdS | (apply hdF; case hp => first | (simp; done) | (simp; omega)) | with_unfolding_all rfl))
        replace HD : Hd ((w18.setCell ⟨(w1.heap.size + 1 + 1), 0, none⟩ (.int .i64 (En.tabS (j + 1)).lo)).setCell ⟨(w1.heap.size + 1 + 1), 1, none⟩ (.int .i64 (En.tabS (j + 1)).hi)) (w1.heap.size + 1 + 1) 23 #[.int .i64 (En.tabS (j + 1)).lo, .int .i64 (En.tabS (j + 1)).hi] := by (with_reducible repeat' (first | assumption | (apply hdN; (try simp only [sA, sS, sD]); done) | apply hdA | apply hdD | apply hdS | (apply hdF; case hp => first | (simp; done) | (simp; omega)) | with_unfolding_all rfl))
        replace bw : But g w ((w18.setCell ⟨(w1.heap.size + 1 + 1), 0, none⟩ (.int .i64 (En.tabS (j + 1)).lo)).setCell ⟨(w1.heap.size + 1 + 1), 1, none⟩ (.int .i64 (En.tabS (j + 1)).hi)) := by (with_reducible repeat' (first | assumption | exact But.refl _ _ | apply But.drew | apply But.alloc | (refine But.set ?_ ?hp _; case hp => first | (simp; done) | (simp; omega))))
        (try refine ⟨⟨HP, bw⟩, ?_⟩)
        repeat ((first | with_reducible apply eag_move | with_reducible apply eag_assign | ((with_reducible refine eag_soft (v := ?_) (fun w' hw' => ?_) ?_); rotate_left 1; (focus (obtain ⟨hP, hBw⟩ := hw'; obtain ⟨hcP, hfP⟩ := hP.facts; go_simp; (try with_reducible rfl); done)))); simp only [Act.put, Act.eval, List.setIfInBounds_toArray, List.set_cons_zero, List.set_cons_succ, Array.getD_eq_getD_getElem?, List.getElem?_toArray, List.getElem?_cons_zero, List.getElem?_cons_succ, Option.getD_some])
        refine eag_nil ?_
        go_wp2_with fail
        exact ⟨⟨j + 1, En.tabS (j + 1), kk + 1, by omega, by omega, (by rw [hkk]), Lib.hid (fun _ => rfl), HG, HO, HP, HC, HD, bw⟩, by simp only [intOf]; omega⟩
    · obtain rfl : j = j0 := by omega
      have hnl : ¬ kk < k0 := by omega
      have hs := HSV.out (by have := HJ.out; omega)
      subst hs
      obtain ⟨hcC, hfC⟩ := HC.facts
      obtain ⟨hcD, hfD⟩ := HD.facts
      obtain ⟨hcO, hfO⟩ := HO.facts
      go_wp2
      refine bodyPost_ret (run_results1 rfl rfl (by (show Hd _ (w.heap.size) 25 #[.int .i64 (En.tabC j).lo, .int .i64 (En.tabC j).hi, .int .i64 (En.tabS j).lo, .int .i64 (En.tabS j).hi]); (with_reducible repeat' (first | assumption | (apply hdN; (try simp only [sA, sS, sD]); done) | apply hdA | apply hdD | apply hdS | (apply hdF; case hp => first | (simp; done) | (simp; omega)) | with_unfolding_all rfl))) Try.underlying25 rfl (by kernel_rfl)) rfl ⟨rfl, by (with_reducible repeat' (first | assumption | (apply hdN; (try simp only [sA, sS, sD]); done) | apply hdA | apply hdD | apply hdS | (apply hdF; case hp => first | (simp; done) | (simp; omega)) | with_unfolding_all rfl)), by (with_reducible repeat' (first | assumption | exact But.refl _ _ | apply But.drew | apply But.alloc | (refine But.set ?_ ?hp _; case hp => first | (simp; done) | (simp; omega))))⟩
end Go.Proofs.Ytpbbbfglecbceaa
