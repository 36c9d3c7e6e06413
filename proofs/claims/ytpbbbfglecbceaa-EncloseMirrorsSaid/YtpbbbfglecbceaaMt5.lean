/- Several texts in one. -/
import Derived.Test.YtpbbbfglecbceaaMt4
import Derived.Test.YtpbbbfglecbceaaMt2
/- Package enclose: Star. -/
namespace Go.Proofs.Ytpbbbfglecbceaa
set_option linter.all false
open Go.RowKit

theorem point1_any (w : World) : Calls Try.prog 78 #[.int .i64 1, .int .i64 0] w fun e w' => e = .returned (rcV En.oneR) ∧ Below w.heap.size w w' :=
  (point_any 1 0 (by omega) (by omega) (by omega) (by omega) w).mono fun e w' h => by
    have h1 : En.point 1 0 = .ok En.oneR := rfl
    obtain ⟨hb, hc⟩ := h.cases
    rcases hc with ⟨s, hs, he⟩ | ⟨c, hs, he⟩
    · rw [h1] at hs; injection hs with hs; exact ⟨by rw [he, hs], hb⟩
    · rw [h1] at hs; cases hs
set_option maxRecDepth 100000 in
set_option maxHeartbeats 4000000 in
theorem starE_any (p q : En.Pt) (w : World) : Calls Try.prog 49 #[ptV p, ptV q] w fun e w' => e = .returned (ptE (starR p q)) ∧ Below w.heap.size w w' := by
  have CP := ports2_any p q
  cases hv : (portOk p && portOk q) with
  | false =>
    have ht : starR p q = (zeroP, 50) := by unfold starR; rw [hv]; rfl
    rw [hv] at CP
    replace CP := Lib.hid CP
    clear hv
    go_enter_defers Try.func49, Try.ntmps49
    refine wk_start ?_
    refine wk_seq ?_
    refine wk_region [1, 1, 1, 1] rfl (by kernel_rfl) ?_
    simp only [List.zip_cons_cons, List.zip_nil_right]
    refine rg_new (cs := ?_) (ty := ?_) (by rfl) (fun w => ?_) (fun _ h => by cases h) (fun g1 => ?_); rotate_left 2
    focus (go_simp; rfl)
    simp only [Act.put, Act.eval, qn, qv, Nat.reduceAdd]
    refine rg_new (cs := ?_) (ty := ?_) (by rfl) (fun w => ?_) (fun _ h => by cases h) (fun g2 => ?_); rotate_left 2
    focus (go_simp; rfl)
    simp only [Act.put, Act.eval, qn, qv, Nat.reduceAdd]
    refine rg_new (cs := ?_) (ty := ?_) (by rfl) (fun w => ?_) (fun _ h => by cases h) (fun g3 => ?_); rotate_left 2
    focus (go_simp; rfl)
    simp only [Act.put, Act.eval, qn, qv, Nat.reduceAdd]
    refine rg_new (cs := ?_) (ty := ?_) (by rfl) (fun w => ?_) (fun _ h => by cases h) (fun g4 => ?_); rotate_left 2
    focus (go_simp; rfl)
    simp only [Act.put, Act.eval, qn, qv, Nat.reduceAdd]
    refine rg_nil ?_
    refine ek_next ?_
    refine wk_seq ?_
    refine wk_seq ?_
    refine wk_region [0, 0, 1, 1, 0] rfl (by kernel_rfl) ?_
    simp only [List.zip_cons_cons, List.zip_nil_right]
    refine rf_loadR (n := 16) rfl rfl rfl Try.underlying49 rfl (by kernel_rfl) (fun w hw => Kn.hd0 (Kn.tl (Kn.tl (Kn.tl hw)))) rfl rfl ?_
    simp only [Act.put, Act.eval, qn, qv, Nat.reduceAdd]
    refine rf_loadR (n := 16) rfl rfl rfl Try.underlying49 rfl (by kernel_rfl) (fun w hw => Kn.hd0 (Kn.tl (Kn.tl hw))) rfl rfl ?_
    simp only [Act.put, Act.eval, qn, qv, Nat.reduceAdd]
    refine rg_newS (cs := ?_) (ty := ?_) (n := 2) (c := 2) (by rfl) (fun w => ?_) (fun _ h => by cases h) (fun g5 => ?_); rotate_left 2
    focus (go_simp; rfl)
    simp only [Act.put, Act.eval, qn, qv, Nat.reduceAdd]
    apply rg_pure (by rfl) (by kernel_rfl)
    case hargs => (simp only [qm, qs, Act.eval]; exact rfl)
    case h => exact fun w hw => CP.out g5 _ w (Kn.hd0 hw)
    case hz => exact (fun _ h => by cases h)
    simp only [Act.put, Act.eval, qn, qv, Nat.reduceAdd]
    refine rf_not rfl rfl rfl ?_
    simp only [Act.put, Act.eval, qn, qv, Nat.reduceAdd]
    refine rg_nil ?_
    refine ek_next ?_
    refine wk_cond_t rfl ?_
    refine wk_seq ?_
    refine wk_region [0, 1, 1] rfl (by kernel_rfl) ?_
    simp only [List.zip_cons_cons, List.zip_nil_right]
    refine rf_build (cs := fun a => #[.int .i64 0, .int .i64 0, .int .i64 0, .int .i64 0, .int .i64 0, .int .i64 0, .int .i64 0, .int .i64 0, .int .i64 0, .int .i64 0, .int .i64 0, .int .i64 0, .int .i64 0, .int .i64 0, .int .i64 0, .int .i64 0]) rfl rfl (by kernel_rfl) ?_
    simp only [Act.put, Act.eval, qn, qv, Nat.reduceAdd]
    refine rf_storeR (n := 16) rfl rfl (by kernel_rfl) rfl rfl (UpdR.there _ (UpdR.there _ (UpdR.here _ _ _ (Nat.le_of_ble_eq_true rfl)))) (fun _ h => by cases h) ?_
    simp only [Act.put, Act.eval, qn, qv, Nat.reduceAdd]
    refine rf_store rfl rfl (by kernel_rfl) rfl rfl (UpdR.there _ (UpdR.here _ _ _ (Nat.le_of_ble_eq_true rfl))) (fun _ h => by cases h) ?_
    simp only [Act.put, Act.eval, qn, qv, Nat.reduceAdd]
    refine rg_nil ?_
    refine ek_next ?_
    refine wk_ret ?_
    refine ek_then_ret ?_
    intro w hw
    exact ⟨_, run_results_ce rfl rfl (Kn.hd0 (Kn.tl (Kn.tl hw))) Try.underlying49 rfl (by kernel_rfl) rfl (Kn.hd0 (Kn.tl hw)) Try.underlying26, by rw [ht]; rfl, hw.below⟩
  | true =>
    rw [hv] at CP
    replace CP := Lib.hid CP
    have hoks := hv
    simp only [portOk, Bool.and_eq_true] at hoks
    obtain ⟨⟨⟨⟨k00, k01⟩, k10⟩, k11⟩, ⟨⟨l00, l01⟩, l10⟩, l11⟩ := hoks
    have hok := Lib.hid hv
    have fone : En.oneR.fit := En.Rc.fit_of_ok (by decide)
    have fp00 := En.Rc.fit_of_ok k00
    have fp01 := En.Rc.fit_of_ok k01
    have fp10 := En.Rc.fit_of_ok k10
    have fp11 := En.Rc.fit_of_ok k11
    have fq00 := En.Rc.fit_of_ok l00
    have fq01 := En.Rc.fit_of_ok l01
    have fq10 := En.Rc.fit_of_ok l10
    have fq11 := En.Rc.fit_of_ok l11
    clear hv k00 k01 k10 k11 l00 l01 l10 l11
    go_enter_defers Try.func49, Try.ntmps49
    refine wk_start ?_
    refine wk_seq ?_
    refine wk_region [1, 1, 1, 1] rfl (by kernel_rfl) ?_
    simp only [List.zip_cons_cons, List.zip_nil_right]
    refine rg_new (cs := ?_) (ty := ?_) (by rfl) (fun w => ?_) (fun _ h => by cases h) (fun g1 => ?_); rotate_left 2
    focus (go_simp; rfl)
    simp only [Act.put, Act.eval, qn, qv, Nat.reduceAdd]
    refine rg_new (cs := ?_) (ty := ?_) (by rfl) (fun w => ?_) (fun _ h => by cases h) (fun g2 => ?_); rotate_left 2
    focus (go_simp; rfl)
    simp only [Act.put, Act.eval, qn, qv, Nat.reduceAdd]
    refine rg_new (cs := ?_) (ty := ?_) (by rfl) (fun w => ?_) (fun _ h => by cases h) (fun g3 => ?_); rotate_left 2
    focus (go_simp; rfl)
    simp only [Act.put, Act.eval, qn, qv, Nat.reduceAdd]
    refine rg_new (cs := ?_) (ty := ?_) (by rfl) (fun w => ?_) (fun _ h => by cases h) (fun g4 => ?_); rotate_left 2
    focus (go_simp; rfl)
    simp only [Act.put, Act.eval, qn, qv, Nat.reduceAdd]
    refine rg_nil ?_
    refine ek_next ?_
    refine wk_seq ?_
    refine wk_seq ?_
    refine wk_region [0, 0, 1, 1, 0] rfl (by kernel_rfl) ?_
    simp only [List.zip_cons_cons, List.zip_nil_right]
    refine rf_loadR (n := 16) rfl rfl rfl Try.underlying49 rfl (by kernel_rfl) (fun w hw => Kn.hd0 (Kn.tl (Kn.tl (Kn.tl hw)))) rfl rfl ?_
    simp only [Act.put, Act.eval, qn, qv, Nat.reduceAdd]
    refine rf_loadR (n := 16) rfl rfl rfl Try.underlying49 rfl (by kernel_rfl) (fun w hw => Kn.hd0 (Kn.tl (Kn.tl hw))) rfl rfl ?_
    simp only [Act.put, Act.eval, qn, qv, Nat.reduceAdd]
    refine rg_newS (cs := ?_) (ty := ?_) (n := 2) (c := 2) (by rfl) (fun w => ?_) (fun _ h => by cases h) (fun g5 => ?_); rotate_left 2
    focus (go_simp; rfl)
    simp only [Act.put, Act.eval, qn, qv, Nat.reduceAdd]
    apply rg_pure (by rfl) (by kernel_rfl)
    case hargs => (simp only [qm, qs, Act.eval]; exact rfl)
    case h => exact fun w hw => CP.out g5 _ w (Kn.hd0 hw)
    case hz => exact (fun _ h => by cases h)
    simp only [Act.put, Act.eval, qn, qv, Nat.reduceAdd]
    refine rf_not rfl rfl rfl ?_
    simp only [Act.put, Act.eval, qn, qv, Nat.reduceAdd]
    refine rg_nil ?_
    refine ek_next ?_
    refine wk_cond_f rfl ?_
    refine wk_skip ?_
    refine ek_next ?_
    refine wk_seq ?_
    refine wk_regionN [0, 1] rfl ?_
    simp only [List.zip_cons_cons, List.zip_nil_right]
    apply rg_soft
    case hy => (intro w hw; go_simp; (try go_bits); exact Yld.mk _ _)
    simp only [Act.put, Act.eval, qn, qv, Nat.reduceAdd]
    refine rg_defer (df := ⟨.fn (.func 95) #[.pointer (some ⟨g4, 0, none⟩), .pointer (some ⟨g3, 0, none⟩)], #[]⟩) (fun w => by first | rfl | (go_simp; done)) (fun _ h => by cases h) ?_
    simp only [Act.put, Act.eval, qn, qv, Nat.reduceAdd]
    refine rg_nil ?_
    refine ek_next ?_
    refine wk_seq ?_
    refine wk_regionN [1] rfl ?_
    simp only [List.zip_cons_cons, List.zip_nil_right]
    refine rg_defer (df := ⟨.fn (.func 62) #[], #[.pointer (some ⟨g4, 0, none⟩)]⟩) (fun w => by first | rfl | (go_simp; done)) (fun _ h => by cases h) ?_
    simp only [Act.put, Act.eval, qn, qv, Nat.reduceAdd]
    refine rg_nil ?_
    refine ek_next ?_
    refine wk_cutF [6, 15, 16, 17, 18, 19, 20, 21, 22, 23, 24, 25] (fun f s => ∃ (gd : Nat) (vm vd : En.Rc), f 6 = .pointer (some ⟨gd, 0, none⟩) ∧ s = ((gd, .cells #[.int .i64 vd.re.lo, .int .i64 vd.re.hi, .int .i64 vd.im.lo, .int .i64 vd.im.hi] 25) :: ((g4, .cells #[.int .i64 0] 26) :: ((g3, .cells #[.int .i64 0, .int .i64 0, .int .i64 0, .int .i64 0, .int .i64 0, .int .i64 0, .int .i64 0, .int .i64 0, .int .i64 0, .int .i64 0, .int .i64 0, .int .i64 0, .int .i64 0, .int .i64 0, .int .i64 0, .int .i64 0] 49) :: ((g2, .cells #[.int .i64 q.s00.re.lo, .int .i64 q.s00.re.hi, .int .i64 q.s00.im.lo, .int .i64 q.s00.im.hi, .int .i64 q.s01.re.lo, .int .i64 q.s01.re.hi, .int .i64 q.s01.im.lo, .int .i64 q.s01.im.hi, .int .i64 q.s10.re.lo, .int .i64 q.s10.re.hi, .int .i64 q.s10.im.lo, .int .i64 q.s10.im.hi, .int .i64 q.s11.re.lo, .int .i64 q.s11.re.hi, .int .i64 q.s11.im.lo, .int .i64 q.s11.im.hi] 49) :: ((g1, .cells #[.int .i64 p.s00.re.lo, .int .i64 p.s00.re.hi, .int .i64 p.s00.im.lo, .int .i64 p.s00.im.hi, .int .i64 p.s01.re.lo, .int .i64 p.s01.re.hi, .int .i64 p.s01.im.lo, .int .i64 p.s01.im.hi, .int .i64 p.s10.re.lo, .int .i64 p.s10.re.hi, .int .i64 p.s10.im.lo, .int .i64 p.s10.im.hi, .int .i64 p.s11.re.lo, .int .i64 p.s11.re.hi, .int .i64 p.s11.im.lo, .int .i64 p.s11.im.hi] 49) :: []))))) ∧ RowKit.Hid (En.times p.s11 q.s00 = .ok vm) ∧ RowKit.Hid (En.minus En.oneR vm = .ok vd)) ?_ ?_
    · refine wk_rt _ (by kernel_rfl) (List.Sublist.cons₂ _ (List.Sublist.cons₂ _ (List.Sublist.cons₂ _ (List.Sublist.cons₂ _ (List.Sublist.cons₂ _ List.Sublist.slnil))))) ?_
      refine rt_softD (i := 1) rfl (by kernel_rfl) (fun c v a w h => leaves_tmps (t := (Act.put a (some 16) v).tmps) (fun w => results_cc_put (fn := Try.f49) rfl (by decide) (by decide) w) _ _ _ h) (List.Sublist.cons₂ _ (List.Sublist.cons₂ _ (List.Sublist.cons₂ _ (List.Sublist.cons₂ _ (List.Sublist.cons₂ _ List.Sublist.slnil))))) ?_
      refine rf_field (n := 15) (j := 0) rfl rfl rfl Try.underlying49 rfl (by kernel_rfl) rfl ?_
      simp only [Act.put, Act.eval, qn, qv, Nat.reduceAdd]
      refine rg_nil ?_
      refine ek_rt (List.Sublist.cons₂ _ (List.Sublist.cons₂ _ (List.Sublist.cons₂ _ (List.Sublist.cons₂ _ (List.Sublist.cons₂ _ List.Sublist.slnil))))) ?_
      refine rt_softD (i := 2) rfl (by kernel_rfl) (fun c v a w h => leaves_tmps (t := (Act.put a (some 17) v).tmps) (fun w => results_cc_put (fn := Try.f49) rfl (by decide) (by decide) w) _ _ _ h) (List.Sublist.cons₂ _ (List.Sublist.cons₂ _ (List.Sublist.cons₂ _ (List.Sublist.cons₂ _ (List.Sublist.cons₂ _ List.Sublist.slnil))))) ?_
      refine rf_indexA (n := 1) (sz := 8) (j := 8) rfl rfl rfl rfl Try.underlying47 (by kernel_rfl) (by decide) rfl ?_
      simp only [Act.put, Act.eval, qn, qv, Nat.reduceAdd]
      refine rg_nil ?_
      refine ek_rt (List.Sublist.cons₂ _ (List.Sublist.cons₂ _ (List.Sublist.cons₂ _ (List.Sublist.cons₂ _ (List.Sublist.cons₂ _ List.Sublist.slnil))))) ?_
      refine rt_softD (i := 3) rfl (by kernel_rfl) (fun c v a w h => leaves_tmps (t := (Act.put a (some 18) v).tmps) (fun w => results_cc_put (fn := Try.f49) rfl (by decide) (by decide) w) _ _ _ h) (List.Sublist.cons₂ _ (List.Sublist.cons₂ _ (List.Sublist.cons₂ _ (List.Sublist.cons₂ _ (List.Sublist.cons₂ _ List.Sublist.slnil))))) ?_
      refine rf_indexA (n := 1) (sz := 4) (j := 12) rfl rfl rfl rfl Try.underlying46 (by kernel_rfl) (by decide) rfl ?_
      simp only [Act.put, Act.eval, qn, qv, Nat.reduceAdd]
      refine rg_nil ?_
      refine ek_rt (List.Sublist.cons₂ _ (List.Sublist.cons₂ _ (List.Sublist.cons₂ _ (List.Sublist.cons₂ _ (List.Sublist.cons₂ _ List.Sublist.slnil))))) ?_
      refine rt_softD (i := 4) rfl (by kernel_rfl) (fun c v a w h => leaves_tmps (t := (Act.put a (some 19) v).tmps) (fun w => results_cc_put (fn := Try.f49) rfl (by decide) (by decide) w) _ _ _ h) (List.Sublist.cons₂ _ (List.Sublist.cons₂ _ (List.Sublist.cons₂ _ (List.Sublist.cons₂ _ (List.Sublist.cons₂ _ List.Sublist.slnil))))) ?_
      refine rf_loadR (n := 4) rfl rfl rfl Try.underlying25 rfl (by kernel_rfl) (fun w hw => Kn.hd0 (Kn.tl (Kn.tl (Kn.tl (Kn.tl hw))))) rfl rfl ?_
      simp only [Act.put, Act.eval, qn, qv, Nat.reduceAdd]
      refine rg_nil ?_
      refine ek_rt (List.Sublist.cons₂ _ (List.Sublist.cons₂ _ (List.Sublist.cons₂ _ (List.Sublist.cons₂ _ (List.Sublist.cons₂ _ List.Sublist.slnil))))) ?_
      refine rt_softD (i := 5) rfl (by kernel_rfl) (fun c v a w h => leaves_tmps (t := (Act.put a (some 20) v).tmps) (fun w => results_cc_put (fn := Try.f49) rfl (by decide) (by decide) w) _ _ _ h) (List.Sublist.cons₂ _ (List.Sublist.cons₂ _ (List.Sublist.cons₂ _ (List.Sublist.cons₂ _ (List.Sublist.cons₂ _ List.Sublist.slnil))))) ?_
      refine rf_field (n := 15) (j := 0) rfl rfl rfl Try.underlying49 rfl (by kernel_rfl) rfl ?_
      simp only [Act.put, Act.eval, qn, qv, Nat.reduceAdd]
      refine rg_nil ?_
      refine ek_rt (List.Sublist.cons₂ _ (List.Sublist.cons₂ _ (List.Sublist.cons₂ _ (List.Sublist.cons₂ _ (List.Sublist.cons₂ _ List.Sublist.slnil))))) ?_
      refine rt_softD (i := 6) rfl (by kernel_rfl) (fun c v a w h => leaves_tmps (t := (Act.put a (some 21) v).tmps) (fun w => results_cc_put (fn := Try.f49) rfl (by decide) (by decide) w) _ _ _ h) (List.Sublist.cons₂ _ (List.Sublist.cons₂ _ (List.Sublist.cons₂ _ (List.Sublist.cons₂ _ (List.Sublist.cons₂ _ List.Sublist.slnil))))) ?_
      refine rf_indexA (n := 0) (sz := 8) (j := 0) rfl rfl rfl rfl Try.underlying47 (by kernel_rfl) (by decide) rfl ?_
      simp only [Act.put, Act.eval, qn, qv, Nat.reduceAdd]
      refine rg_nil ?_
      refine ek_rt (List.Sublist.cons₂ _ (List.Sublist.cons₂ _ (List.Sublist.cons₂ _ (List.Sublist.cons₂ _ (List.Sublist.cons₂ _ List.Sublist.slnil))))) ?_
      refine rt_softD (i := 7) rfl (by kernel_rfl) (fun c v a w h => leaves_tmps (t := (Act.put a (some 22) v).tmps) (fun w => results_cc_put (fn := Try.f49) rfl (by decide) (by decide) w) _ _ _ h) (List.Sublist.cons₂ _ (List.Sublist.cons₂ _ (List.Sublist.cons₂ _ (List.Sublist.cons₂ _ (List.Sublist.cons₂ _ List.Sublist.slnil))))) ?_
      refine rf_indexA (n := 0) (sz := 4) (j := 0) rfl rfl rfl rfl Try.underlying46 (by kernel_rfl) (by decide) rfl ?_
      simp only [Act.put, Act.eval, qn, qv, Nat.reduceAdd]
      refine rg_nil ?_
      refine ek_rt (List.Sublist.cons₂ _ (List.Sublist.cons₂ _ (List.Sublist.cons₂ _ (List.Sublist.cons₂ _ (List.Sublist.cons₂ _ List.Sublist.slnil))))) ?_
      refine rt_softD (i := 8) rfl (by kernel_rfl) (fun c v a w h => leaves_tmps (t := (Act.put a (some 23) v).tmps) (fun w => results_cc_put (fn := Try.f49) rfl (by decide) (by decide) w) _ _ _ h) (List.Sublist.cons₂ _ (List.Sublist.cons₂ _ (List.Sublist.cons₂ _ (List.Sublist.cons₂ _ (List.Sublist.cons₂ _ List.Sublist.slnil))))) ?_
      refine rf_loadR (n := 4) rfl rfl rfl Try.underlying25 rfl (by kernel_rfl) (fun w hw => Kn.hd0 (Kn.tl (Kn.tl (Kn.tl hw)))) rfl rfl ?_
      simp only [Act.put, Act.eval, qn, qv, Nat.reduceAdd]
      refine rg_nil ?_
      refine ek_rt (List.Sublist.cons₂ _ (List.Sublist.cons₂ _ (List.Sublist.cons₂ _ (List.Sublist.cons₂ _ (List.Sublist.cons₂ _ List.Sublist.slnil))))) ?_
      refine rt_hard2 (i := 0) (j := 11) (by kernel_rfl) rfl rfl ?_ ?_
      · apply rg_pure (by rfl) (by kernel_rfl)
        case hargs => (simp only [qm, qs, Act.eval]; exact rfl)
        case h => exact fun w hw => point1_any w
        case hz => exact (fun _ h => by cases h; exact (List.Sublist.cons₂ _ (List.Sublist.cons₂ _ (List.Sublist.cons₂ _ (List.Sublist.cons₂ _ (List.Sublist.cons₂ _ List.Sublist.slnil))))))
        simp only [Act.put, Act.eval, qn, qv, Nat.reduceAdd]
        refine rg_nil ?_
        refine ek_rt (List.Sublist.cons₂ _ (List.Sublist.cons₂ _ (List.Sublist.cons₂ _ (List.Sublist.cons₂ _ (List.Sublist.cons₂ _ List.Sublist.slnil))))) ?_
        refine rt_hard2 (i := 9) (j := 11) (by kernel_rfl) rfl rfl ?_ ?_
        · apply rg_post (by rfl) (by kernel_rfl)
          case hargs => (simp only [qm, qs, Act.eval]; exact rfl)
          case h => exact fun w hw => times_any p.s11 q.s00 fp11 fq00 w
          case hz => exact (fun _ h => by cases h; exact (List.Sublist.cons₂ _ (List.Sublist.cons₂ _ (List.Sublist.cons₂ _ (List.Sublist.cons₂ _ (List.Sublist.cons₂ _ List.Sublist.slnil))))))
          case ke =>
            intro c hc w hw
            exact star_err (p := p) (q := q) (by simp only [En.star, hc, ebind_ok, ebind_err, epure]) hok.out hw (List.Sublist.cons _ (List.Sublist.cons₂ _ (List.Sublist.cons₂ _ (List.Sublist.cons _ (List.Sublist.cons _ List.Sublist.slnil))))) rfl rfl
          case k =>
            intro vm hvm
            simp only [Act.put, Act.eval, qn, qv, Nat.reduceAdd]
            have fvm := En.Rc.fit_of_ok (En.times_ok hvm)
            replace hvm := Lib.hid hvm
            refine rg_nil ?_
            refine ek_rt (List.Sublist.cons₂ _ (List.Sublist.cons₂ _ (List.Sublist.cons₂ _ (List.Sublist.cons₂ _ (List.Sublist.cons₂ _ List.Sublist.slnil))))) ?_
            refine rt_hard2 (i := 10) (j := 11) (by kernel_rfl) rfl rfl ?_ ?_
            · apply rg_post (by rfl) (by kernel_rfl)
              case hargs => (simp only [qm, qs, Act.eval]; exact rfl)
              case h => exact fun w hw => minus_any En.oneR vm fone fvm w
              case hz => exact (fun _ h => by cases h; exact (List.Sublist.cons₂ _ (List.Sublist.cons₂ _ (List.Sublist.cons₂ _ (List.Sublist.cons₂ _ (List.Sublist.cons₂ _ List.Sublist.slnil))))))
              case ke =>
                intro c hc w hw
                exact star_err (p := p) (q := q) (by simp only [En.star, hvm.out, hc, ebind_ok, ebind_err, epure]) hok.out hw (List.Sublist.cons _ (List.Sublist.cons₂ _ (List.Sublist.cons₂ _ (List.Sublist.cons _ (List.Sublist.cons _ List.Sublist.slnil))))) rfl rfl
              case k =>
                intro vd hvd
                simp only [Act.put, Act.eval, qn, qv, Nat.reduceAdd]
                have fvd := En.Rc.fit_of_ok (En.minus_ok hvd)
                replace hvd := Lib.hid hvd
                refine rg_nil ?_
                refine ek_rt (List.Sublist.cons₂ _ (List.Sublist.cons₂ _ (List.Sublist.cons₂ _ (List.Sublist.cons₂ _ (List.Sublist.cons₂ _ List.Sublist.slnil))))) ?_
                refine rt_hard1 (i := 11) (by kernel_rfl) rfl ?_
                refine rg_new (cs := ?_) (ty := ?_) (by rfl) (fun w => ?_) (fun _ h => by cases h; exact (List.Sublist.cons₂ _ (List.Sublist.cons₂ _ (List.Sublist.cons₂ _ (List.Sublist.cons₂ _ (List.Sublist.cons₂ _ List.Sublist.slnil)))))) (fun g6 => ?_); rotate_left 2
                focus (go_simp; rfl)
                simp only [Act.put, Act.eval, qn, qv, Nat.reduceAdd]
                refine rg_nil ?_
                refine ek_rt (List.Sublist.cons _ (List.Sublist.cons₂ _ (List.Sublist.cons₂ _ (List.Sublist.cons₂ _ (List.Sublist.cons₂ _ (List.Sublist.cons₂ _ List.Sublist.slnil)))))) ?_
                refine rt_hard1 (i := 12) (by kernel_rfl) rfl ?_
                refine rf_storeR (n := 4) rfl rfl (by kernel_rfl) rfl rfl (UpdR.here _ _ _ (Nat.le_of_ble_eq_true rfl)) (fun _ h => by cases h; exact (List.Sublist.cons _ (List.Sublist.cons₂ _ (List.Sublist.cons₂ _ (List.Sublist.cons₂ _ (List.Sublist.cons₂ _ (List.Sublist.cons₂ _ List.Sublist.slnil))))))) ?_
                simp only [Act.put, Act.eval, qn, qv, Nat.reduceAdd]
                refine rg_nil ?_
                refine ek_rt (List.Sublist.cons _ (List.Sublist.cons₂ _ (List.Sublist.cons₂ _ (List.Sublist.cons₂ _ (List.Sublist.cons₂ _ (List.Sublist.cons₂ _ List.Sublist.slnil)))))) ?_
                refine rt_nil (by kernel_rfl) ?_
                refine ek_sub (List.Sublist.cons₂ _ (List.Sublist.cons _ (List.Sublist.cons₂ _ (List.Sublist.cons₂ _ (List.Sublist.cons₂ _ (List.Sublist.cons₂ _ List.Sublist.slnil)))))) ?_
                refine ek_midF (by kernel_rfl) ?_
                exact ⟨g6, vm, vd, rfl, by rfl, hvm, hvd⟩
            · refine rg_new (cs := ?_) (ty := ?_) (by rfl) (fun w => ?_) (fun _ h => by cases h; exact (List.Sublist.cons₂ _ (List.Sublist.cons₂ _ (List.Sublist.cons₂ _ (List.Sublist.cons₂ _ (List.Sublist.cons₂ _ List.Sublist.slnil)))))) (fun g7 => ?_); rotate_left 2
              focus (go_simp; rfl)
              simp only [Act.put, Act.eval, qn, qv, Nat.reduceAdd]
              refine rg_nil ?_
              refine ek_rt (List.Sublist.cons _ (List.Sublist.cons₂ _ (List.Sublist.cons₂ _ (List.Sublist.cons₂ _ (List.Sublist.cons₂ _ (List.Sublist.cons₂ _ List.Sublist.slnil)))))) ?_
              refine rt_hard1 (i := 10) (by kernel_rfl) rfl ?_
              apply rg_post (by rfl) (by kernel_rfl)
              case hargs => (simp only [qm, qs, Act.eval]; exact rfl)
              case h => exact fun w hw => minus_any En.oneR vm fone fvm w
              case hz => exact (fun _ h => by cases h; exact (List.Sublist.cons _ (List.Sublist.cons₂ _ (List.Sublist.cons₂ _ (List.Sublist.cons₂ _ (List.Sublist.cons₂ _ (List.Sublist.cons₂ _ List.Sublist.slnil)))))))
              case ke =>
                intro c hc w hw
                exact star_err (p := p) (q := q) (by simp only [En.star, hvm.out, hc, ebind_ok, ebind_err, epure]) hok.out hw (List.Sublist.cons _ (List.Sublist.cons _ (List.Sublist.cons₂ _ (List.Sublist.cons₂ _ (List.Sublist.cons _ (List.Sublist.cons _ List.Sublist.slnil)))))) rfl rfl
              case k =>
                intro vd hvd
                simp only [Act.put, Act.eval, qn, qv, Nat.reduceAdd]
                have fvd := En.Rc.fit_of_ok (En.minus_ok hvd)
                replace hvd := Lib.hid hvd
                refine rg_nil ?_
                refine ek_rt (List.Sublist.cons _ (List.Sublist.cons₂ _ (List.Sublist.cons₂ _ (List.Sublist.cons₂ _ (List.Sublist.cons₂ _ (List.Sublist.cons₂ _ List.Sublist.slnil)))))) ?_
                refine rt_hard1 (i := 12) (by kernel_rfl) rfl ?_
                refine rf_storeR (n := 4) rfl rfl (by kernel_rfl) rfl rfl (UpdR.here _ _ _ (Nat.le_of_ble_eq_true rfl)) (fun _ h => by cases h; exact (List.Sublist.cons _ (List.Sublist.cons₂ _ (List.Sublist.cons₂ _ (List.Sublist.cons₂ _ (List.Sublist.cons₂ _ (List.Sublist.cons₂ _ List.Sublist.slnil))))))) ?_
                simp only [Act.put, Act.eval, qn, qv, Nat.reduceAdd]
                refine rg_nil ?_
                refine ek_rt (List.Sublist.cons _ (List.Sublist.cons₂ _ (List.Sublist.cons₂ _ (List.Sublist.cons₂ _ (List.Sublist.cons₂ _ (List.Sublist.cons₂ _ List.Sublist.slnil)))))) ?_
                refine rt_nil (by kernel_rfl) ?_
                refine ek_sub (List.Sublist.cons₂ _ (List.Sublist.cons _ (List.Sublist.cons₂ _ (List.Sublist.cons₂ _ (List.Sublist.cons₂ _ (List.Sublist.cons₂ _ List.Sublist.slnil)))))) ?_
                refine ek_midF (by kernel_rfl) ?_
                exact ⟨g7, vm, vd, rfl, by rfl, hvm, hvd⟩
        · refine rg_new (cs := ?_) (ty := ?_) (by rfl) (fun w => ?_) (fun _ h => by cases h; exact (List.Sublist.cons₂ _ (List.Sublist.cons₂ _ (List.Sublist.cons₂ _ (List.Sublist.cons₂ _ (List.Sublist.cons₂ _ List.Sublist.slnil)))))) (fun g8 => ?_); rotate_left 2
          focus (go_simp; rfl)
          simp only [Act.put, Act.eval, qn, qv, Nat.reduceAdd]
          refine rg_nil ?_
          refine ek_rt (List.Sublist.cons _ (List.Sublist.cons₂ _ (List.Sublist.cons₂ _ (List.Sublist.cons₂ _ (List.Sublist.cons₂ _ (List.Sublist.cons₂ _ List.Sublist.slnil)))))) ?_
          refine rt_hard1 (i := 9) (by kernel_rfl) rfl ?_
          apply rg_post (by rfl) (by kernel_rfl)
          case hargs => (simp only [qm, qs, Act.eval]; exact rfl)
          case h => exact fun w hw => times_any p.s11 q.s00 fp11 fq00 w
          case hz => exact (fun _ h => by cases h; exact (List.Sublist.cons _ (List.Sublist.cons₂ _ (List.Sublist.cons₂ _ (List.Sublist.cons₂ _ (List.Sublist.cons₂ _ (List.Sublist.cons₂ _ List.Sublist.slnil)))))))
          case ke =>
            intro c hc w hw
            exact star_err (p := p) (q := q) (by simp only [En.star, hc, ebind_ok, ebind_err, epure]) hok.out hw (List.Sublist.cons _ (List.Sublist.cons _ (List.Sublist.cons₂ _ (List.Sublist.cons₂ _ (List.Sublist.cons _ (List.Sublist.cons _ List.Sublist.slnil)))))) rfl rfl
          case k =>
            intro vm hvm
            simp only [Act.put, Act.eval, qn, qv, Nat.reduceAdd]
            have fvm := En.Rc.fit_of_ok (En.times_ok hvm)
            replace hvm := Lib.hid hvm
            refine rg_nil ?_
            refine ek_rt (List.Sublist.cons _ (List.Sublist.cons₂ _ (List.Sublist.cons₂ _ (List.Sublist.cons₂ _ (List.Sublist.cons₂ _ (List.Sublist.cons₂ _ List.Sublist.slnil)))))) ?_
            refine rt_hard1 (i := 10) (by kernel_rfl) rfl ?_
            apply rg_post (by rfl) (by kernel_rfl)
            case hargs => (simp only [qm, qs, Act.eval]; exact rfl)
            case h => exact fun w hw => minus_any En.oneR vm fone fvm w
            case hz => exact (fun _ h => by cases h; exact (List.Sublist.cons _ (List.Sublist.cons₂ _ (List.Sublist.cons₂ _ (List.Sublist.cons₂ _ (List.Sublist.cons₂ _ (List.Sublist.cons₂ _ List.Sublist.slnil)))))))
            case ke =>
              intro c hc w hw
              exact star_err (p := p) (q := q) (by simp only [En.star, hvm.out, hc, ebind_ok, ebind_err, epure]) hok.out hw (List.Sublist.cons _ (List.Sublist.cons _ (List.Sublist.cons₂ _ (List.Sublist.cons₂ _ (List.Sublist.cons _ (List.Sublist.cons _ List.Sublist.slnil)))))) rfl rfl
            case k =>
              intro vd hvd
              simp only [Act.put, Act.eval, qn, qv, Nat.reduceAdd]
              have fvd := En.Rc.fit_of_ok (En.minus_ok hvd)
              replace hvd := Lib.hid hvd
              refine rg_nil ?_
              refine ek_rt (List.Sublist.cons _ (List.Sublist.cons₂ _ (List.Sublist.cons₂ _ (List.Sublist.cons₂ _ (List.Sublist.cons₂ _ (List.Sublist.cons₂ _ List.Sublist.slnil)))))) ?_
              refine rt_hard1 (i := 12) (by kernel_rfl) rfl ?_
              refine rf_storeR (n := 4) rfl rfl (by kernel_rfl) rfl rfl (UpdR.here _ _ _ (Nat.le_of_ble_eq_true rfl)) (fun _ h => by cases h; exact (List.Sublist.cons _ (List.Sublist.cons₂ _ (List.Sublist.cons₂ _ (List.Sublist.cons₂ _ (List.Sublist.cons₂ _ (List.Sublist.cons₂ _ List.Sublist.slnil))))))) ?_
              simp only [Act.put, Act.eval, qn, qv, Nat.reduceAdd]
              refine rg_nil ?_
              refine ek_rt (List.Sublist.cons _ (List.Sublist.cons₂ _ (List.Sublist.cons₂ _ (List.Sublist.cons₂ _ (List.Sublist.cons₂ _ (List.Sublist.cons₂ _ List.Sublist.slnil)))))) ?_
              refine rt_nil (by kernel_rfl) ?_
              refine ek_sub (List.Sublist.cons₂ _ (List.Sublist.cons _ (List.Sublist.cons₂ _ (List.Sublist.cons₂ _ (List.Sublist.cons₂ _ (List.Sublist.cons₂ _ List.Sublist.slnil)))))) ?_
              refine ek_midF (by kernel_rfl) ?_
              exact ⟨g8, vm, vd, rfl, by rfl, hvm, hvd⟩
      · refine rg_new (cs := ?_) (ty := ?_) (by rfl) (fun w => ?_) (fun _ h => by cases h; exact (List.Sublist.cons₂ _ (List.Sublist.cons₂ _ (List.Sublist.cons₂ _ (List.Sublist.cons₂ _ (List.Sublist.cons₂ _ List.Sublist.slnil)))))) (fun g9 => ?_); rotate_left 2
        focus (go_simp; rfl)
        simp only [Act.put, Act.eval, qn, qv, Nat.reduceAdd]
        refine rg_nil ?_
        refine ek_rt (List.Sublist.cons _ (List.Sublist.cons₂ _ (List.Sublist.cons₂ _ (List.Sublist.cons₂ _ (List.Sublist.cons₂ _ (List.Sublist.cons₂ _ List.Sublist.slnil)))))) ?_
        refine rt_hard1 (i := 0) (by kernel_rfl) rfl ?_
        apply rg_pure (by rfl) (by kernel_rfl)
        case hargs => (simp only [qm, qs, Act.eval]; exact rfl)
        case h => exact fun w hw => point1_any w
        case hz => exact (fun _ h => by cases h; exact (List.Sublist.cons _ (List.Sublist.cons₂ _ (List.Sublist.cons₂ _ (List.Sublist.cons₂ _ (List.Sublist.cons₂ _ (List.Sublist.cons₂ _ List.Sublist.slnil)))))))
        simp only [Act.put, Act.eval, qn, qv, Nat.reduceAdd]
        refine rg_nil ?_
        refine ek_rt (List.Sublist.cons _ (List.Sublist.cons₂ _ (List.Sublist.cons₂ _ (List.Sublist.cons₂ _ (List.Sublist.cons₂ _ (List.Sublist.cons₂ _ List.Sublist.slnil)))))) ?_
        refine rt_hard1 (i := 9) (by kernel_rfl) rfl ?_
        apply rg_post (by rfl) (by kernel_rfl)
        case hargs => (simp only [qm, qs, Act.eval]; exact rfl)
        case h => exact fun w hw => times_any p.s11 q.s00 fp11 fq00 w
        case hz => exact (fun _ h => by cases h; exact (List.Sublist.cons _ (List.Sublist.cons₂ _ (List.Sublist.cons₂ _ (List.Sublist.cons₂ _ (List.Sublist.cons₂ _ (List.Sublist.cons₂ _ List.Sublist.slnil)))))))
        case ke =>
          intro c hc w hw
          exact star_err (p := p) (q := q) (by simp only [En.star, hc, ebind_ok, ebind_err, epure]) hok.out hw (List.Sublist.cons _ (List.Sublist.cons _ (List.Sublist.cons₂ _ (List.Sublist.cons₂ _ (List.Sublist.cons _ (List.Sublist.cons _ List.Sublist.slnil)))))) rfl rfl
        case k =>
          intro vm hvm
          simp only [Act.put, Act.eval, qn, qv, Nat.reduceAdd]
          have fvm := En.Rc.fit_of_ok (En.times_ok hvm)
          replace hvm := Lib.hid hvm
          refine rg_nil ?_
          refine ek_rt (List.Sublist.cons _ (List.Sublist.cons₂ _ (List.Sublist.cons₂ _ (List.Sublist.cons₂ _ (List.Sublist.cons₂ _ (List.Sublist.cons₂ _ List.Sublist.slnil)))))) ?_
          refine rt_hard1 (i := 10) (by kernel_rfl) rfl ?_
          apply rg_post (by rfl) (by kernel_rfl)
          case hargs => (simp only [qm, qs, Act.eval]; exact rfl)
          case h => exact fun w hw => minus_any En.oneR vm fone fvm w
          case hz => exact (fun _ h => by cases h; exact (List.Sublist.cons _ (List.Sublist.cons₂ _ (List.Sublist.cons₂ _ (List.Sublist.cons₂ _ (List.Sublist.cons₂ _ (List.Sublist.cons₂ _ List.Sublist.slnil)))))))
          case ke =>
            intro c hc w hw
            exact star_err (p := p) (q := q) (by simp only [En.star, hvm.out, hc, ebind_ok, ebind_err, epure]) hok.out hw (List.Sublist.cons _ (List.Sublist.cons _ (List.Sublist.cons₂ _ (List.Sublist.cons₂ _ (List.Sublist.cons _ (List.Sublist.cons _ List.Sublist.slnil)))))) rfl rfl
          case k =>
            intro vd hvd
            simp only [Act.put, Act.eval, qn, qv, Nat.reduceAdd]
            have fvd := En.Rc.fit_of_ok (En.minus_ok hvd)
            replace hvd := Lib.hid hvd
            refine rg_nil ?_
            refine ek_rt (List.Sublist.cons _ (List.Sublist.cons₂ _ (List.Sublist.cons₂ _ (List.Sublist.cons₂ _ (List.Sublist.cons₂ _ (List.Sublist.cons₂ _ List.Sublist.slnil)))))) ?_
            refine rt_hard1 (i := 12) (by kernel_rfl) rfl ?_
            refine rf_storeR (n := 4) rfl rfl (by kernel_rfl) rfl rfl (UpdR.here _ _ _ (Nat.le_of_ble_eq_true rfl)) (fun _ h => by cases h; exact (List.Sublist.cons _ (List.Sublist.cons₂ _ (List.Sublist.cons₂ _ (List.Sublist.cons₂ _ (List.Sublist.cons₂ _ (List.Sublist.cons₂ _ List.Sublist.slnil))))))) ?_
            simp only [Act.put, Act.eval, qn, qv, Nat.reduceAdd]
            refine rg_nil ?_
            refine ek_rt (List.Sublist.cons _ (List.Sublist.cons₂ _ (List.Sublist.cons₂ _ (List.Sublist.cons₂ _ (List.Sublist.cons₂ _ (List.Sublist.cons₂ _ List.Sublist.slnil)))))) ?_
            refine rt_nil (by kernel_rfl) ?_
            refine ek_sub (List.Sublist.cons₂ _ (List.Sublist.cons _ (List.Sublist.cons₂ _ (List.Sublist.cons₂ _ (List.Sublist.cons₂ _ (List.Sublist.cons₂ _ List.Sublist.slnil)))))) ?_
            refine ek_midF (by kernel_rfl) ?_
            exact ⟨g9, vm, vd, rfl, by rfl, hvm, hvd⟩
    · rintro f1 s ⟨gd, vm, vd, hs1_6, rfl, hvm, hvd⟩
      simp only [Act.putF, List.foldl_cons, List.foldl_nil, hs1_6, Act.put, Act.eval, q1, q2, q3, q4, q5, q6, q7, q8, q9, q10, q11, q12, q13, q14, q15, q16, q17, q18, Nat.reduceAdd, Bool.not_true, Bool.not_false]
      clear hs1_6
      have fvd := En.Rc.fit_of_ok (En.minus_ok hvd.out)
      refine wk_cutF [7, 26, 27, 28, 29, 30, 31, 32, 33, 34, 35, 36, 37, 38, 39, 40, 41] (fun f s => ∃ (ga : Nat) (va vb vr : En.Rc), f 7 = .pointer (some ⟨ga, 0, none⟩) ∧ s = ((ga, .cells #[.int .i64 vr.re.lo, .int .i64 vr.re.hi, .int .i64 vr.im.lo, .int .i64 vr.im.hi] 25) :: ((gd, .cells #[.int .i64 vd.re.lo, .int .i64 vd.re.hi, .int .i64 vd.im.lo, .int .i64 vd.im.hi] 25) :: ((g4, .cells #[.int .i64 0] 26) :: ((g3, .cells #[.int .i64 0, .int .i64 0, .int .i64 0, .int .i64 0, .int .i64 0, .int .i64 0, .int .i64 0, .int .i64 0, .int .i64 0, .int .i64 0, .int .i64 0, .int .i64 0, .int .i64 0, .int .i64 0, .int .i64 0, .int .i64 0] 49) :: ((g2, .cells #[.int .i64 q.s00.re.lo, .int .i64 q.s00.re.hi, .int .i64 q.s00.im.lo, .int .i64 q.s00.im.hi, .int .i64 q.s01.re.lo, .int .i64 q.s01.re.hi, .int .i64 q.s01.im.lo, .int .i64 q.s01.im.hi, .int .i64 q.s10.re.lo, .int .i64 q.s10.re.hi, .int .i64 q.s10.im.lo, .int .i64 q.s10.im.hi, .int .i64 q.s11.re.lo, .int .i64 q.s11.re.hi, .int .i64 q.s11.im.lo, .int .i64 q.s11.im.hi] 49) :: ((g1, .cells #[.int .i64 p.s00.re.lo, .int .i64 p.s00.re.hi, .int .i64 p.s00.im.lo, .int .i64 p.s00.im.hi, .int .i64 p.s01.re.lo, .int .i64 p.s01.re.hi, .int .i64 p.s01.im.lo, .int .i64 p.s01.im.hi, .int .i64 p.s10.re.lo, .int .i64 p.s10.re.hi, .int .i64 p.s10.im.lo, .int .i64 p.s10.im.hi, .int .i64 p.s11.re.lo, .int .i64 p.s11.re.hi, .int .i64 p.s11.im.lo, .int .i64 p.s11.im.hi] 49) :: [])))))) ∧ RowKit.Hid (En.times p.s01 q.s00 = .ok va) ∧ RowKit.Hid (En.times va p.s10 = .ok vb) ∧ RowKit.Hid (En.quotient vb vd = .ok vr)) ?_ ?_
      · refine wk_rt _ (by kernel_rfl) (List.Sublist.cons₂ _ (List.Sublist.cons₂ _ (List.Sublist.cons₂ _ (List.Sublist.cons₂ _ (List.Sublist.cons₂ _ List.Sublist.slnil))))) ?_
        refine rt_softD (i := 0) rfl (by kernel_rfl) (fun c v a w h => leaves_tmps (t := (Act.put a (some 26) v).tmps) (fun w => results_cc_put (fn := Try.f49) rfl (by decide) (by decide) w) _ _ _ h) (List.Sublist.cons₂ _ (List.Sublist.cons₂ _ (List.Sublist.cons₂ _ (List.Sublist.cons₂ _ (List.Sublist.cons₂ _ List.Sublist.slnil))))) ?_
        refine rf_field (n := 15) (j := 0) rfl rfl rfl Try.underlying49 rfl (by kernel_rfl) rfl ?_
        simp only [Act.put, Act.eval, qn, qv, Nat.reduceAdd]
        refine rg_nil ?_
        refine ek_rt (List.Sublist.cons₂ _ (List.Sublist.cons₂ _ (List.Sublist.cons₂ _ (List.Sublist.cons₂ _ (List.Sublist.cons₂ _ List.Sublist.slnil))))) ?_
        refine rt_softD (i := 1) rfl (by kernel_rfl) (fun c v a w h => leaves_tmps (t := (Act.put a (some 27) v).tmps) (fun w => results_cc_put (fn := Try.f49) rfl (by decide) (by decide) w) _ _ _ h) (List.Sublist.cons₂ _ (List.Sublist.cons₂ _ (List.Sublist.cons₂ _ (List.Sublist.cons₂ _ (List.Sublist.cons₂ _ List.Sublist.slnil))))) ?_
        refine rf_indexA (n := 0) (sz := 8) (j := 0) rfl rfl rfl rfl Try.underlying47 (by kernel_rfl) (by decide) rfl ?_
        simp only [Act.put, Act.eval, qn, qv, Nat.reduceAdd]
        refine rg_nil ?_
        refine ek_rt (List.Sublist.cons₂ _ (List.Sublist.cons₂ _ (List.Sublist.cons₂ _ (List.Sublist.cons₂ _ (List.Sublist.cons₂ _ List.Sublist.slnil))))) ?_
        refine rt_softD (i := 2) rfl (by kernel_rfl) (fun c v a w h => leaves_tmps (t := (Act.put a (some 28) v).tmps) (fun w => results_cc_put (fn := Try.f49) rfl (by decide) (by decide) w) _ _ _ h) (List.Sublist.cons₂ _ (List.Sublist.cons₂ _ (List.Sublist.cons₂ _ (List.Sublist.cons₂ _ (List.Sublist.cons₂ _ List.Sublist.slnil))))) ?_
        refine rf_indexA (n := 1) (sz := 4) (j := 4) rfl rfl rfl rfl Try.underlying46 (by kernel_rfl) (by decide) rfl ?_
        simp only [Act.put, Act.eval, qn, qv, Nat.reduceAdd]
        refine rg_nil ?_
        refine ek_rt (List.Sublist.cons₂ _ (List.Sublist.cons₂ _ (List.Sublist.cons₂ _ (List.Sublist.cons₂ _ (List.Sublist.cons₂ _ List.Sublist.slnil))))) ?_
        refine rt_softD (i := 3) rfl (by kernel_rfl) (fun c v a w h => leaves_tmps (t := (Act.put a (some 29) v).tmps) (fun w => results_cc_put (fn := Try.f49) rfl (by decide) (by decide) w) _ _ _ h) (List.Sublist.cons₂ _ (List.Sublist.cons₂ _ (List.Sublist.cons₂ _ (List.Sublist.cons₂ _ (List.Sublist.cons₂ _ List.Sublist.slnil))))) ?_
        refine rf_loadR (n := 4) rfl rfl rfl Try.underlying25 rfl (by kernel_rfl) (fun w hw => Kn.hd0 (Kn.tl (Kn.tl (Kn.tl (Kn.tl hw))))) rfl rfl ?_
        simp only [Act.put, Act.eval, qn, qv, Nat.reduceAdd]
        refine rg_nil ?_
        refine ek_rt (List.Sublist.cons₂ _ (List.Sublist.cons₂ _ (List.Sublist.cons₂ _ (List.Sublist.cons₂ _ (List.Sublist.cons₂ _ List.Sublist.slnil))))) ?_
        refine rt_softD (i := 4) rfl (by kernel_rfl) (fun c v a w h => leaves_tmps (t := (Act.put a (some 30) v).tmps) (fun w => results_cc_put (fn := Try.f49) rfl (by decide) (by decide) w) _ _ _ h) (List.Sublist.cons₂ _ (List.Sublist.cons₂ _ (List.Sublist.cons₂ _ (List.Sublist.cons₂ _ (List.Sublist.cons₂ _ List.Sublist.slnil))))) ?_
        refine rf_field (n := 15) (j := 0) rfl rfl rfl Try.underlying49 rfl (by kernel_rfl) rfl ?_
        simp only [Act.put, Act.eval, qn, qv, Nat.reduceAdd]
        refine rg_nil ?_
        refine ek_rt (List.Sublist.cons₂ _ (List.Sublist.cons₂ _ (List.Sublist.cons₂ _ (List.Sublist.cons₂ _ (List.Sublist.cons₂ _ List.Sublist.slnil))))) ?_
        refine rt_softD (i := 5) rfl (by kernel_rfl) (fun c v a w h => leaves_tmps (t := (Act.put a (some 31) v).tmps) (fun w => results_cc_put (fn := Try.f49) rfl (by decide) (by decide) w) _ _ _ h) (List.Sublist.cons₂ _ (List.Sublist.cons₂ _ (List.Sublist.cons₂ _ (List.Sublist.cons₂ _ (List.Sublist.cons₂ _ List.Sublist.slnil))))) ?_
        refine rf_indexA (n := 0) (sz := 8) (j := 0) rfl rfl rfl rfl Try.underlying47 (by kernel_rfl) (by decide) rfl ?_
        simp only [Act.put, Act.eval, qn, qv, Nat.reduceAdd]
        refine rg_nil ?_
        refine ek_rt (List.Sublist.cons₂ _ (List.Sublist.cons₂ _ (List.Sublist.cons₂ _ (List.Sublist.cons₂ _ (List.Sublist.cons₂ _ List.Sublist.slnil))))) ?_
        refine rt_softD (i := 6) rfl (by kernel_rfl) (fun c v a w h => leaves_tmps (t := (Act.put a (some 32) v).tmps) (fun w => results_cc_put (fn := Try.f49) rfl (by decide) (by decide) w) _ _ _ h) (List.Sublist.cons₂ _ (List.Sublist.cons₂ _ (List.Sublist.cons₂ _ (List.Sublist.cons₂ _ (List.Sublist.cons₂ _ List.Sublist.slnil))))) ?_
        refine rf_indexA (n := 0) (sz := 4) (j := 0) rfl rfl rfl rfl Try.underlying46 (by kernel_rfl) (by decide) rfl ?_
        simp only [Act.put, Act.eval, qn, qv, Nat.reduceAdd]
        refine rg_nil ?_
        refine ek_rt (List.Sublist.cons₂ _ (List.Sublist.cons₂ _ (List.Sublist.cons₂ _ (List.Sublist.cons₂ _ (List.Sublist.cons₂ _ List.Sublist.slnil))))) ?_
        refine rt_softD (i := 7) rfl (by kernel_rfl) (fun c v a w h => leaves_tmps (t := (Act.put a (some 33) v).tmps) (fun w => results_cc_put (fn := Try.f49) rfl (by decide) (by decide) w) _ _ _ h) (List.Sublist.cons₂ _ (List.Sublist.cons₂ _ (List.Sublist.cons₂ _ (List.Sublist.cons₂ _ (List.Sublist.cons₂ _ List.Sublist.slnil))))) ?_
        refine rf_loadR (n := 4) rfl rfl rfl Try.underlying25 rfl (by kernel_rfl) (fun w hw => Kn.hd0 (Kn.tl (Kn.tl (Kn.tl hw)))) rfl rfl ?_
        simp only [Act.put, Act.eval, qn, qv, Nat.reduceAdd]
        refine rg_nil ?_
        refine ek_rt (List.Sublist.cons₂ _ (List.Sublist.cons₂ _ (List.Sublist.cons₂ _ (List.Sublist.cons₂ _ (List.Sublist.cons₂ _ List.Sublist.slnil))))) ?_
        refine rt_softD (i := 9) rfl (by kernel_rfl) (fun c v a w h => leaves_tmps (t := (Act.put a (some 35) v).tmps) (fun w => results_cc_put (fn := Try.f49) rfl (by decide) (by decide) w) _ _ _ h) (List.Sublist.cons₂ _ (List.Sublist.cons₂ _ (List.Sublist.cons₂ _ (List.Sublist.cons₂ _ (List.Sublist.cons₂ _ List.Sublist.slnil))))) ?_
        refine rf_field (n := 15) (j := 0) rfl rfl rfl Try.underlying49 rfl (by kernel_rfl) rfl ?_
        simp only [Act.put, Act.eval, qn, qv, Nat.reduceAdd]
        refine rg_nil ?_
        refine ek_rt (List.Sublist.cons₂ _ (List.Sublist.cons₂ _ (List.Sublist.cons₂ _ (List.Sublist.cons₂ _ (List.Sublist.cons₂ _ List.Sublist.slnil))))) ?_
        refine rt_softD (i := 10) rfl (by kernel_rfl) (fun c v a w h => leaves_tmps (t := (Act.put a (some 36) v).tmps) (fun w => results_cc_put (fn := Try.f49) rfl (by decide) (by decide) w) _ _ _ h) (List.Sublist.cons₂ _ (List.Sublist.cons₂ _ (List.Sublist.cons₂ _ (List.Sublist.cons₂ _ (List.Sublist.cons₂ _ List.Sublist.slnil))))) ?_
        refine rf_indexA (n := 1) (sz := 8) (j := 8) rfl rfl rfl rfl Try.underlying47 (by kernel_rfl) (by decide) rfl ?_
        simp only [Act.put, Act.eval, qn, qv, Nat.reduceAdd]
        refine rg_nil ?_
        refine ek_rt (List.Sublist.cons₂ _ (List.Sublist.cons₂ _ (List.Sublist.cons₂ _ (List.Sublist.cons₂ _ (List.Sublist.cons₂ _ List.Sublist.slnil))))) ?_
        refine rt_softD (i := 11) rfl (by kernel_rfl) (fun c v a w h => leaves_tmps (t := (Act.put a (some 37) v).tmps) (fun w => results_cc_put (fn := Try.f49) rfl (by decide) (by decide) w) _ _ _ h) (List.Sublist.cons₂ _ (List.Sublist.cons₂ _ (List.Sublist.cons₂ _ (List.Sublist.cons₂ _ (List.Sublist.cons₂ _ List.Sublist.slnil))))) ?_
        refine rf_indexA (n := 0) (sz := 4) (j := 8) rfl rfl rfl rfl Try.underlying46 (by kernel_rfl) (by decide) rfl ?_
        simp only [Act.put, Act.eval, qn, qv, Nat.reduceAdd]
        refine rg_nil ?_
        refine ek_rt (List.Sublist.cons₂ _ (List.Sublist.cons₂ _ (List.Sublist.cons₂ _ (List.Sublist.cons₂ _ (List.Sublist.cons₂ _ List.Sublist.slnil))))) ?_
        refine rt_softD (i := 12) rfl (by kernel_rfl) (fun c v a w h => leaves_tmps (t := (Act.put a (some 38) v).tmps) (fun w => results_cc_put (fn := Try.f49) rfl (by decide) (by decide) w) _ _ _ h) (List.Sublist.cons₂ _ (List.Sublist.cons₂ _ (List.Sublist.cons₂ _ (List.Sublist.cons₂ _ (List.Sublist.cons₂ _ List.Sublist.slnil))))) ?_
        refine rf_loadR (n := 4) rfl rfl rfl Try.underlying25 rfl (by kernel_rfl) (fun w hw => Kn.hd0 (Kn.tl (Kn.tl (Kn.tl (Kn.tl hw))))) rfl rfl ?_
        simp only [Act.put, Act.eval, qn, qv, Nat.reduceAdd]
        refine rg_nil ?_
        refine ek_rt (List.Sublist.cons₂ _ (List.Sublist.cons₂ _ (List.Sublist.cons₂ _ (List.Sublist.cons₂ _ (List.Sublist.cons₂ _ List.Sublist.slnil))))) ?_
        refine rt_softD (i := 14) rfl (by kernel_rfl) (fun c v a w h => leaves_tmps (t := (Act.put a (some 40) v).tmps) (fun w => results_cc_put (fn := Try.f49) rfl (by decide) (by decide) w) _ _ _ h) (List.Sublist.cons₂ _ (List.Sublist.cons₂ _ (List.Sublist.cons₂ _ (List.Sublist.cons₂ _ (List.Sublist.cons₂ _ List.Sublist.slnil))))) ?_
        refine rf_loadR (n := 4) rfl rfl rfl Try.underlying25 rfl (by kernel_rfl) (fun w hw => Kn.hd0 hw) rfl rfl ?_
        simp only [Act.put, Act.eval, qn, qv, Nat.reduceAdd]
        refine rg_nil ?_
        refine ek_rt (List.Sublist.cons₂ _ (List.Sublist.cons₂ _ (List.Sublist.cons₂ _ (List.Sublist.cons₂ _ (List.Sublist.cons₂ _ List.Sublist.slnil))))) ?_
        refine rt_hard2 (i := 8) (j := 16) (by kernel_rfl) rfl rfl ?_ ?_
        · apply rg_post (by rfl) (by kernel_rfl)
          case hargs => (simp only [qm, qs, Act.eval]; exact rfl)
          case h => exact fun w hw => times_any p.s01 q.s00 fp01 fq00 w
          case hz => exact (fun _ h => by cases h; exact (List.Sublist.cons₂ _ (List.Sublist.cons₂ _ (List.Sublist.cons₂ _ (List.Sublist.cons₂ _ (List.Sublist.cons₂ _ List.Sublist.slnil))))))
          case ke =>
            intro c hc w hw
            exact star_err (p := p) (q := q) (by simp only [En.star, hvm.out, hvd.out, hc, ebind_ok, ebind_err, epure]) hok.out hw (List.Sublist.cons _ (List.Sublist.cons₂ _ (List.Sublist.cons₂ _ (List.Sublist.cons _ (List.Sublist.cons _ List.Sublist.slnil))))) rfl rfl
          case k =>
            intro va hva
            simp only [Act.put, Act.eval, qn, qv, Nat.reduceAdd]
            have fva := En.Rc.fit_of_ok (En.times_ok hva)
            replace hva := Lib.hid hva
            refine rg_nil ?_
            refine ek_rt (List.Sublist.cons₂ _ (List.Sublist.cons₂ _ (List.Sublist.cons₂ _ (List.Sublist.cons₂ _ (List.Sublist.cons₂ _ List.Sublist.slnil))))) ?_
            refine rt_hard2 (i := 13) (j := 16) (by kernel_rfl) rfl rfl ?_ ?_
            · apply rg_post (by rfl) (by kernel_rfl)
              case hargs => (simp only [qm, qs, Act.eval]; exact rfl)
              case h => exact fun w hw => times_any va p.s10 fva fp10 w
              case hz => exact (fun _ h => by cases h; exact (List.Sublist.cons₂ _ (List.Sublist.cons₂ _ (List.Sublist.cons₂ _ (List.Sublist.cons₂ _ (List.Sublist.cons₂ _ List.Sublist.slnil))))))
              case ke =>
                intro c hc w hw
                exact star_err (p := p) (q := q) (by simp only [En.star, hvm.out, hvd.out, hva.out, hc, ebind_ok, ebind_err, epure]) hok.out hw (List.Sublist.cons _ (List.Sublist.cons₂ _ (List.Sublist.cons₂ _ (List.Sublist.cons _ (List.Sublist.cons _ List.Sublist.slnil))))) rfl rfl
              case k =>
                intro vb hvb
                simp only [Act.put, Act.eval, qn, qv, Nat.reduceAdd]
                have fvb := En.Rc.fit_of_ok (En.times_ok hvb)
                replace hvb := Lib.hid hvb
                refine rg_nil ?_
                refine ek_rt (List.Sublist.cons₂ _ (List.Sublist.cons₂ _ (List.Sublist.cons₂ _ (List.Sublist.cons₂ _ (List.Sublist.cons₂ _ List.Sublist.slnil))))) ?_
                refine rt_hard2 (i := 15) (j := 16) (by kernel_rfl) rfl rfl ?_ ?_
                · apply rg_post (by rfl) (by kernel_rfl)
                  case hargs => (simp only [qm, qs, Act.eval]; exact rfl)
                  case h => exact fun w hw => quotient_any vb vd fvb fvd w
                  case hz => exact (fun _ h => by cases h; exact (List.Sublist.cons₂ _ (List.Sublist.cons₂ _ (List.Sublist.cons₂ _ (List.Sublist.cons₂ _ (List.Sublist.cons₂ _ List.Sublist.slnil))))))
                  case ke =>
                    intro c hc w hw
                    exact star_err (p := p) (q := q) (by simp only [En.star, hvm.out, hvd.out, hva.out, hvb.out, hc, ebind_ok, ebind_err, epure]) hok.out hw (List.Sublist.cons _ (List.Sublist.cons₂ _ (List.Sublist.cons₂ _ (List.Sublist.cons _ (List.Sublist.cons _ List.Sublist.slnil))))) rfl rfl
                  case k =>
                    intro vr hvr
                    simp only [Act.put, Act.eval, qn, qv, Nat.reduceAdd]
                    have fvr := En.Rc.fit_of_ok (En.quotient_ok hvr)
                    replace hvr := Lib.hid hvr
                    refine rg_nil ?_
                    refine ek_rt (List.Sublist.cons₂ _ (List.Sublist.cons₂ _ (List.Sublist.cons₂ _ (List.Sublist.cons₂ _ (List.Sublist.cons₂ _ List.Sublist.slnil))))) ?_
                    refine rt_hard1 (i := 16) (by kernel_rfl) rfl ?_
                    refine rg_new (cs := ?_) (ty := ?_) (by rfl) (fun w => ?_) (fun _ h => by cases h; exact (List.Sublist.cons₂ _ (List.Sublist.cons₂ _ (List.Sublist.cons₂ _ (List.Sublist.cons₂ _ (List.Sublist.cons₂ _ List.Sublist.slnil)))))) (fun g10 => ?_); rotate_left 2
                    focus (go_simp; rfl)
                    simp only [Act.put, Act.eval, qn, qv, Nat.reduceAdd]
                    refine rg_nil ?_
                    refine ek_rt (List.Sublist.cons _ (List.Sublist.cons₂ _ (List.Sublist.cons₂ _ (List.Sublist.cons₂ _ (List.Sublist.cons₂ _ (List.Sublist.cons₂ _ List.Sublist.slnil)))))) ?_
                    refine rt_hard1 (i := 17) (by kernel_rfl) rfl ?_
                    refine rf_storeR (n := 4) rfl rfl (by kernel_rfl) rfl rfl (UpdR.here _ _ _ (Nat.le_of_ble_eq_true rfl)) (fun _ h => by cases h; exact (List.Sublist.cons _ (List.Sublist.cons₂ _ (List.Sublist.cons₂ _ (List.Sublist.cons₂ _ (List.Sublist.cons₂ _ (List.Sublist.cons₂ _ List.Sublist.slnil))))))) ?_
                    simp only [Act.put, Act.eval, qn, qv, Nat.reduceAdd]
                    refine rg_nil ?_
                    refine ek_rt (List.Sublist.cons _ (List.Sublist.cons₂ _ (List.Sublist.cons₂ _ (List.Sublist.cons₂ _ (List.Sublist.cons₂ _ (List.Sublist.cons₂ _ List.Sublist.slnil)))))) ?_
                    refine rt_nil (by kernel_rfl) ?_
                    refine ek_midF (by kernel_rfl) ?_
                    exact ⟨g10, va, vb, vr, rfl, by rfl, hva, hvb, hvr⟩
                · refine rg_new (cs := ?_) (ty := ?_) (by rfl) (fun w => ?_) (fun _ h => by cases h; exact (List.Sublist.cons₂ _ (List.Sublist.cons₂ _ (List.Sublist.cons₂ _ (List.Sublist.cons₂ _ (List.Sublist.cons₂ _ List.Sublist.slnil)))))) (fun g11 => ?_); rotate_left 2
                  focus (go_simp; rfl)
                  simp only [Act.put, Act.eval, qn, qv, Nat.reduceAdd]
                  refine rg_nil ?_
                  refine ek_rt (List.Sublist.cons _ (List.Sublist.cons₂ _ (List.Sublist.cons₂ _ (List.Sublist.cons₂ _ (List.Sublist.cons₂ _ (List.Sublist.cons₂ _ List.Sublist.slnil)))))) ?_
                  refine rt_hard1 (i := 15) (by kernel_rfl) rfl ?_
                  apply rg_post (by rfl) (by kernel_rfl)
                  case hargs => (simp only [qm, qs, Act.eval]; exact rfl)
                  case h => exact fun w hw => quotient_any vb vd fvb fvd w
                  case hz => exact (fun _ h => by cases h; exact (List.Sublist.cons _ (List.Sublist.cons₂ _ (List.Sublist.cons₂ _ (List.Sublist.cons₂ _ (List.Sublist.cons₂ _ (List.Sublist.cons₂ _ List.Sublist.slnil)))))))
                  case ke =>
                    intro c hc w hw
                    exact star_err (p := p) (q := q) (by simp only [En.star, hvm.out, hvd.out, hva.out, hvb.out, hc, ebind_ok, ebind_err, epure]) hok.out hw (List.Sublist.cons _ (List.Sublist.cons _ (List.Sublist.cons₂ _ (List.Sublist.cons₂ _ (List.Sublist.cons _ (List.Sublist.cons _ List.Sublist.slnil)))))) rfl rfl
                  case k =>
                    intro vr hvr
                    simp only [Act.put, Act.eval, qn, qv, Nat.reduceAdd]
                    have fvr := En.Rc.fit_of_ok (En.quotient_ok hvr)
                    replace hvr := Lib.hid hvr
                    refine rg_nil ?_
                    refine ek_rt (List.Sublist.cons _ (List.Sublist.cons₂ _ (List.Sublist.cons₂ _ (List.Sublist.cons₂ _ (List.Sublist.cons₂ _ (List.Sublist.cons₂ _ List.Sublist.slnil)))))) ?_
                    refine rt_hard1 (i := 17) (by kernel_rfl) rfl ?_
                    refine rf_storeR (n := 4) rfl rfl (by kernel_rfl) rfl rfl (UpdR.here _ _ _ (Nat.le_of_ble_eq_true rfl)) (fun _ h => by cases h; exact (List.Sublist.cons _ (List.Sublist.cons₂ _ (List.Sublist.cons₂ _ (List.Sublist.cons₂ _ (List.Sublist.cons₂ _ (List.Sublist.cons₂ _ List.Sublist.slnil))))))) ?_
                    simp only [Act.put, Act.eval, qn, qv, Nat.reduceAdd]
                    refine rg_nil ?_
                    refine ek_rt (List.Sublist.cons _ (List.Sublist.cons₂ _ (List.Sublist.cons₂ _ (List.Sublist.cons₂ _ (List.Sublist.cons₂ _ (List.Sublist.cons₂ _ List.Sublist.slnil)))))) ?_
                    refine rt_nil (by kernel_rfl) ?_
                    refine ek_midF (by kernel_rfl) ?_
                    exact ⟨g11, va, vb, vr, rfl, by rfl, hva, hvb, hvr⟩
            · refine rg_new (cs := ?_) (ty := ?_) (by rfl) (fun w => ?_) (fun _ h => by cases h; exact (List.Sublist.cons₂ _ (List.Sublist.cons₂ _ (List.Sublist.cons₂ _ (List.Sublist.cons₂ _ (List.Sublist.cons₂ _ List.Sublist.slnil)))))) (fun g12 => ?_); rotate_left 2
              focus (go_simp; rfl)
              simp only [Act.put, Act.eval, qn, qv, Nat.reduceAdd]
              refine rg_nil ?_
              refine ek_rt (List.Sublist.cons _ (List.Sublist.cons₂ _ (List.Sublist.cons₂ _ (List.Sublist.cons₂ _ (List.Sublist.cons₂ _ (List.Sublist.cons₂ _ List.Sublist.slnil)))))) ?_
              refine rt_hard1 (i := 13) (by kernel_rfl) rfl ?_
              apply rg_post (by rfl) (by kernel_rfl)
              case hargs => (simp only [qm, qs, Act.eval]; exact rfl)
              case h => exact fun w hw => times_any va p.s10 fva fp10 w
              case hz => exact (fun _ h => by cases h; exact (List.Sublist.cons _ (List.Sublist.cons₂ _ (List.Sublist.cons₂ _ (List.Sublist.cons₂ _ (List.Sublist.cons₂ _ (List.Sublist.cons₂ _ List.Sublist.slnil)))))))
              case ke =>
                intro c hc w hw
                exact star_err (p := p) (q := q) (by simp only [En.star, hvm.out, hvd.out, hva.out, hc, ebind_ok, ebind_err, epure]) hok.out hw (List.Sublist.cons _ (List.Sublist.cons _ (List.Sublist.cons₂ _ (List.Sublist.cons₂ _ (List.Sublist.cons _ (List.Sublist.cons _ List.Sublist.slnil)))))) rfl rfl
              case k =>
                intro vb hvb
                simp only [Act.put, Act.eval, qn, qv, Nat.reduceAdd]
                have fvb := En.Rc.fit_of_ok (En.times_ok hvb)
                replace hvb := Lib.hid hvb
                refine rg_nil ?_
                refine ek_rt (List.Sublist.cons _ (List.Sublist.cons₂ _ (List.Sublist.cons₂ _ (List.Sublist.cons₂ _ (List.Sublist.cons₂ _ (List.Sublist.cons₂ _ List.Sublist.slnil)))))) ?_
                refine rt_hard1 (i := 15) (by kernel_rfl) rfl ?_
                apply rg_post (by rfl) (by kernel_rfl)
                case hargs => (simp only [qm, qs, Act.eval]; exact rfl)
                case h => exact fun w hw => quotient_any vb vd fvb fvd w
                case hz => exact (fun _ h => by cases h; exact (List.Sublist.cons _ (List.Sublist.cons₂ _ (List.Sublist.cons₂ _ (List.Sublist.cons₂ _ (List.Sublist.cons₂ _ (List.Sublist.cons₂ _ List.Sublist.slnil)))))))
                case ke =>
                  intro c hc w hw
                  exact star_err (p := p) (q := q) (by simp only [En.star, hvm.out, hvd.out, hva.out, hvb.out, hc, ebind_ok, ebind_err, epure]) hok.out hw (List.Sublist.cons _ (List.Sublist.cons _ (List.Sublist.cons₂ _ (List.Sublist.cons₂ _ (List.Sublist.cons _ (List.Sublist.cons _ List.Sublist.slnil)))))) rfl rfl
                case k =>
                  intro vr hvr
                  simp only [Act.put, Act.eval, qn, qv, Nat.reduceAdd]
                  have fvr := En.Rc.fit_of_ok (En.quotient_ok hvr)
                  replace hvr := Lib.hid hvr
                  refine rg_nil ?_
                  refine ek_rt (List.Sublist.cons _ (List.Sublist.cons₂ _ (List.Sublist.cons₂ _ (List.Sublist.cons₂ _ (List.Sublist.cons₂ _ (List.Sublist.cons₂ _ List.Sublist.slnil)))))) ?_
                  refine rt_hard1 (i := 17) (by kernel_rfl) rfl ?_
                  refine rf_storeR (n := 4) rfl rfl (by kernel_rfl) rfl rfl (UpdR.here _ _ _ (Nat.le_of_ble_eq_true rfl)) (fun _ h => by cases h; exact (List.Sublist.cons _ (List.Sublist.cons₂ _ (List.Sublist.cons₂ _ (List.Sublist.cons₂ _ (List.Sublist.cons₂ _ (List.Sublist.cons₂ _ List.Sublist.slnil))))))) ?_
                  simp only [Act.put, Act.eval, qn, qv, Nat.reduceAdd]
                  refine rg_nil ?_
                  refine ek_rt (List.Sublist.cons _ (List.Sublist.cons₂ _ (List.Sublist.cons₂ _ (List.Sublist.cons₂ _ (List.Sublist.cons₂ _ (List.Sublist.cons₂ _ List.Sublist.slnil)))))) ?_
                  refine rt_nil (by kernel_rfl) ?_
                  refine ek_midF (by kernel_rfl) ?_
                  exact ⟨g12, va, vb, vr, rfl, by rfl, hva, hvb, hvr⟩
        · refine rg_new (cs := ?_) (ty := ?_) (by rfl) (fun w => ?_) (fun _ h => by cases h; exact (List.Sublist.cons₂ _ (List.Sublist.cons₂ _ (List.Sublist.cons₂ _ (List.Sublist.cons₂ _ (List.Sublist.cons₂ _ List.Sublist.slnil)))))) (fun g13 => ?_); rotate_left 2
          focus (go_simp; rfl)
          simp only [Act.put, Act.eval, qn, qv, Nat.reduceAdd]
          refine rg_nil ?_
          refine ek_rt (List.Sublist.cons _ (List.Sublist.cons₂ _ (List.Sublist.cons₂ _ (List.Sublist.cons₂ _ (List.Sublist.cons₂ _ (List.Sublist.cons₂ _ List.Sublist.slnil)))))) ?_
          refine rt_hard1 (i := 8) (by kernel_rfl) rfl ?_
          apply rg_post (by rfl) (by kernel_rfl)
          case hargs => (simp only [qm, qs, Act.eval]; exact rfl)
          case h => exact fun w hw => times_any p.s01 q.s00 fp01 fq00 w
          case hz => exact (fun _ h => by cases h; exact (List.Sublist.cons _ (List.Sublist.cons₂ _ (List.Sublist.cons₂ _ (List.Sublist.cons₂ _ (List.Sublist.cons₂ _ (List.Sublist.cons₂ _ List.Sublist.slnil)))))))
          case ke =>
            intro c hc w hw
            exact star_err (p := p) (q := q) (by simp only [En.star, hvm.out, hvd.out, hc, ebind_ok, ebind_err, epure]) hok.out hw (List.Sublist.cons _ (List.Sublist.cons _ (List.Sublist.cons₂ _ (List.Sublist.cons₂ _ (List.Sublist.cons _ (List.Sublist.cons _ List.Sublist.slnil)))))) rfl rfl
          case k =>
            intro va hva
            simp only [Act.put, Act.eval, qn, qv, Nat.reduceAdd]
            have fva := En.Rc.fit_of_ok (En.times_ok hva)
            replace hva := Lib.hid hva
            refine rg_nil ?_
            refine ek_rt (List.Sublist.cons _ (List.Sublist.cons₂ _ (List.Sublist.cons₂ _ (List.Sublist.cons₂ _ (List.Sublist.cons₂ _ (List.Sublist.cons₂ _ List.Sublist.slnil)))))) ?_
            refine rt_hard1 (i := 13) (by kernel_rfl) rfl ?_
            apply rg_post (by rfl) (by kernel_rfl)
            case hargs => (simp only [qm, qs, Act.eval]; exact rfl)
            case h => exact fun w hw => times_any va p.s10 fva fp10 w
            case hz => exact (fun _ h => by cases h; exact (List.Sublist.cons _ (List.Sublist.cons₂ _ (List.Sublist.cons₂ _ (List.Sublist.cons₂ _ (List.Sublist.cons₂ _ (List.Sublist.cons₂ _ List.Sublist.slnil)))))))
            case ke =>
              intro c hc w hw
              exact star_err (p := p) (q := q) (by simp only [En.star, hvm.out, hvd.out, hva.out, hc, ebind_ok, ebind_err, epure]) hok.out hw (List.Sublist.cons _ (List.Sublist.cons _ (List.Sublist.cons₂ _ (List.Sublist.cons₂ _ (List.Sublist.cons _ (List.Sublist.cons _ List.Sublist.slnil)))))) rfl rfl
            case k =>
              intro vb hvb
              simp only [Act.put, Act.eval, qn, qv, Nat.reduceAdd]
              have fvb := En.Rc.fit_of_ok (En.times_ok hvb)
              replace hvb := Lib.hid hvb
              refine rg_nil ?_
              refine ek_rt (List.Sublist.cons _ (List.Sublist.cons₂ _ (List.Sublist.cons₂ _ (List.Sublist.cons₂ _ (List.Sublist.cons₂ _ (List.Sublist.cons₂ _ List.Sublist.slnil)))))) ?_
              refine rt_hard1 (i := 15) (by kernel_rfl) rfl ?_
              apply rg_post (by rfl) (by kernel_rfl)
              case hargs => (simp only [qm, qs, Act.eval]; exact rfl)
              case h => exact fun w hw => quotient_any vb vd fvb fvd w
              case hz => exact (fun _ h => by cases h; exact (List.Sublist.cons _ (List.Sublist.cons₂ _ (List.Sublist.cons₂ _ (List.Sublist.cons₂ _ (List.Sublist.cons₂ _ (List.Sublist.cons₂ _ List.Sublist.slnil)))))))
              case ke =>
                intro c hc w hw
                exact star_err (p := p) (q := q) (by simp only [En.star, hvm.out, hvd.out, hva.out, hvb.out, hc, ebind_ok, ebind_err, epure]) hok.out hw (List.Sublist.cons _ (List.Sublist.cons _ (List.Sublist.cons₂ _ (List.Sublist.cons₂ _ (List.Sublist.cons _ (List.Sublist.cons _ List.Sublist.slnil)))))) rfl rfl
              case k =>
                intro vr hvr
                simp only [Act.put, Act.eval, qn, qv, Nat.reduceAdd]
                have fvr := En.Rc.fit_of_ok (En.quotient_ok hvr)
                replace hvr := Lib.hid hvr
                refine rg_nil ?_
                refine ek_rt (List.Sublist.cons _ (List.Sublist.cons₂ _ (List.Sublist.cons₂ _ (List.Sublist.cons₂ _ (List.Sublist.cons₂ _ (List.Sublist.cons₂ _ List.Sublist.slnil)))))) ?_
                refine rt_hard1 (i := 17) (by kernel_rfl) rfl ?_
                refine rf_storeR (n := 4) rfl rfl (by kernel_rfl) rfl rfl (UpdR.here _ _ _ (Nat.le_of_ble_eq_true rfl)) (fun _ h => by cases h; exact (List.Sublist.cons _ (List.Sublist.cons₂ _ (List.Sublist.cons₂ _ (List.Sublist.cons₂ _ (List.Sublist.cons₂ _ (List.Sublist.cons₂ _ List.Sublist.slnil))))))) ?_
                simp only [Act.put, Act.eval, qn, qv, Nat.reduceAdd]
                refine rg_nil ?_
                refine ek_rt (List.Sublist.cons _ (List.Sublist.cons₂ _ (List.Sublist.cons₂ _ (List.Sublist.cons₂ _ (List.Sublist.cons₂ _ (List.Sublist.cons₂ _ List.Sublist.slnil)))))) ?_
                refine rt_nil (by kernel_rfl) ?_
                refine ek_midF (by kernel_rfl) ?_
                exact ⟨g13, va, vb, vr, rfl, by rfl, hva, hvb, hvr⟩
      · rintro f2 s ⟨ga, va, vb, vr, hs2_7, rfl, hva, hvb, hvr⟩
        simp only [Act.putF, List.foldl_cons, List.foldl_nil, hs2_7, Act.put, Act.eval, q1, q2, q3, q4, q5, q6, q7, q8, q9, q10, q11, q12, q13, q14, q15, q16, q17, q18, Nat.reduceAdd, Bool.not_true, Bool.not_false]
        clear hs2_7
        have fvr := En.Rc.fit_of_ok (En.quotient_ok hvr.out)
        refine wk_seq ?_
        refine wk_region [0, 0, 0, 0, 0, 1, 0, 0, 0, 1] rfl (by kernel_rfl) ?_
        simp only [List.zip_cons_cons, List.zip_nil_right]
        refine rf_field (n := 15) (j := 0) rfl rfl rfl Try.underlying49 rfl (by kernel_rfl) rfl ?_
        simp only [Act.put, Act.eval, qn, qv, Nat.reduceAdd]
        refine rf_indexA (n := 0) (sz := 8) (j := 0) rfl rfl rfl rfl Try.underlying47 (by kernel_rfl) (by decide) rfl ?_
        simp only [Act.put, Act.eval, qn, qv, Nat.reduceAdd]
        refine rf_indexA (n := 0) (sz := 4) (j := 0) rfl rfl rfl rfl Try.underlying46 (by kernel_rfl) (by decide) rfl ?_
        simp only [Act.put, Act.eval, qn, qv, Nat.reduceAdd]
        refine rf_loadR (n := 4) rfl rfl rfl Try.underlying25 rfl (by kernel_rfl) (fun w hw => Kn.hd0 (Kn.tl (Kn.tl (Kn.tl (Kn.tl (Kn.tl hw)))))) rfl rfl ?_
        simp only [Act.put, Act.eval, qn, qv, Nat.reduceAdd]
        refine rf_loadR (n := 4) rfl rfl rfl Try.underlying25 rfl (by kernel_rfl) (fun w hw => Kn.hd0 hw) rfl rfl ?_
        simp only [Act.put, Act.eval, qn, qv, Nat.reduceAdd]
        apply rg_post (by rfl) (by kernel_rfl)
        case hargs => (simp only [qm, qs, Act.eval]; exact rfl)
        case h => exact fun w hw => plus_any p.s00 vr fp00 fvr w
        case hz => exact (fun _ h => by cases h)
        case ke =>
          intro c hc w hw
          exact star_err (p := p) (q := q) (by simp only [En.star, hvm.out, hvd.out, hva.out, hvb.out, hvr.out, hc, ebind_ok, ebind_err, epure]) hok.out hw (List.Sublist.cons _ (List.Sublist.cons _ (List.Sublist.cons₂ _ (List.Sublist.cons₂ _ (List.Sublist.cons _ (List.Sublist.cons _ List.Sublist.slnil)))))) rfl rfl
        case k =>
          intro v00 hv00
          simp only [Act.put, Act.eval, qn, qv, Nat.reduceAdd]
          have fv00 := En.Rc.fit_of_ok (En.plus_ok hv00)
          replace hv00 := Lib.hid hv00
          refine rf_field (n := 15) (j := 0) rfl rfl rfl Try.underlying49 rfl (by kernel_rfl) rfl ?_
          simp only [Act.put, Act.eval, qn, qv, Nat.reduceAdd]
          refine rf_indexA (n := 0) (sz := 8) (j := 0) rfl rfl rfl rfl Try.underlying47 (by kernel_rfl) (by decide) rfl ?_
          simp only [Act.put, Act.eval, qn, qv, Nat.reduceAdd]
          refine rf_indexA (n := 0) (sz := 4) (j := 0) rfl rfl rfl rfl Try.underlying46 (by kernel_rfl) (by decide) rfl ?_
          simp only [Act.put, Act.eval, qn, qv, Nat.reduceAdd]
          refine rf_storeR (n := 4) rfl rfl (by kernel_rfl) rfl rfl (UpdR.there _ (UpdR.there _ (UpdR.there _ (UpdR.here _ _ _ (Nat.le_of_ble_eq_true rfl))))) (fun _ h => by cases h) ?_
          simp only [Act.put, Act.eval, qn, qv, Nat.reduceAdd]
          refine rg_nil ?_
          refine ek_next ?_
          refine wk_seq ?_
          refine wk_rt _ (by kernel_rfl) (List.Sublist.cons₂ _ (List.Sublist.cons₂ _ (List.Sublist.cons₂ _ (List.Sublist.cons _ (List.Sublist.cons₂ _ (List.Sublist.cons₂ _ List.Sublist.slnil)))))) ?_
          refine rt_softD (i := 0) rfl (by kernel_rfl) (fun c v a w h => leaves_tmps (t := (Act.put a (some 51) v).tmps) (fun w => results_cc_put (fn := Try.f49) rfl (by decide) (by decide) w) _ _ _ h) (List.Sublist.cons₂ _ (List.Sublist.cons₂ _ (List.Sublist.cons₂ _ (List.Sublist.cons _ (List.Sublist.cons₂ _ (List.Sublist.cons₂ _ List.Sublist.slnil)))))) ?_
          refine rf_field (n := 15) (j := 0) rfl rfl rfl Try.underlying49 rfl (by kernel_rfl) rfl ?_
          simp only [Act.put, Act.eval, qn, qv, Nat.reduceAdd]
          refine rg_nil ?_
          refine ek_rt (List.Sublist.cons₂ _ (List.Sublist.cons₂ _ (List.Sublist.cons₂ _ (List.Sublist.cons _ (List.Sublist.cons₂ _ (List.Sublist.cons₂ _ List.Sublist.slnil)))))) ?_
          refine rt_softD (i := 1) rfl (by kernel_rfl) (fun c v a w h => leaves_tmps (t := (Act.put a (some 52) v).tmps) (fun w => results_cc_put (fn := Try.f49) rfl (by decide) (by decide) w) _ _ _ h) (List.Sublist.cons₂ _ (List.Sublist.cons₂ _ (List.Sublist.cons₂ _ (List.Sublist.cons _ (List.Sublist.cons₂ _ (List.Sublist.cons₂ _ List.Sublist.slnil)))))) ?_
          refine rf_indexA (n := 0) (sz := 8) (j := 0) rfl rfl rfl rfl Try.underlying47 (by kernel_rfl) (by decide) rfl ?_
          simp only [Act.put, Act.eval, qn, qv, Nat.reduceAdd]
          refine rg_nil ?_
          refine ek_rt (List.Sublist.cons₂ _ (List.Sublist.cons₂ _ (List.Sublist.cons₂ _ (List.Sublist.cons _ (List.Sublist.cons₂ _ (List.Sublist.cons₂ _ List.Sublist.slnil)))))) ?_
          refine rt_softD (i := 2) rfl (by kernel_rfl) (fun c v a w h => leaves_tmps (t := (Act.put a (some 53) v).tmps) (fun w => results_cc_put (fn := Try.f49) rfl (by decide) (by decide) w) _ _ _ h) (List.Sublist.cons₂ _ (List.Sublist.cons₂ _ (List.Sublist.cons₂ _ (List.Sublist.cons _ (List.Sublist.cons₂ _ (List.Sublist.cons₂ _ List.Sublist.slnil)))))) ?_
          refine rf_indexA (n := 1) (sz := 4) (j := 4) rfl rfl rfl rfl Try.underlying46 (by kernel_rfl) (by decide) rfl ?_
          simp only [Act.put, Act.eval, qn, qv, Nat.reduceAdd]
          refine rg_nil ?_
          refine ek_rt (List.Sublist.cons₂ _ (List.Sublist.cons₂ _ (List.Sublist.cons₂ _ (List.Sublist.cons _ (List.Sublist.cons₂ _ (List.Sublist.cons₂ _ List.Sublist.slnil)))))) ?_
          refine rt_softD (i := 3) rfl (by kernel_rfl) (fun c v a w h => leaves_tmps (t := (Act.put a (some 54) v).tmps) (fun w => results_cc_put (fn := Try.f49) rfl (by decide) (by decide) w) _ _ _ h) (List.Sublist.cons₂ _ (List.Sublist.cons₂ _ (List.Sublist.cons₂ _ (List.Sublist.cons _ (List.Sublist.cons₂ _ (List.Sublist.cons₂ _ List.Sublist.slnil)))))) ?_
          refine rf_loadR (n := 4) rfl rfl rfl Try.underlying25 rfl (by kernel_rfl) (fun w hw => Kn.hd0 (Kn.tl (Kn.tl (Kn.tl (Kn.tl hw))))) rfl rfl ?_
          simp only [Act.put, Act.eval, qn, qv, Nat.reduceAdd]
          refine rg_nil ?_
          refine ek_rt (List.Sublist.cons₂ _ (List.Sublist.cons₂ _ (List.Sublist.cons₂ _ (List.Sublist.cons _ (List.Sublist.cons₂ _ (List.Sublist.cons₂ _ List.Sublist.slnil)))))) ?_
          refine rt_softD (i := 4) rfl (by kernel_rfl) (fun c v a w h => leaves_tmps (t := (Act.put a (some 55) v).tmps) (fun w => results_cc_put (fn := Try.f49) rfl (by decide) (by decide) w) _ _ _ h) (List.Sublist.cons₂ _ (List.Sublist.cons₂ _ (List.Sublist.cons₂ _ (List.Sublist.cons _ (List.Sublist.cons₂ _ (List.Sublist.cons₂ _ List.Sublist.slnil)))))) ?_
          refine rf_field (n := 15) (j := 0) rfl rfl rfl Try.underlying49 rfl (by kernel_rfl) rfl ?_
          simp only [Act.put, Act.eval, qn, qv, Nat.reduceAdd]
          refine rg_nil ?_
          refine ek_rt (List.Sublist.cons₂ _ (List.Sublist.cons₂ _ (List.Sublist.cons₂ _ (List.Sublist.cons _ (List.Sublist.cons₂ _ (List.Sublist.cons₂ _ List.Sublist.slnil)))))) ?_
          refine rt_softD (i := 5) rfl (by kernel_rfl) (fun c v a w h => leaves_tmps (t := (Act.put a (some 56) v).tmps) (fun w => results_cc_put (fn := Try.f49) rfl (by decide) (by decide) w) _ _ _ h) (List.Sublist.cons₂ _ (List.Sublist.cons₂ _ (List.Sublist.cons₂ _ (List.Sublist.cons _ (List.Sublist.cons₂ _ (List.Sublist.cons₂ _ List.Sublist.slnil)))))) ?_
          refine rf_indexA (n := 0) (sz := 8) (j := 0) rfl rfl rfl rfl Try.underlying47 (by kernel_rfl) (by decide) rfl ?_
          simp only [Act.put, Act.eval, qn, qv, Nat.reduceAdd]
          refine rg_nil ?_
          refine ek_rt (List.Sublist.cons₂ _ (List.Sublist.cons₂ _ (List.Sublist.cons₂ _ (List.Sublist.cons _ (List.Sublist.cons₂ _ (List.Sublist.cons₂ _ List.Sublist.slnil)))))) ?_
          refine rt_softD (i := 6) rfl (by kernel_rfl) (fun c v a w h => leaves_tmps (t := (Act.put a (some 57) v).tmps) (fun w => results_cc_put (fn := Try.f49) rfl (by decide) (by decide) w) _ _ _ h) (List.Sublist.cons₂ _ (List.Sublist.cons₂ _ (List.Sublist.cons₂ _ (List.Sublist.cons _ (List.Sublist.cons₂ _ (List.Sublist.cons₂ _ List.Sublist.slnil)))))) ?_
          refine rf_indexA (n := 1) (sz := 4) (j := 4) rfl rfl rfl rfl Try.underlying46 (by kernel_rfl) (by decide) rfl ?_
          simp only [Act.put, Act.eval, qn, qv, Nat.reduceAdd]
          refine rg_nil ?_
          refine ek_rt (List.Sublist.cons₂ _ (List.Sublist.cons₂ _ (List.Sublist.cons₂ _ (List.Sublist.cons _ (List.Sublist.cons₂ _ (List.Sublist.cons₂ _ List.Sublist.slnil)))))) ?_
          refine rt_softD (i := 7) rfl (by kernel_rfl) (fun c v a w h => leaves_tmps (t := (Act.put a (some 58) v).tmps) (fun w => results_cc_put (fn := Try.f49) rfl (by decide) (by decide) w) _ _ _ h) (List.Sublist.cons₂ _ (List.Sublist.cons₂ _ (List.Sublist.cons₂ _ (List.Sublist.cons _ (List.Sublist.cons₂ _ (List.Sublist.cons₂ _ List.Sublist.slnil)))))) ?_
          refine rf_loadR (n := 4) rfl rfl rfl Try.underlying25 rfl (by kernel_rfl) (fun w hw => Kn.hd0 (Kn.tl (Kn.tl (Kn.tl hw)))) rfl rfl ?_
          simp only [Act.put, Act.eval, qn, qv, Nat.reduceAdd]
          refine rg_nil ?_
          refine ek_rt (List.Sublist.cons₂ _ (List.Sublist.cons₂ _ (List.Sublist.cons₂ _ (List.Sublist.cons _ (List.Sublist.cons₂ _ (List.Sublist.cons₂ _ List.Sublist.slnil)))))) ?_
          refine rt_softD (i := 9) rfl (by kernel_rfl) (fun c v a w h => leaves_tmps (t := (Act.put a (some 60) v).tmps) (fun w => results_cc_put (fn := Try.f49) rfl (by decide) (by decide) w) _ _ _ h) (List.Sublist.cons₂ _ (List.Sublist.cons₂ _ (List.Sublist.cons₂ _ (List.Sublist.cons _ (List.Sublist.cons₂ _ (List.Sublist.cons₂ _ List.Sublist.slnil)))))) ?_
          refine rf_loadR (n := 4) rfl rfl rfl Try.underlying25 rfl (by kernel_rfl) (fun w hw => Kn.hd0 (Kn.tl hw)) rfl rfl ?_
          simp only [Act.put, Act.eval, qn, qv, Nat.reduceAdd]
          refine rg_nil ?_
          refine ek_rt (List.Sublist.cons₂ _ (List.Sublist.cons₂ _ (List.Sublist.cons₂ _ (List.Sublist.cons _ (List.Sublist.cons₂ _ (List.Sublist.cons₂ _ List.Sublist.slnil)))))) ?_
          refine rt_softD (i := 11) rfl (by kernel_rfl) (fun c v a w h => leaves_tmps (t := (Act.put a (some 62) v).tmps) (fun w => results_cc_put (fn := Try.f49) rfl (by decide) (by decide) w) _ _ _ h) (List.Sublist.cons₂ _ (List.Sublist.cons₂ _ (List.Sublist.cons₂ _ (List.Sublist.cons _ (List.Sublist.cons₂ _ (List.Sublist.cons₂ _ List.Sublist.slnil)))))) ?_
          refine rf_field (n := 15) (j := 0) rfl rfl rfl Try.underlying49 rfl (by kernel_rfl) rfl ?_
          simp only [Act.put, Act.eval, qn, qv, Nat.reduceAdd]
          refine rg_nil ?_
          refine ek_rt (List.Sublist.cons₂ _ (List.Sublist.cons₂ _ (List.Sublist.cons₂ _ (List.Sublist.cons _ (List.Sublist.cons₂ _ (List.Sublist.cons₂ _ List.Sublist.slnil)))))) ?_
          refine rt_softD (i := 12) rfl (by kernel_rfl) (fun c v a w h => leaves_tmps (t := (Act.put a (some 63) v).tmps) (fun w => results_cc_put (fn := Try.f49) rfl (by decide) (by decide) w) _ _ _ h) (List.Sublist.cons₂ _ (List.Sublist.cons₂ _ (List.Sublist.cons₂ _ (List.Sublist.cons _ (List.Sublist.cons₂ _ (List.Sublist.cons₂ _ List.Sublist.slnil)))))) ?_
          refine rf_indexA (n := 0) (sz := 8) (j := 0) rfl rfl rfl rfl Try.underlying47 (by kernel_rfl) (by decide) rfl ?_
          simp only [Act.put, Act.eval, qn, qv, Nat.reduceAdd]
          refine rg_nil ?_
          refine ek_rt (List.Sublist.cons₂ _ (List.Sublist.cons₂ _ (List.Sublist.cons₂ _ (List.Sublist.cons _ (List.Sublist.cons₂ _ (List.Sublist.cons₂ _ List.Sublist.slnil)))))) ?_
          refine rt_hard1 (i := 8) (by kernel_rfl) rfl ?_
          apply rg_post (by rfl) (by kernel_rfl)
          case hargs => (simp only [qm, qs, Act.eval]; exact rfl)
          case h => exact fun w hw => times_any p.s01 q.s01 fp01 fq01 w
          case hz => exact (fun _ h => by cases h; exact (List.Sublist.cons₂ _ (List.Sublist.cons₂ _ (List.Sublist.cons₂ _ (List.Sublist.cons _ (List.Sublist.cons₂ _ (List.Sublist.cons₂ _ List.Sublist.slnil)))))))
          case ke =>
            intro c hc w hw
            exact star_err (p := p) (q := q) (by simp only [En.star, hvm.out, hvd.out, hva.out, hvb.out, hvr.out, hv00.out, hc, ebind_ok, ebind_err, epure]) hok.out hw (List.Sublist.cons _ (List.Sublist.cons _ (List.Sublist.cons₂ _ (List.Sublist.cons₂ _ (List.Sublist.cons _ (List.Sublist.cons _ List.Sublist.slnil)))))) rfl rfl
          case k =>
            intro vc hvc
            simp only [Act.put, Act.eval, qn, qv, Nat.reduceAdd]
            have fvc := En.Rc.fit_of_ok (En.times_ok hvc)
            replace hvc := Lib.hid hvc
            refine rg_nil ?_
            refine ek_rt (List.Sublist.cons₂ _ (List.Sublist.cons₂ _ (List.Sublist.cons₂ _ (List.Sublist.cons _ (List.Sublist.cons₂ _ (List.Sublist.cons₂ _ List.Sublist.slnil)))))) ?_
            refine rt_hard1 (i := 10) (by kernel_rfl) rfl ?_
            apply rg_post (by rfl) (by kernel_rfl)
            case hargs => (simp only [qm, qs, Act.eval]; exact rfl)
            case h => exact fun w hw => quotient_any vc vd fvc fvd w
            case hz => exact (fun _ h => by cases h; exact (List.Sublist.cons₂ _ (List.Sublist.cons₂ _ (List.Sublist.cons₂ _ (List.Sublist.cons _ (List.Sublist.cons₂ _ (List.Sublist.cons₂ _ List.Sublist.slnil)))))))
            case ke =>
              intro c hc w hw
              exact star_err (p := p) (q := q) (by simp only [En.star, hvm.out, hvd.out, hva.out, hvb.out, hvr.out, hv00.out, hvc.out, hc, ebind_ok, ebind_err, epure]) hok.out hw (List.Sublist.cons _ (List.Sublist.cons _ (List.Sublist.cons₂ _ (List.Sublist.cons₂ _ (List.Sublist.cons _ (List.Sublist.cons _ List.Sublist.slnil)))))) rfl rfl
            case k =>
              intro v01 hv01
              simp only [Act.put, Act.eval, qn, qv, Nat.reduceAdd]
              have fv01 := En.Rc.fit_of_ok (En.quotient_ok hv01)
              replace hv01 := Lib.hid hv01
              refine rg_nil ?_
              refine ek_rt (List.Sublist.cons₂ _ (List.Sublist.cons₂ _ (List.Sublist.cons₂ _ (List.Sublist.cons _ (List.Sublist.cons₂ _ (List.Sublist.cons₂ _ List.Sublist.slnil)))))) ?_
              refine rt_softD (i := 13) rfl (by kernel_rfl) (fun c v a w h => leaves_tmps (t := (Act.put a (some 64) v).tmps) (fun w => results_cc_put (fn := Try.f49) rfl (by decide) (by decide) w) _ _ _ h) (List.Sublist.cons₂ _ (List.Sublist.cons₂ _ (List.Sublist.cons₂ _ (List.Sublist.cons _ (List.Sublist.cons₂ _ (List.Sublist.cons₂ _ List.Sublist.slnil)))))) ?_
              refine rf_indexA (n := 1) (sz := 4) (j := 4) rfl rfl rfl rfl Try.underlying46 (by kernel_rfl) (by decide) rfl ?_
              simp only [Act.put, Act.eval, qn, qv, Nat.reduceAdd]
              refine rg_nil ?_
              refine ek_rt (List.Sublist.cons₂ _ (List.Sublist.cons₂ _ (List.Sublist.cons₂ _ (List.Sublist.cons _ (List.Sublist.cons₂ _ (List.Sublist.cons₂ _ List.Sublist.slnil)))))) ?_
              refine rt_hard1 (i := 14) (by kernel_rfl) rfl ?_
              refine rf_storeR (n := 4) rfl rfl (by kernel_rfl) rfl rfl (UpdR.there _ (UpdR.there _ (UpdR.there _ (UpdR.here _ _ _ (Nat.le_of_ble_eq_true rfl))))) (fun _ h => by cases h; exact (List.Sublist.cons₂ _ (List.Sublist.cons₂ _ (List.Sublist.cons₂ _ (List.Sublist.cons _ (List.Sublist.cons₂ _ (List.Sublist.cons₂ _ List.Sublist.slnil))))))) ?_
              simp only [Act.put, Act.eval, qn, qv, Nat.reduceAdd]
              refine rg_nil ?_
              refine ek_rt (List.Sublist.cons₂ _ (List.Sublist.cons₂ _ (List.Sublist.cons₂ _ (List.Sublist.cons _ (List.Sublist.cons₂ _ (List.Sublist.cons₂ _ List.Sublist.slnil)))))) ?_
              refine rt_nil (by kernel_rfl) ?_
              refine ek_next ?_
              refine wk_seq ?_
              refine wk_rt _ (by kernel_rfl) (List.Sublist.cons₂ _ (List.Sublist.cons₂ _ (List.Sublist.cons₂ _ (List.Sublist.cons _ (List.Sublist.cons₂ _ (List.Sublist.cons₂ _ List.Sublist.slnil)))))) ?_
              refine rt_softD (i := 0) rfl (by kernel_rfl) (fun c v a w h => leaves_tmps (t := (Act.put a (some 65) v).tmps) (fun w => results_cc_put (fn := Try.f49) rfl (by decide) (by decide) w) _ _ _ h) (List.Sublist.cons₂ _ (List.Sublist.cons₂ _ (List.Sublist.cons₂ _ (List.Sublist.cons _ (List.Sublist.cons₂ _ (List.Sublist.cons₂ _ List.Sublist.slnil)))))) ?_
              refine rf_field (n := 15) (j := 0) rfl rfl rfl Try.underlying49 rfl (by kernel_rfl) rfl ?_
              simp only [Act.put, Act.eval, qn, qv, Nat.reduceAdd]
              refine rg_nil ?_
              refine ek_rt (List.Sublist.cons₂ _ (List.Sublist.cons₂ _ (List.Sublist.cons₂ _ (List.Sublist.cons _ (List.Sublist.cons₂ _ (List.Sublist.cons₂ _ List.Sublist.slnil)))))) ?_
              refine rt_softD (i := 1) rfl (by kernel_rfl) (fun c v a w h => leaves_tmps (t := (Act.put a (some 66) v).tmps) (fun w => results_cc_put (fn := Try.f49) rfl (by decide) (by decide) w) _ _ _ h) (List.Sublist.cons₂ _ (List.Sublist.cons₂ _ (List.Sublist.cons₂ _ (List.Sublist.cons _ (List.Sublist.cons₂ _ (List.Sublist.cons₂ _ List.Sublist.slnil)))))) ?_
              refine rf_indexA (n := 1) (sz := 8) (j := 8) rfl rfl rfl rfl Try.underlying47 (by kernel_rfl) (by decide) rfl ?_
              simp only [Act.put, Act.eval, qn, qv, Nat.reduceAdd]
              refine rg_nil ?_
              refine ek_rt (List.Sublist.cons₂ _ (List.Sublist.cons₂ _ (List.Sublist.cons₂ _ (List.Sublist.cons _ (List.Sublist.cons₂ _ (List.Sublist.cons₂ _ List.Sublist.slnil)))))) ?_
              refine rt_softD (i := 2) rfl (by kernel_rfl) (fun c v a w h => leaves_tmps (t := (Act.put a (some 67) v).tmps) (fun w => results_cc_put (fn := Try.f49) rfl (by decide) (by decide) w) _ _ _ h) (List.Sublist.cons₂ _ (List.Sublist.cons₂ _ (List.Sublist.cons₂ _ (List.Sublist.cons _ (List.Sublist.cons₂ _ (List.Sublist.cons₂ _ List.Sublist.slnil)))))) ?_
              refine rf_indexA (n := 0) (sz := 4) (j := 8) rfl rfl rfl rfl Try.underlying46 (by kernel_rfl) (by decide) rfl ?_
              simp only [Act.put, Act.eval, qn, qv, Nat.reduceAdd]
              refine rg_nil ?_
              refine ek_rt (List.Sublist.cons₂ _ (List.Sublist.cons₂ _ (List.Sublist.cons₂ _ (List.Sublist.cons _ (List.Sublist.cons₂ _ (List.Sublist.cons₂ _ List.Sublist.slnil)))))) ?_
              refine rt_softD (i := 3) rfl (by kernel_rfl) (fun c v a w h => leaves_tmps (t := (Act.put a (some 68) v).tmps) (fun w => results_cc_put (fn := Try.f49) rfl (by decide) (by decide) w) _ _ _ h) (List.Sublist.cons₂ _ (List.Sublist.cons₂ _ (List.Sublist.cons₂ _ (List.Sublist.cons _ (List.Sublist.cons₂ _ (List.Sublist.cons₂ _ List.Sublist.slnil)))))) ?_
              refine rf_loadR (n := 4) rfl rfl rfl Try.underlying25 rfl (by kernel_rfl) (fun w hw => Kn.hd0 (Kn.tl (Kn.tl (Kn.tl hw)))) rfl rfl ?_
              simp only [Act.put, Act.eval, qn, qv, Nat.reduceAdd]
              refine rg_nil ?_
              refine ek_rt (List.Sublist.cons₂ _ (List.Sublist.cons₂ _ (List.Sublist.cons₂ _ (List.Sublist.cons _ (List.Sublist.cons₂ _ (List.Sublist.cons₂ _ List.Sublist.slnil)))))) ?_
              refine rt_softD (i := 4) rfl (by kernel_rfl) (fun c v a w h => leaves_tmps (t := (Act.put a (some 69) v).tmps) (fun w => results_cc_put (fn := Try.f49) rfl (by decide) (by decide) w) _ _ _ h) (List.Sublist.cons₂ _ (List.Sublist.cons₂ _ (List.Sublist.cons₂ _ (List.Sublist.cons _ (List.Sublist.cons₂ _ (List.Sublist.cons₂ _ List.Sublist.slnil)))))) ?_
              refine rf_field (n := 15) (j := 0) rfl rfl rfl Try.underlying49 rfl (by kernel_rfl) rfl ?_
              simp only [Act.put, Act.eval, qn, qv, Nat.reduceAdd]
              refine rg_nil ?_
              refine ek_rt (List.Sublist.cons₂ _ (List.Sublist.cons₂ _ (List.Sublist.cons₂ _ (List.Sublist.cons _ (List.Sublist.cons₂ _ (List.Sublist.cons₂ _ List.Sublist.slnil)))))) ?_
              refine rt_softD (i := 5) rfl (by kernel_rfl) (fun c v a w h => leaves_tmps (t := (Act.put a (some 70) v).tmps) (fun w => results_cc_put (fn := Try.f49) rfl (by decide) (by decide) w) _ _ _ h) (List.Sublist.cons₂ _ (List.Sublist.cons₂ _ (List.Sublist.cons₂ _ (List.Sublist.cons _ (List.Sublist.cons₂ _ (List.Sublist.cons₂ _ List.Sublist.slnil)))))) ?_
              refine rf_indexA (n := 1) (sz := 8) (j := 8) rfl rfl rfl rfl Try.underlying47 (by kernel_rfl) (by decide) rfl ?_
              simp only [Act.put, Act.eval, qn, qv, Nat.reduceAdd]
              refine rg_nil ?_
              refine ek_rt (List.Sublist.cons₂ _ (List.Sublist.cons₂ _ (List.Sublist.cons₂ _ (List.Sublist.cons _ (List.Sublist.cons₂ _ (List.Sublist.cons₂ _ List.Sublist.slnil)))))) ?_
              refine rt_softD (i := 6) rfl (by kernel_rfl) (fun c v a w h => leaves_tmps (t := (Act.put a (some 71) v).tmps) (fun w => results_cc_put (fn := Try.f49) rfl (by decide) (by decide) w) _ _ _ h) (List.Sublist.cons₂ _ (List.Sublist.cons₂ _ (List.Sublist.cons₂ _ (List.Sublist.cons _ (List.Sublist.cons₂ _ (List.Sublist.cons₂ _ List.Sublist.slnil)))))) ?_
              refine rf_indexA (n := 0) (sz := 4) (j := 8) rfl rfl rfl rfl Try.underlying46 (by kernel_rfl) (by decide) rfl ?_
              simp only [Act.put, Act.eval, qn, qv, Nat.reduceAdd]
              refine rg_nil ?_
              refine ek_rt (List.Sublist.cons₂ _ (List.Sublist.cons₂ _ (List.Sublist.cons₂ _ (List.Sublist.cons _ (List.Sublist.cons₂ _ (List.Sublist.cons₂ _ List.Sublist.slnil)))))) ?_
              refine rt_softD (i := 7) rfl (by kernel_rfl) (fun c v a w h => leaves_tmps (t := (Act.put a (some 72) v).tmps) (fun w => results_cc_put (fn := Try.f49) rfl (by decide) (by decide) w) _ _ _ h) (List.Sublist.cons₂ _ (List.Sublist.cons₂ _ (List.Sublist.cons₂ _ (List.Sublist.cons _ (List.Sublist.cons₂ _ (List.Sublist.cons₂ _ List.Sublist.slnil)))))) ?_
              refine rf_loadR (n := 4) rfl rfl rfl Try.underlying25 rfl (by kernel_rfl) (fun w hw => Kn.hd0 (Kn.tl (Kn.tl (Kn.tl (Kn.tl hw))))) rfl rfl ?_
              simp only [Act.put, Act.eval, qn, qv, Nat.reduceAdd]
              refine rg_nil ?_
              refine ek_rt (List.Sublist.cons₂ _ (List.Sublist.cons₂ _ (List.Sublist.cons₂ _ (List.Sublist.cons _ (List.Sublist.cons₂ _ (List.Sublist.cons₂ _ List.Sublist.slnil)))))) ?_
              refine rt_softD (i := 9) rfl (by kernel_rfl) (fun c v a w h => leaves_tmps (t := (Act.put a (some 74) v).tmps) (fun w => results_cc_put (fn := Try.f49) rfl (by decide) (by decide) w) _ _ _ h) (List.Sublist.cons₂ _ (List.Sublist.cons₂ _ (List.Sublist.cons₂ _ (List.Sublist.cons _ (List.Sublist.cons₂ _ (List.Sublist.cons₂ _ List.Sublist.slnil)))))) ?_
              refine rf_loadR (n := 4) rfl rfl rfl Try.underlying25 rfl (by kernel_rfl) (fun w hw => Kn.hd0 (Kn.tl hw)) rfl rfl ?_
              simp only [Act.put, Act.eval, qn, qv, Nat.reduceAdd]
              refine rg_nil ?_
              refine ek_rt (List.Sublist.cons₂ _ (List.Sublist.cons₂ _ (List.Sublist.cons₂ _ (List.Sublist.cons _ (List.Sublist.cons₂ _ (List.Sublist.cons₂ _ List.Sublist.slnil)))))) ?_
              refine rt_softD (i := 11) rfl (by kernel_rfl) (fun c v a w h => leaves_tmps (t := (Act.put a (some 76) v).tmps) (fun w => results_cc_put (fn := Try.f49) rfl (by decide) (by decide) w) _ _ _ h) (List.Sublist.cons₂ _ (List.Sublist.cons₂ _ (List.Sublist.cons₂ _ (List.Sublist.cons _ (List.Sublist.cons₂ _ (List.Sublist.cons₂ _ List.Sublist.slnil)))))) ?_
              refine rf_field (n := 15) (j := 0) rfl rfl rfl Try.underlying49 rfl (by kernel_rfl) rfl ?_
              simp only [Act.put, Act.eval, qn, qv, Nat.reduceAdd]
              refine rg_nil ?_
              refine ek_rt (List.Sublist.cons₂ _ (List.Sublist.cons₂ _ (List.Sublist.cons₂ _ (List.Sublist.cons _ (List.Sublist.cons₂ _ (List.Sublist.cons₂ _ List.Sublist.slnil)))))) ?_
              refine rt_softD (i := 12) rfl (by kernel_rfl) (fun c v a w h => leaves_tmps (t := (Act.put a (some 77) v).tmps) (fun w => results_cc_put (fn := Try.f49) rfl (by decide) (by decide) w) _ _ _ h) (List.Sublist.cons₂ _ (List.Sublist.cons₂ _ (List.Sublist.cons₂ _ (List.Sublist.cons _ (List.Sublist.cons₂ _ (List.Sublist.cons₂ _ List.Sublist.slnil)))))) ?_
              refine rf_indexA (n := 1) (sz := 8) (j := 8) rfl rfl rfl rfl Try.underlying47 (by kernel_rfl) (by decide) rfl ?_
              simp only [Act.put, Act.eval, qn, qv, Nat.reduceAdd]
              refine rg_nil ?_
              refine ek_rt (List.Sublist.cons₂ _ (List.Sublist.cons₂ _ (List.Sublist.cons₂ _ (List.Sublist.cons _ (List.Sublist.cons₂ _ (List.Sublist.cons₂ _ List.Sublist.slnil)))))) ?_
              refine rt_hard1 (i := 8) (by kernel_rfl) rfl ?_
              apply rg_post (by rfl) (by kernel_rfl)
              case hargs => (simp only [qm, qs, Act.eval]; exact rfl)
              case h => exact fun w hw => times_any q.s10 p.s10 fq10 fp10 w
              case hz => exact (fun _ h => by cases h; exact (List.Sublist.cons₂ _ (List.Sublist.cons₂ _ (List.Sublist.cons₂ _ (List.Sublist.cons _ (List.Sublist.cons₂ _ (List.Sublist.cons₂ _ List.Sublist.slnil)))))))
              case ke =>
                intro c hc w hw
                exact star_err (p := p) (q := q) (by simp only [En.star, hvm.out, hvd.out, hva.out, hvb.out, hvr.out, hv00.out, hvc.out, hv01.out, hc, ebind_ok, ebind_err, epure]) hok.out hw (List.Sublist.cons _ (List.Sublist.cons _ (List.Sublist.cons₂ _ (List.Sublist.cons₂ _ (List.Sublist.cons _ (List.Sublist.cons _ List.Sublist.slnil)))))) rfl rfl
              case k =>
                intro ve hve
                simp only [Act.put, Act.eval, qn, qv, Nat.reduceAdd]
                have fve := En.Rc.fit_of_ok (En.times_ok hve)
                replace hve := Lib.hid hve
                refine rg_nil ?_
                refine ek_rt (List.Sublist.cons₂ _ (List.Sublist.cons₂ _ (List.Sublist.cons₂ _ (List.Sublist.cons _ (List.Sublist.cons₂ _ (List.Sublist.cons₂ _ List.Sublist.slnil)))))) ?_
                refine rt_hard1 (i := 10) (by kernel_rfl) rfl ?_
                apply rg_post (by rfl) (by kernel_rfl)
                case hargs => (simp only [qm, qs, Act.eval]; exact rfl)
                case h => exact fun w hw => quotient_any ve vd fve fvd w
                case hz => exact (fun _ h => by cases h; exact (List.Sublist.cons₂ _ (List.Sublist.cons₂ _ (List.Sublist.cons₂ _ (List.Sublist.cons _ (List.Sublist.cons₂ _ (List.Sublist.cons₂ _ List.Sublist.slnil)))))))
                case ke =>
                  intro c hc w hw
                  exact star_err (p := p) (q := q) (by simp only [En.star, hvm.out, hvd.out, hva.out, hvb.out, hvr.out, hv00.out, hvc.out, hv01.out, hve.out, hc, ebind_ok, ebind_err, epure]) hok.out hw (List.Sublist.cons _ (List.Sublist.cons _ (List.Sublist.cons₂ _ (List.Sublist.cons₂ _ (List.Sublist.cons _ (List.Sublist.cons _ List.Sublist.slnil)))))) rfl rfl
                case k =>
                  intro v10 hv10
                  simp only [Act.put, Act.eval, qn, qv, Nat.reduceAdd]
                  have fv10 := En.Rc.fit_of_ok (En.quotient_ok hv10)
                  replace hv10 := Lib.hid hv10
                  refine rg_nil ?_
                  refine ek_rt (List.Sublist.cons₂ _ (List.Sublist.cons₂ _ (List.Sublist.cons₂ _ (List.Sublist.cons _ (List.Sublist.cons₂ _ (List.Sublist.cons₂ _ List.Sublist.slnil)))))) ?_
                  refine rt_softD (i := 13) rfl (by kernel_rfl) (fun c v a w h => leaves_tmps (t := (Act.put a (some 78) v).tmps) (fun w => results_cc_put (fn := Try.f49) rfl (by decide) (by decide) w) _ _ _ h) (List.Sublist.cons₂ _ (List.Sublist.cons₂ _ (List.Sublist.cons₂ _ (List.Sublist.cons _ (List.Sublist.cons₂ _ (List.Sublist.cons₂ _ List.Sublist.slnil)))))) ?_
                  refine rf_indexA (n := 0) (sz := 4) (j := 8) rfl rfl rfl rfl Try.underlying46 (by kernel_rfl) (by decide) rfl ?_
                  simp only [Act.put, Act.eval, qn, qv, Nat.reduceAdd]
                  refine rg_nil ?_
                  refine ek_rt (List.Sublist.cons₂ _ (List.Sublist.cons₂ _ (List.Sublist.cons₂ _ (List.Sublist.cons _ (List.Sublist.cons₂ _ (List.Sublist.cons₂ _ List.Sublist.slnil)))))) ?_
                  refine rt_hard1 (i := 14) (by kernel_rfl) rfl ?_
                  refine rf_storeR (n := 4) rfl rfl (by kernel_rfl) rfl rfl (UpdR.there _ (UpdR.there _ (UpdR.there _ (UpdR.here _ _ _ (Nat.le_of_ble_eq_true rfl))))) (fun _ h => by cases h; exact (List.Sublist.cons₂ _ (List.Sublist.cons₂ _ (List.Sublist.cons₂ _ (List.Sublist.cons _ (List.Sublist.cons₂ _ (List.Sublist.cons₂ _ List.Sublist.slnil))))))) ?_
                  simp only [Act.put, Act.eval, qn, qv, Nat.reduceAdd]
                  refine rg_nil ?_
                  refine ek_rt (List.Sublist.cons₂ _ (List.Sublist.cons₂ _ (List.Sublist.cons₂ _ (List.Sublist.cons _ (List.Sublist.cons₂ _ (List.Sublist.cons₂ _ List.Sublist.slnil)))))) ?_
                  refine rt_nil (by kernel_rfl) ?_
                  refine ek_next ?_
                  refine wk_seq ?_
                  refine wk_rt _ (by kernel_rfl) (List.Sublist.cons _ (List.Sublist.cons₂ _ (List.Sublist.cons₂ _ (List.Sublist.cons₂ _ (List.Sublist.cons₂ _ (List.Sublist.cons₂ _ List.Sublist.slnil)))))) ?_
                  refine rt_softD (i := 0) rfl (by kernel_rfl) (fun c v a w h => leaves_tmps (t := (Act.put a (some 79) v).tmps) (fun w => results_cc_put (fn := Try.f49) rfl (by decide) (by decide) w) _ _ _ h) (List.Sublist.cons _ (List.Sublist.cons₂ _ (List.Sublist.cons₂ _ (List.Sublist.cons₂ _ (List.Sublist.cons₂ _ (List.Sublist.cons₂ _ List.Sublist.slnil)))))) ?_
                  refine rf_field (n := 15) (j := 0) rfl rfl rfl Try.underlying49 rfl (by kernel_rfl) rfl ?_
                  simp only [Act.put, Act.eval, qn, qv, Nat.reduceAdd]
                  refine rg_nil ?_
                  refine ek_rt (List.Sublist.cons _ (List.Sublist.cons₂ _ (List.Sublist.cons₂ _ (List.Sublist.cons₂ _ (List.Sublist.cons₂ _ (List.Sublist.cons₂ _ List.Sublist.slnil)))))) ?_
                  refine rt_softD (i := 1) rfl (by kernel_rfl) (fun c v a w h => leaves_tmps (t := (Act.put a (some 80) v).tmps) (fun w => results_cc_put (fn := Try.f49) rfl (by decide) (by decide) w) _ _ _ h) (List.Sublist.cons _ (List.Sublist.cons₂ _ (List.Sublist.cons₂ _ (List.Sublist.cons₂ _ (List.Sublist.cons₂ _ (List.Sublist.cons₂ _ List.Sublist.slnil)))))) ?_
                  refine rf_indexA (n := 1) (sz := 8) (j := 8) rfl rfl rfl rfl Try.underlying47 (by kernel_rfl) (by decide) rfl ?_
                  simp only [Act.put, Act.eval, qn, qv, Nat.reduceAdd]
                  refine rg_nil ?_
                  refine ek_rt (List.Sublist.cons _ (List.Sublist.cons₂ _ (List.Sublist.cons₂ _ (List.Sublist.cons₂ _ (List.Sublist.cons₂ _ (List.Sublist.cons₂ _ List.Sublist.slnil)))))) ?_
                  refine rt_softD (i := 2) rfl (by kernel_rfl) (fun c v a w h => leaves_tmps (t := (Act.put a (some 81) v).tmps) (fun w => results_cc_put (fn := Try.f49) rfl (by decide) (by decide) w) _ _ _ h) (List.Sublist.cons _ (List.Sublist.cons₂ _ (List.Sublist.cons₂ _ (List.Sublist.cons₂ _ (List.Sublist.cons₂ _ (List.Sublist.cons₂ _ List.Sublist.slnil)))))) ?_
                  refine rf_indexA (n := 0) (sz := 4) (j := 8) rfl rfl rfl rfl Try.underlying46 (by kernel_rfl) (by decide) rfl ?_
                  simp only [Act.put, Act.eval, qn, qv, Nat.reduceAdd]
                  refine rg_nil ?_
                  refine ek_rt (List.Sublist.cons _ (List.Sublist.cons₂ _ (List.Sublist.cons₂ _ (List.Sublist.cons₂ _ (List.Sublist.cons₂ _ (List.Sublist.cons₂ _ List.Sublist.slnil)))))) ?_
                  refine rt_softD (i := 3) rfl (by kernel_rfl) (fun c v a w h => leaves_tmps (t := (Act.put a (some 82) v).tmps) (fun w => results_cc_put (fn := Try.f49) rfl (by decide) (by decide) w) _ _ _ h) (List.Sublist.cons _ (List.Sublist.cons₂ _ (List.Sublist.cons₂ _ (List.Sublist.cons₂ _ (List.Sublist.cons₂ _ (List.Sublist.cons₂ _ List.Sublist.slnil)))))) ?_
                  refine rf_loadR (n := 4) rfl rfl rfl Try.underlying25 rfl (by kernel_rfl) (fun w hw => Kn.hd0 (Kn.tl (Kn.tl (Kn.tl hw)))) rfl rfl ?_
                  simp only [Act.put, Act.eval, qn, qv, Nat.reduceAdd]
                  refine rg_nil ?_
                  refine ek_rt (List.Sublist.cons _ (List.Sublist.cons₂ _ (List.Sublist.cons₂ _ (List.Sublist.cons₂ _ (List.Sublist.cons₂ _ (List.Sublist.cons₂ _ List.Sublist.slnil)))))) ?_
                  refine rt_softD (i := 4) rfl (by kernel_rfl) (fun c v a w h => leaves_tmps (t := (Act.put a (some 83) v).tmps) (fun w => results_cc_put (fn := Try.f49) rfl (by decide) (by decide) w) _ _ _ h) (List.Sublist.cons _ (List.Sublist.cons₂ _ (List.Sublist.cons₂ _ (List.Sublist.cons₂ _ (List.Sublist.cons₂ _ (List.Sublist.cons₂ _ List.Sublist.slnil)))))) ?_
                  refine rf_field (n := 15) (j := 0) rfl rfl rfl Try.underlying49 rfl (by kernel_rfl) rfl ?_
                  simp only [Act.put, Act.eval, qn, qv, Nat.reduceAdd]
                  refine rg_nil ?_
                  refine ek_rt (List.Sublist.cons _ (List.Sublist.cons₂ _ (List.Sublist.cons₂ _ (List.Sublist.cons₂ _ (List.Sublist.cons₂ _ (List.Sublist.cons₂ _ List.Sublist.slnil)))))) ?_
                  refine rt_softD (i := 5) rfl (by kernel_rfl) (fun c v a w h => leaves_tmps (t := (Act.put a (some 84) v).tmps) (fun w => results_cc_put (fn := Try.f49) rfl (by decide) (by decide) w) _ _ _ h) (List.Sublist.cons _ (List.Sublist.cons₂ _ (List.Sublist.cons₂ _ (List.Sublist.cons₂ _ (List.Sublist.cons₂ _ (List.Sublist.cons₂ _ List.Sublist.slnil)))))) ?_
                  refine rf_indexA (n := 1) (sz := 8) (j := 8) rfl rfl rfl rfl Try.underlying47 (by kernel_rfl) (by decide) rfl ?_
                  simp only [Act.put, Act.eval, qn, qv, Nat.reduceAdd]
                  refine rg_nil ?_
                  refine ek_rt (List.Sublist.cons _ (List.Sublist.cons₂ _ (List.Sublist.cons₂ _ (List.Sublist.cons₂ _ (List.Sublist.cons₂ _ (List.Sublist.cons₂ _ List.Sublist.slnil)))))) ?_
                  refine rt_softD (i := 6) rfl (by kernel_rfl) (fun c v a w h => leaves_tmps (t := (Act.put a (some 85) v).tmps) (fun w => results_cc_put (fn := Try.f49) rfl (by decide) (by decide) w) _ _ _ h) (List.Sublist.cons _ (List.Sublist.cons₂ _ (List.Sublist.cons₂ _ (List.Sublist.cons₂ _ (List.Sublist.cons₂ _ (List.Sublist.cons₂ _ List.Sublist.slnil)))))) ?_
                  refine rf_indexA (n := 1) (sz := 4) (j := 12) rfl rfl rfl rfl Try.underlying46 (by kernel_rfl) (by decide) rfl ?_
                  simp only [Act.put, Act.eval, qn, qv, Nat.reduceAdd]
                  refine rg_nil ?_
                  refine ek_rt (List.Sublist.cons _ (List.Sublist.cons₂ _ (List.Sublist.cons₂ _ (List.Sublist.cons₂ _ (List.Sublist.cons₂ _ (List.Sublist.cons₂ _ List.Sublist.slnil)))))) ?_
                  refine rt_softD (i := 7) rfl (by kernel_rfl) (fun c v a w h => leaves_tmps (t := (Act.put a (some 86) v).tmps) (fun w => results_cc_put (fn := Try.f49) rfl (by decide) (by decide) w) _ _ _ h) (List.Sublist.cons _ (List.Sublist.cons₂ _ (List.Sublist.cons₂ _ (List.Sublist.cons₂ _ (List.Sublist.cons₂ _ (List.Sublist.cons₂ _ List.Sublist.slnil)))))) ?_
                  refine rf_loadR (n := 4) rfl rfl rfl Try.underlying25 rfl (by kernel_rfl) (fun w hw => Kn.hd0 (Kn.tl (Kn.tl (Kn.tl (Kn.tl hw))))) rfl rfl ?_
                  simp only [Act.put, Act.eval, qn, qv, Nat.reduceAdd]
                  refine rg_nil ?_
                  refine ek_rt (List.Sublist.cons _ (List.Sublist.cons₂ _ (List.Sublist.cons₂ _ (List.Sublist.cons₂ _ (List.Sublist.cons₂ _ (List.Sublist.cons₂ _ List.Sublist.slnil)))))) ?_
                  refine rt_softD (i := 9) rfl (by kernel_rfl) (fun c v a w h => leaves_tmps (t := (Act.put a (some 88) v).tmps) (fun w => results_cc_put (fn := Try.f49) rfl (by decide) (by decide) w) _ _ _ h) (List.Sublist.cons _ (List.Sublist.cons₂ _ (List.Sublist.cons₂ _ (List.Sublist.cons₂ _ (List.Sublist.cons₂ _ (List.Sublist.cons₂ _ List.Sublist.slnil)))))) ?_
                  refine rf_field (n := 15) (j := 0) rfl rfl rfl Try.underlying49 rfl (by kernel_rfl) rfl ?_
                  simp only [Act.put, Act.eval, qn, qv, Nat.reduceAdd]
                  refine rg_nil ?_
                  refine ek_rt (List.Sublist.cons _ (List.Sublist.cons₂ _ (List.Sublist.cons₂ _ (List.Sublist.cons₂ _ (List.Sublist.cons₂ _ (List.Sublist.cons₂ _ List.Sublist.slnil)))))) ?_
                  refine rt_softD (i := 10) rfl (by kernel_rfl) (fun c v a w h => leaves_tmps (t := (Act.put a (some 89) v).tmps) (fun w => results_cc_put (fn := Try.f49) rfl (by decide) (by decide) w) _ _ _ h) (List.Sublist.cons _ (List.Sublist.cons₂ _ (List.Sublist.cons₂ _ (List.Sublist.cons₂ _ (List.Sublist.cons₂ _ (List.Sublist.cons₂ _ List.Sublist.slnil)))))) ?_
                  refine rf_indexA (n := 0) (sz := 8) (j := 0) rfl rfl rfl rfl Try.underlying47 (by kernel_rfl) (by decide) rfl ?_
                  simp only [Act.put, Act.eval, qn, qv, Nat.reduceAdd]
                  refine rg_nil ?_
                  refine ek_rt (List.Sublist.cons _ (List.Sublist.cons₂ _ (List.Sublist.cons₂ _ (List.Sublist.cons₂ _ (List.Sublist.cons₂ _ (List.Sublist.cons₂ _ List.Sublist.slnil)))))) ?_
                  refine rt_softD (i := 11) rfl (by kernel_rfl) (fun c v a w h => leaves_tmps (t := (Act.put a (some 90) v).tmps) (fun w => results_cc_put (fn := Try.f49) rfl (by decide) (by decide) w) _ _ _ h) (List.Sublist.cons _ (List.Sublist.cons₂ _ (List.Sublist.cons₂ _ (List.Sublist.cons₂ _ (List.Sublist.cons₂ _ (List.Sublist.cons₂ _ List.Sublist.slnil)))))) ?_
                  refine rf_indexA (n := 1) (sz := 4) (j := 4) rfl rfl rfl rfl Try.underlying46 (by kernel_rfl) (by decide) rfl ?_
                  simp only [Act.put, Act.eval, qn, qv, Nat.reduceAdd]
                  refine rg_nil ?_
                  refine ek_rt (List.Sublist.cons _ (List.Sublist.cons₂ _ (List.Sublist.cons₂ _ (List.Sublist.cons₂ _ (List.Sublist.cons₂ _ (List.Sublist.cons₂ _ List.Sublist.slnil)))))) ?_
                  refine rt_softD (i := 12) rfl (by kernel_rfl) (fun c v a w h => leaves_tmps (t := (Act.put a (some 91) v).tmps) (fun w => results_cc_put (fn := Try.f49) rfl (by decide) (by decide) w) _ _ _ h) (List.Sublist.cons _ (List.Sublist.cons₂ _ (List.Sublist.cons₂ _ (List.Sublist.cons₂ _ (List.Sublist.cons₂ _ (List.Sublist.cons₂ _ List.Sublist.slnil)))))) ?_
                  refine rf_loadR (n := 4) rfl rfl rfl Try.underlying25 rfl (by kernel_rfl) (fun w hw => Kn.hd0 (Kn.tl (Kn.tl (Kn.tl hw)))) rfl rfl ?_
                  simp only [Act.put, Act.eval, qn, qv, Nat.reduceAdd]
                  refine rg_nil ?_
                  refine ek_rt (List.Sublist.cons _ (List.Sublist.cons₂ _ (List.Sublist.cons₂ _ (List.Sublist.cons₂ _ (List.Sublist.cons₂ _ (List.Sublist.cons₂ _ List.Sublist.slnil)))))) ?_
                  refine rt_softD (i := 14) rfl (by kernel_rfl) (fun c v a w h => leaves_tmps (t := (Act.put a (some 93) v).tmps) (fun w => results_cc_put (fn := Try.f49) rfl (by decide) (by decide) w) _ _ _ h) (List.Sublist.cons _ (List.Sublist.cons₂ _ (List.Sublist.cons₂ _ (List.Sublist.cons₂ _ (List.Sublist.cons₂ _ (List.Sublist.cons₂ _ List.Sublist.slnil)))))) ?_
                  refine rf_loadR (n := 4) rfl rfl rfl Try.underlying25 rfl (by kernel_rfl) (fun w hw => Kn.hd0 hw) rfl rfl ?_
                  simp only [Act.put, Act.eval, qn, qv, Nat.reduceAdd]
                  refine rg_nil ?_
                  refine ek_rt (List.Sublist.cons _ (List.Sublist.cons₂ _ (List.Sublist.cons₂ _ (List.Sublist.cons₂ _ (List.Sublist.cons₂ _ (List.Sublist.cons₂ _ List.Sublist.slnil)))))) ?_
                  refine rt_hard1 (i := 8) (by kernel_rfl) rfl ?_
                  apply rg_post (by rfl) (by kernel_rfl)
                  case hargs => (simp only [qm, qs, Act.eval]; exact rfl)
                  case h => exact fun w hw => times_any q.s10 p.s11 fq10 fp11 w
                  case hz => exact (fun _ h => by cases h; exact (List.Sublist.cons _ (List.Sublist.cons₂ _ (List.Sublist.cons₂ _ (List.Sublist.cons₂ _ (List.Sublist.cons₂ _ (List.Sublist.cons₂ _ List.Sublist.slnil)))))))
                  case ke =>
                    intro c hc w hw
                    exact star_err (p := p) (q := q) (by simp only [En.star, hvm.out, hvd.out, hva.out, hvb.out, hvr.out, hv00.out, hvc.out, hv01.out, hve.out, hv10.out, hc, ebind_ok, ebind_err, epure]) hok.out hw (List.Sublist.cons _ (List.Sublist.cons _ (List.Sublist.cons₂ _ (List.Sublist.cons₂ _ (List.Sublist.cons _ (List.Sublist.cons _ List.Sublist.slnil)))))) rfl rfl
                  case k =>
                    intro vf hvf
                    simp only [Act.put, Act.eval, qn, qv, Nat.reduceAdd]
                    have fvf := En.Rc.fit_of_ok (En.times_ok hvf)
                    replace hvf := Lib.hid hvf
                    refine rg_nil ?_
                    refine ek_rt (List.Sublist.cons _ (List.Sublist.cons₂ _ (List.Sublist.cons₂ _ (List.Sublist.cons₂ _ (List.Sublist.cons₂ _ (List.Sublist.cons₂ _ List.Sublist.slnil)))))) ?_
                    refine rt_hard1 (i := 13) (by kernel_rfl) rfl ?_
                    apply rg_post (by rfl) (by kernel_rfl)
                    case hargs => (simp only [qm, qs, Act.eval]; exact rfl)
                    case h => exact fun w hw => times_any vf q.s01 fvf fq01 w
                    case hz => exact (fun _ h => by cases h; exact (List.Sublist.cons _ (List.Sublist.cons₂ _ (List.Sublist.cons₂ _ (List.Sublist.cons₂ _ (List.Sublist.cons₂ _ (List.Sublist.cons₂ _ List.Sublist.slnil)))))))
                    case ke =>
                      intro c hc w hw
                      exact star_err (p := p) (q := q) (by simp only [En.star, hvm.out, hvd.out, hva.out, hvb.out, hvr.out, hv00.out, hvc.out, hv01.out, hve.out, hv10.out, hvf.out, hc, ebind_ok, ebind_err, epure]) hok.out hw (List.Sublist.cons _ (List.Sublist.cons _ (List.Sublist.cons₂ _ (List.Sublist.cons₂ _ (List.Sublist.cons _ (List.Sublist.cons _ List.Sublist.slnil)))))) rfl rfl
                    case k =>
                      intro vg hvg
                      simp only [Act.put, Act.eval, qn, qv, Nat.reduceAdd]
                      have fvg := En.Rc.fit_of_ok (En.times_ok hvg)
                      replace hvg := Lib.hid hvg
                      refine rg_nil ?_
                      refine ek_rt (List.Sublist.cons _ (List.Sublist.cons₂ _ (List.Sublist.cons₂ _ (List.Sublist.cons₂ _ (List.Sublist.cons₂ _ (List.Sublist.cons₂ _ List.Sublist.slnil)))))) ?_
                      refine rt_hard1 (i := 15) (by kernel_rfl) rfl ?_
                      apply rg_post (by rfl) (by kernel_rfl)
                      case hargs => (simp only [qm, qs, Act.eval]; exact rfl)
                      case h => exact fun w hw => quotient_any vg vd fvg fvd w
                      case hz => exact (fun _ h => by cases h; exact (List.Sublist.cons _ (List.Sublist.cons₂ _ (List.Sublist.cons₂ _ (List.Sublist.cons₂ _ (List.Sublist.cons₂ _ (List.Sublist.cons₂ _ List.Sublist.slnil)))))))
                      case ke =>
                        intro c hc w hw
                        exact star_err (p := p) (q := q) (by simp only [En.star, hvm.out, hvd.out, hva.out, hvb.out, hvr.out, hv00.out, hvc.out, hv01.out, hve.out, hv10.out, hvf.out, hvg.out, hc, ebind_ok, ebind_err, epure]) hok.out hw (List.Sublist.cons _ (List.Sublist.cons _ (List.Sublist.cons₂ _ (List.Sublist.cons₂ _ (List.Sublist.cons _ (List.Sublist.cons _ List.Sublist.slnil)))))) rfl rfl
                      case k =>
                        intro vs hvs
                        simp only [Act.put, Act.eval, qn, qv, Nat.reduceAdd]
                        have fvs := En.Rc.fit_of_ok (En.quotient_ok hvs)
                        replace hvs := Lib.hid hvs
                        refine rg_nil ?_
                        refine ek_rt (List.Sublist.cons _ (List.Sublist.cons₂ _ (List.Sublist.cons₂ _ (List.Sublist.cons₂ _ (List.Sublist.cons₂ _ (List.Sublist.cons₂ _ List.Sublist.slnil)))))) ?_
                        refine rt_hard1 (i := 16) (by kernel_rfl) rfl ?_
                        refine rf_storeR (n := 4) rfl rfl (by kernel_rfl) rfl rfl (UpdR.here _ _ _ (Nat.le_of_ble_eq_true rfl)) (fun _ h => by cases h; exact (List.Sublist.cons _ (List.Sublist.cons₂ _ (List.Sublist.cons₂ _ (List.Sublist.cons₂ _ (List.Sublist.cons₂ _ (List.Sublist.cons₂ _ List.Sublist.slnil))))))) ?_
                        simp only [Act.put, Act.eval, qn, qv, Nat.reduceAdd]
                        refine rg_nil ?_
                        refine ek_rt (List.Sublist.cons _ (List.Sublist.cons₂ _ (List.Sublist.cons₂ _ (List.Sublist.cons₂ _ (List.Sublist.cons₂ _ (List.Sublist.cons₂ _ List.Sublist.slnil)))))) ?_
                        refine rt_nil (by kernel_rfl) ?_
                        refine ek_next ?_
                        refine wk_seq ?_
                        refine wk_region [0, 0, 0, 0, 0, 1, 0, 0, 0, 1] rfl (by kernel_rfl) ?_
                        simp only [List.zip_cons_cons, List.zip_nil_right]
                        refine rf_field (n := 15) (j := 0) rfl rfl rfl Try.underlying49 rfl (by kernel_rfl) rfl ?_
                        simp only [Act.put, Act.eval, qn, qv, Nat.reduceAdd]
                        refine rf_indexA (n := 1) (sz := 8) (j := 8) rfl rfl rfl rfl Try.underlying47 (by kernel_rfl) (by decide) rfl ?_
                        simp only [Act.put, Act.eval, qn, qv, Nat.reduceAdd]
                        refine rf_indexA (n := 1) (sz := 4) (j := 12) rfl rfl rfl rfl Try.underlying46 (by kernel_rfl) (by decide) rfl ?_
                        simp only [Act.put, Act.eval, qn, qv, Nat.reduceAdd]
                        refine rf_loadR (n := 4) rfl rfl rfl Try.underlying25 rfl (by kernel_rfl) (fun w hw => Kn.hd0 (Kn.tl (Kn.tl (Kn.tl (Kn.tl hw))))) rfl rfl ?_
                        simp only [Act.put, Act.eval, qn, qv, Nat.reduceAdd]
                        refine rf_loadR (n := 4) rfl rfl rfl Try.underlying25 rfl (by kernel_rfl) (fun w hw => Kn.hd0 hw) rfl rfl ?_
                        simp only [Act.put, Act.eval, qn, qv, Nat.reduceAdd]
                        apply rg_post (by rfl) (by kernel_rfl)
                        case hargs => (simp only [qm, qs, Act.eval]; exact rfl)
                        case h => exact fun w hw => plus_any q.s11 vs fq11 fvs w
                        case hz => exact (fun _ h => by cases h)
                        case ke =>
                          intro c hc w hw
                          exact star_err (p := p) (q := q) (by simp only [En.star, hvm.out, hvd.out, hva.out, hvb.out, hvr.out, hv00.out, hvc.out, hv01.out, hve.out, hv10.out, hvf.out, hvg.out, hvs.out, hc, ebind_ok, ebind_err, epure]) hok.out hw (List.Sublist.cons _ (List.Sublist.cons _ (List.Sublist.cons₂ _ (List.Sublist.cons₂ _ (List.Sublist.cons _ (List.Sublist.cons _ List.Sublist.slnil)))))) rfl rfl
                        case k =>
                          intro v11 hv11
                          simp only [Act.put, Act.eval, qn, qv, Nat.reduceAdd]
                          have fv11 := En.Rc.fit_of_ok (En.plus_ok hv11)
                          replace hv11 := Lib.hid hv11
                          refine rf_field (n := 15) (j := 0) rfl rfl rfl Try.underlying49 rfl (by kernel_rfl) rfl ?_
                          simp only [Act.put, Act.eval, qn, qv, Nat.reduceAdd]
                          refine rf_indexA (n := 1) (sz := 8) (j := 8) rfl rfl rfl rfl Try.underlying47 (by kernel_rfl) (by decide) rfl ?_
                          simp only [Act.put, Act.eval, qn, qv, Nat.reduceAdd]
                          refine rf_indexA (n := 1) (sz := 4) (j := 12) rfl rfl rfl rfl Try.underlying46 (by kernel_rfl) (by decide) rfl ?_
                          simp only [Act.put, Act.eval, qn, qv, Nat.reduceAdd]
                          refine rf_storeR (n := 4) rfl rfl (by kernel_rfl) rfl rfl (UpdR.there _ (UpdR.there _ (UpdR.there _ (UpdR.here _ _ _ (Nat.le_of_ble_eq_true rfl))))) (fun _ h => by cases h) ?_
                          simp only [Act.put, Act.eval, qn, qv, Nat.reduceAdd]
                          refine rg_nil ?_
                          refine ek_next ?_
                          refine wk_seq ?_
                          refine wk_region [0, 1, 1] rfl (by kernel_rfl) ?_
                          simp only [List.zip_cons_cons, List.zip_nil_right]
                          refine rf_loadR (n := 16) rfl rfl rfl Try.underlying49 rfl (by kernel_rfl) (fun w hw => Kn.hd0 (Kn.tl (Kn.tl (Kn.tl hw)))) rfl rfl ?_
                          simp only [Act.put, Act.eval, qn, qv, Nat.reduceAdd]
                          refine rf_storeR (n := 16) rfl rfl (by kernel_rfl) rfl rfl (UpdR.there _ (UpdR.there _ (UpdR.there _ (UpdR.here _ _ _ (Nat.le_of_ble_eq_true rfl))))) (fun _ h => by cases h) ?_
                          simp only [Act.put, Act.eval, qn, qv, Nat.reduceAdd]
                          refine rf_store rfl rfl (by kernel_rfl) rfl rfl (UpdR.there _ (UpdR.there _ (UpdR.here _ _ _ (Nat.le_of_ble_eq_true rfl)))) (fun _ h => by cases h) ?_
                          simp only [Act.put, Act.eval, qn, qv, Nat.reduceAdd]
                          refine rg_nil ?_
                          refine ek_next ?_
                          refine wk_ret ?_
                          intro w hw
                          exact star_fin (p := p) (q := q) (o := ⟨v00, v01, v10, v11⟩) (by simp only [En.star, hvm.out, hvd.out, hva.out, hvb.out, hvr.out, hv00.out, hvc.out, hv01.out, hve.out, hv10.out, hvf.out, hvg.out, hvs.out, hv11.out, ebind_ok, ebind_err, epure] <;> rfl) hok.out rfl hw (List.Sublist.cons _ (List.Sublist.cons _ (List.Sublist.cons₂ _ (List.Sublist.cons₂ _ (List.Sublist.cons _ (List.Sublist.cons _ List.Sublist.slnil)))))) rfl rfl
end Go.Proofs.Ytpbbbfglecbceaa
/- The document's spans: validity, and a span that is in range. -/
namespace Go.Proofs.Ytpbbbfglecbceaa
set_option linter.all false
open Go.RowKit

theorem rvalid_true (lo hi : Int) (h : En.okS lo hi = true) (w : World) :
    Calls Try.prog 26 #[.agg #[.int .i64 lo, .int .i64 hi]] w fun e w' => e = .returned (.bool true) ∧ Below w.heap.size w w' := by
  simp only [En.okS, Bool.and_eq_true, decide_eq_true_eq] at h
  obtain ⟨⟨h1, h2⟩, h3⟩ := h
  go_enter Try.func26, Try.ntmps26
  go_wp2
  go_ret
  exact ⟨rfl, by go_grown⟩

theorem rvalid_false (lo hi : Int) (h : En.okS lo hi = false) (w : World) :
    Calls Try.prog 26 #[.agg #[.int .i64 lo, .int .i64 hi]] w fun e w' => e = .returned (.bool false) ∧ Below w.heap.size w w' := by
  have h' : ¬ lo ≤ hi ∨ (lo ≤ hi ∧ ¬ -1099511627776 ≤ lo) ∨ (lo ≤ hi ∧ -1099511627776 ≤ lo ∧ ¬ hi ≤ 1099511627776) := by
    simp only [En.okS, Bool.and_eq_false_iff, decide_eq_false_iff_not] at h
    omega
  clear h
  rcases h' with h | ⟨h1, h⟩ | ⟨h1, h2, h⟩
  all_goals
    go_enter Try.func26, Try.ntmps26
    go_wp2
    go_ret
    exact ⟨rfl, by go_grown⟩

theorem rvalid_any (lo hi : Int) (w : World) :
    Calls Try.prog 26 #[.agg #[.int .i64 lo, .int .i64 hi]] w fun e w' => e = .returned (.bool (En.okS lo hi)) ∧ Below w.heap.size w w' := by
  cases h : En.okS lo hi with
  | true => exact rvalid_true lo hi h w
  | false => exact rvalid_false lo hi h w

theorem rvalidRect_any (x : En.Rc) (w : World) : Calls Try.prog 82 #[rcV x] w fun e w' => e = .returned (.bool x.ok) ∧ Below w.heap.size w w' := by
  have CA := rvalid_any x.re.lo x.re.hi
  have CB := rvalid_any x.im.lo x.im.hi
  obtain ⟨a, ha⟩ : ∃ a, En.okS x.re.lo x.re.hi = a := ⟨_, rfl⟩
  obtain ⟨b, hb⟩ : ∃ b, En.okS x.im.lo x.im.hi = b := ⟨_, rfl⟩
  have hx : x.ok = (a && b) := by rw [← ha, ← hb]; rfl
  rw [hx]
  rw [ha] at CA
  rw [hb] at CB
  replace CA := Lib.hid CA
  replace CB := Lib.hid CB
  clear ha hb hx
  have HA : Hd (w.alloc (.cells #[.int .i64 x.re.lo, .int .i64 x.re.hi, .int .i64 x.im.lo, .int .i64 x.im.hi] 25)) w.heap.size 25 #[.int .i64 x.re.lo, .int .i64 x.re.hi, .int .i64 x.im.lo, .int .i64 x.im.hi] := hdx
  cases a
  · go_enter Try.func82, Try.ntmps82
    go_wp2_with (go_at_call_of 26 (x.re.lo); refine (CA.out _).mono ?_; rintro e w1 ⟨rfl, hb1⟩; have bw1 : Below w.heap.size w w1 := below_next (by go_grown) hb1; have HA1 := HA.call hb1; obtain ⟨hcA, hfA⟩ := HA1.facts)
    go_ret
    exact ⟨rfl, bw1⟩
  · cases b
    all_goals
      go_enter Try.func82, Try.ntmps82
      go_wp2_with (first | (go_at_call_of 26 (x.re.lo); refine (CA.out _).mono ?_; rintro e w1 ⟨rfl, hb1⟩; have bw1 : Below w.heap.size w w1 := below_next (by go_grown) hb1; have HA1 := HA.call hb1; obtain ⟨hcA, hfA⟩ := HA1.facts) |
        (go_at_call_of 26 (x.im.lo); refine (CB.out _).mono ?_; rintro e w2 ⟨rfl, hb2⟩; have bw2 : Below w.heap.size w w2 := below_next bw1 hb2))
      go_ret
      exact ⟨rfl, bw2⟩

/-- The document's operation: its result where there is no error; the cell of the error; all other blocks are kept. -/
def PostW (r : En.R En.Sp) (g : Nat) (e0 : Int) (w : World) (e : Ending) (w' : World) : Prop :=
  ∃ z e1, e = .returned (spV z) ∧ z.ok = true ∧ (e1 ≠ 0 → z = ⟨0, 0⟩) ∧ En.Stk r e0 z e1 ∧ Hd w' g 83 #[.int .i64 e1] ∧ But g w w'
abbrev ptr (g : Nat) : Value := .pointer (some ⟨g, 0, none⟩)

theorem wspan_any (lo hi e0 : Int) (g : Nat) (w : World) (HG : Hd w g 83 #[.int .i64 e0]) :
    Calls Try.prog 96 #[ptr g, .int .i64 lo, .int .i64 hi] w (PostW (En.span lo hi) g e0 w) := by
  have hlt := HG.lt
  have CV := rvalid_any lo hi
  have hs1 := En.stkSpan_stk e0 lo hi
  have hs2 := En.stkSpan_ok e0 lo hi
  have hs3 := En.stkSpan_err e0 lo hi
  unfold En.stkSpan at hs1 hs2 hs3
  obtain ⟨hcG, hfG⟩ := HG.facts
  by_cases h0 : e0 = 0
  · subst h0
    rw [if_pos rfl] at hs1 hs2 hs3
    cases hv : En.okS lo hi with
    | true =>
      rw [hv] at CV hs1 hs2 hs3
      replace CV := Lib.hid CV
      replace hs1 := Lib.hid hs1
      replace hs2 := Lib.hid hs2
      replace hs3 := Lib.hid hs3
      clear hv
      have bw := But.refl g w
      go_enter Try.func96, Try.ntmps96
      go_wp2_with fail
      have HG0 := HG
      replace HG : Hd ((w.alloc (.cells #[.int .i64 0, .int .i64 0] 23)).alloc (.cells #[.int .i64 lo, .int .i64 hi] 23)) g 83 #[.int .i64 0] := hdx
      have HO : Hd ((w.alloc (.cells #[.int .i64 0, .int .i64 0] 23)).alloc (.cells #[.int .i64 lo, .int .i64 hi] 23)) w.heap.size 23 #[.int .i64 0, .int .i64 0] := hdx
      have HS : Hd ((w.alloc (.cells #[.int .i64 0, .int .i64 0] 23)).alloc (.cells #[.int .i64 lo, .int .i64 hi] 23)) (w.heap.size + 1) 23 #[.int .i64 lo, .int .i64 hi] := hdx
      replace bw : But g w ((w.alloc (.cells #[.int .i64 0, .int .i64 0] 23)).alloc (.cells #[.int .i64 lo, .int .i64 hi] 23)) := butx
      refine (CV.out _).mono ?_
      rintro e w1 ⟨rfl, hb1⟩
      replace bw : But g w w1 := bw.below hb1
      replace HG := HG.call hb1
      replace HO := HO.call hb1
      replace HS := HS.call hb1
      have lw1 : w.heap.size ≤ w1.heap.size := bw.size
      clear hb1
      obtain ⟨hcG, hfG⟩ := HG.facts
      obtain ⟨hcO, hfO⟩ := HO.facts
      obtain ⟨hcS, hfS⟩ := HS.facts
      go_wp2_with fail
      refine bodyPost_ret (run_results1 rfl rfl (by (show Hd _ (w.heap.size) 23 #[.int .i64 lo, .int .i64 hi]); exact hdx) Try.underlying23 rfl (by kernel_rfl)) rfl ⟨⟨lo, hi⟩, 0, rfl, hs2.out, hs3.out, hs1.out, by exact hdx, by exact butx⟩
    | false =>
      rw [hv] at CV hs1 hs2 hs3
      replace CV := Lib.hid CV
      replace hs1 := Lib.hid hs1
      replace hs2 := Lib.hid hs2
      replace hs3 := Lib.hid hs3
      clear hv
      have bw := But.refl g w
      go_enter Try.func96, Try.ntmps96
      go_wp2_with fail
      have HG0 := HG
      replace HG : Hd ((w.alloc (.cells #[.int .i64 0, .int .i64 0] 23)).alloc (.cells #[.int .i64 lo, .int .i64 hi] 23)) g 83 #[.int .i64 0] := hdx
      have HO : Hd ((w.alloc (.cells #[.int .i64 0, .int .i64 0] 23)).alloc (.cells #[.int .i64 lo, .int .i64 hi] 23)) w.heap.size 23 #[.int .i64 0, .int .i64 0] := hdx
      have HS : Hd ((w.alloc (.cells #[.int .i64 0, .int .i64 0] 23)).alloc (.cells #[.int .i64 lo, .int .i64 hi] 23)) (w.heap.size + 1) 23 #[.int .i64 lo, .int .i64 hi] := hdx
      replace bw : But g w ((w.alloc (.cells #[.int .i64 0, .int .i64 0] 23)).alloc (.cells #[.int .i64 lo, .int .i64 hi] 23)) := butx
      refine (CV.out _).mono ?_
      rintro e w1 ⟨rfl, hb1⟩
      replace bw : But g w w1 := bw.below hb1
      replace HG := HG.call hb1
      replace HO := HO.call hb1
      replace HS := HS.call hb1
      have lw1 : w.heap.size ≤ w1.heap.size := bw.size
      clear hb1
      obtain ⟨hcG, hfG⟩ := HG.facts
      obtain ⟨hcO, hfO⟩ := HO.facts
      obtain ⟨hcS, hfS⟩ := HS.facts
      go_wp2_with fail
      refine bodyPost_ret (run_results1 rfl rfl (by (show Hd _ (w.heap.size) 23 #[.int .i64 0, .int .i64 0]); exact hdx) Try.underlying23 rfl (by kernel_rfl)) rfl ⟨⟨0, 0⟩, 4, rfl, hs2.out, hs3.out, hs1.out, by exact hdx, by exact butx⟩
  · rw [if_neg h0] at hs1 hs2 hs3
    replace hs1 := Lib.hid hs1
    replace hs2 := Lib.hid hs2
    replace hs3 := Lib.hid hs3
    clear CV
    have bw := But.refl g w
    go_enter Try.func96, Try.ntmps96
    go_wp2_with fail
    refine bodyPost_ret (run_results1 rfl rfl (by (show Hd _ (w.heap.size) 23 #[.int .i64 0, .int .i64 0]); exact hdx) Try.underlying23 rfl (by kernel_rfl)) rfl ⟨⟨0, 0⟩, e0, rfl, hs2.out, fun _ => rfl, hs1.out, by exact hdx, by exact butx⟩
end Go.Proofs.Ytpbbbfglecbceaa
/- The document's two-ports: which are valid. -/
namespace Go.Proofs.Ytpbbbfglecbceaa
set_option linter.all false
open Go.RowKit

def ptOk (p : En.Pt) : Bool := p.s00.ok && p.s01.ok && p.s10.ok && p.s11.ok
theorem row0_run (p : En.Pt) (w : World) : (Instr.index 47 (.agg #[.int .i64 p.s00.re.lo, .int .i64 p.s00.re.hi, .int .i64 p.s00.im.lo, .int .i64 p.s00.im.hi, .int .i64 p.s01.re.lo, .int .i64 p.s01.re.hi, .int .i64 p.s01.im.lo, .int .i64 p.s01.im.hi, .int .i64 p.s10.re.lo, .int .i64 p.s10.re.hi, .int .i64 p.s10.im.lo, .int .i64 p.s10.im.hi, .int .i64 p.s11.re.lo, .int .i64 p.s11.re.hi, .int .i64 p.s11.im.lo, .int .i64 p.s11.im.hi]) (.int .i64 0)).run Try.prog w = .ok (.agg #[.int .i64 p.s00.re.lo, .int .i64 p.s00.re.hi, .int .i64 p.s00.im.lo, .int .i64 p.s00.im.hi, .int .i64 p.s01.re.lo, .int .i64 p.s01.re.hi, .int .i64 p.s01.im.lo, .int .i64 p.s01.im.hi]) w := by kernel_rfl
theorem cell00_run (p : En.Pt) (w : World) : (Instr.index 46 (.agg #[.int .i64 p.s00.re.lo, .int .i64 p.s00.re.hi, .int .i64 p.s00.im.lo, .int .i64 p.s00.im.hi, .int .i64 p.s01.re.lo, .int .i64 p.s01.re.hi, .int .i64 p.s01.im.lo, .int .i64 p.s01.im.hi]) (.int .i64 0)).run Try.prog w = .ok (.agg #[.int .i64 p.s00.re.lo, .int .i64 p.s00.re.hi, .int .i64 p.s00.im.lo, .int .i64 p.s00.im.hi]) w := by kernel_rfl
theorem cell01_run (p : En.Pt) (w : World) : (Instr.index 46 (.agg #[.int .i64 p.s00.re.lo, .int .i64 p.s00.re.hi, .int .i64 p.s00.im.lo, .int .i64 p.s00.im.hi, .int .i64 p.s01.re.lo, .int .i64 p.s01.re.hi, .int .i64 p.s01.im.lo, .int .i64 p.s01.im.hi]) (.int .i64 1)).run Try.prog w = .ok (.agg #[.int .i64 p.s01.re.lo, .int .i64 p.s01.re.hi, .int .i64 p.s01.im.lo, .int .i64 p.s01.im.hi]) w := by kernel_rfl
theorem row1_run (p : En.Pt) (w : World) : (Instr.index 47 (.agg #[.int .i64 p.s00.re.lo, .int .i64 p.s00.re.hi, .int .i64 p.s00.im.lo, .int .i64 p.s00.im.hi, .int .i64 p.s01.re.lo, .int .i64 p.s01.re.hi, .int .i64 p.s01.im.lo, .int .i64 p.s01.im.hi, .int .i64 p.s10.re.lo, .int .i64 p.s10.re.hi, .int .i64 p.s10.im.lo, .int .i64 p.s10.im.hi, .int .i64 p.s11.re.lo, .int .i64 p.s11.re.hi, .int .i64 p.s11.im.lo, .int .i64 p.s11.im.hi]) (.int .i64 1)).run Try.prog w = .ok (.agg #[.int .i64 p.s10.re.lo, .int .i64 p.s10.re.hi, .int .i64 p.s10.im.lo, .int .i64 p.s10.im.hi, .int .i64 p.s11.re.lo, .int .i64 p.s11.re.hi, .int .i64 p.s11.im.lo, .int .i64 p.s11.im.hi]) w := by kernel_rfl
theorem cell10_run (p : En.Pt) (w : World) : (Instr.index 46 (.agg #[.int .i64 p.s10.re.lo, .int .i64 p.s10.re.hi, .int .i64 p.s10.im.lo, .int .i64 p.s10.im.hi, .int .i64 p.s11.re.lo, .int .i64 p.s11.re.hi, .int .i64 p.s11.im.lo, .int .i64 p.s11.im.hi]) (.int .i64 0)).run Try.prog w = .ok (.agg #[.int .i64 p.s10.re.lo, .int .i64 p.s10.re.hi, .int .i64 p.s10.im.lo, .int .i64 p.s10.im.hi]) w := by kernel_rfl
theorem cell11_run (p : En.Pt) (w : World) : (Instr.index 46 (.agg #[.int .i64 p.s10.re.lo, .int .i64 p.s10.re.hi, .int .i64 p.s10.im.lo, .int .i64 p.s10.im.hi, .int .i64 p.s11.re.lo, .int .i64 p.s11.re.hi, .int .i64 p.s11.im.lo, .int .i64 p.s11.im.hi]) (.int .i64 1)).run Try.prog w = .ok (.agg #[.int .i64 p.s11.re.lo, .int .i64 p.s11.re.hi, .int .i64 p.s11.im.lo, .int .i64 p.s11.im.hi]) w := by kernel_rfl
set_option maxHeartbeats 2000000 in
theorem rvalidPort_any (p : En.Pt) (w : World) : Calls Try.prog 93 #[ptV p] w fun e w' => e = .returned (.bool (ptOk p)) ∧ Below w.heap.size w w' := by
  have C0 := rvalidRect_any p.s00
  have C1 := rvalidRect_any p.s01
  have C2 := rvalidRect_any p.s10
  have C3 := rvalidRect_any p.s11
  unfold ptOk
  obtain ⟨o0, h0⟩ : ∃ o, p.s00.ok = o := ⟨_, rfl⟩
  obtain ⟨o1, h1⟩ : ∃ o, p.s01.ok = o := ⟨_, rfl⟩
  obtain ⟨o2, h2⟩ : ∃ o, p.s10.ok = o := ⟨_, rfl⟩
  obtain ⟨o3, h3⟩ : ∃ o, p.s11.ok = o := ⟨_, rfl⟩
  rw [h0] at C0
  rw [h1] at C1
  rw [h2] at C2
  rw [h3] at C3
  rw [h0, h1, h2, h3]
  clear h0 h1 h2 h3
  have g0 := row0_run p
  have g1 := row1_run p
  have g00 := cell00_run p
  have g01 := cell01_run p
  have g10 := cell10_run p
  have g11 := cell11_run p
  replace C0 := Lib.hid C0
  replace C1 := Lib.hid C1
  replace C2 := Lib.hid C2
  replace C3 := Lib.hid C3
  go_enter Try.func93, Try.ntmps93
  go_wp2_with fail
  have HA : Hd (w.alloc (.cells #[.int .i64 p.s00.re.lo, .int .i64 p.s00.re.hi, .int .i64 p.s00.im.lo, .int .i64 p.s00.im.hi, .int .i64 p.s01.re.lo, .int .i64 p.s01.re.hi, .int .i64 p.s01.im.lo, .int .i64 p.s01.im.hi, .int .i64 p.s10.re.lo, .int .i64 p.s10.re.hi, .int .i64 p.s10.im.lo, .int .i64 p.s10.im.hi, .int .i64 p.s11.re.lo, .int .i64 p.s11.re.hi, .int .i64 p.s11.im.lo, .int .i64 p.s11.im.hi] 49)) w.heap.size 49 #[.int .i64 p.s00.re.lo, .int .i64 p.s00.re.hi, .int .i64 p.s00.im.lo, .int .i64 p.s00.im.hi, .int .i64 p.s01.re.lo, .int .i64 p.s01.re.hi, .int .i64 p.s01.im.lo, .int .i64 p.s01.im.hi, .int .i64 p.s10.re.lo, .int .i64 p.s10.re.hi, .int .i64 p.s10.im.lo, .int .i64 p.s10.im.hi, .int .i64 p.s11.re.lo, .int .i64 p.s11.re.hi, .int .i64 p.s11.im.lo, .int .i64 p.s11.im.hi] := hdx
  have bw : Below w.heap.size w (w.alloc (.cells #[.int .i64 p.s00.re.lo, .int .i64 p.s00.re.hi, .int .i64 p.s00.im.lo, .int .i64 p.s00.im.hi, .int .i64 p.s01.re.lo, .int .i64 p.s01.re.hi, .int .i64 p.s01.im.lo, .int .i64 p.s01.im.hi, .int .i64 p.s10.re.lo, .int .i64 p.s10.re.hi, .int .i64 p.s10.im.lo, .int .i64 p.s10.im.hi, .int .i64 p.s11.re.lo, .int .i64 p.s11.re.hi, .int .i64 p.s11.im.lo, .int .i64 p.s11.im.hi] 49)) := by go_grown
  go_loopw [9] (fun c wx => ∃ i : Int, c = .int .i64 i ∧ (i = 0 ∨ (i = 1 ∧ o0 = true ∧ o1 = true) ∨ (i = 2 ∧ o0 = true ∧ o1 = true ∧ o2 = true ∧ o3 = true)) ∧ Below w.heap.size w wx) (fun c _ => (2 - intOf c).toNat)
  case atStart => exact ⟨0, rfl, .inl rfl, bw⟩
  case round =>
    clear HA bw
    obtain ⟨i, rfl, hi, bw⟩ := hrel
    have lwr := bw.size
    rcases hi with rfl | ⟨rfl, rfl, rfl⟩ | ⟨rfl, rfl, rfl, rfl, rfl⟩
    · go_wp2_with fail
      have bx : Below w.heap.size w (wr.alloc (.cells #[.int .i64 p.s00.re.lo, .int .i64 p.s00.re.hi, .int .i64 p.s00.im.lo, .int .i64 p.s00.im.hi, .int .i64 p.s01.re.lo, .int .i64 p.s01.re.hi, .int .i64 p.s01.im.lo, .int .i64 p.s01.im.hi] 46)) := by go_grown
      go_loopw [13] (fun c wx => ∃ j : Int, c = .int .i64 j ∧ (j = 0 ∨ (j = 1 ∧ o0 = true) ∨ (j = 2 ∧ o0 = true ∧ o1 = true)) ∧ Below w.heap.size w wx) (fun c _ => (2 - intOf c).toNat)
      case atStart => exact ⟨0, rfl, .inl rfl, bx⟩
      case round =>
        clear bw bx
        obtain ⟨j, rfl, hj, bw⟩ := hrel
        have lwz := bw.size
        rcases hj with rfl | ⟨rfl, rfl⟩ | ⟨rfl, rfl, rfl⟩
        · go_wp2_with fail
          refine (C0.out _).mono ?_
          rintro e wa ⟨rfl, hba⟩
          replace bw : Below w.heap.size w wa := below_next (by go_grown) hba
          have lwa := bw.size
          clear hba
          cases o0
          · go_wp2_with fail
            go_ret
            exact ⟨rfl, bw⟩
          · go_wp2_with fail
            exact ⟨⟨1, rfl, by simp, bw⟩, by simp [intOf]⟩
        · go_wp2_with fail
          refine (C1.out _).mono ?_
          rintro e wa ⟨rfl, hba⟩
          replace bw : Below w.heap.size w wa := below_next (by go_grown) hba
          have lwa := bw.size
          clear hba
          cases o1
          · go_wp2_with fail
            go_ret
            exact ⟨rfl, bw⟩
          · go_wp2_with fail
            exact ⟨⟨2, rfl, by simp, bw⟩, by simp [intOf]⟩
        · go_wp2_with fail
          exact ⟨⟨1, rfl, by simp, bw⟩, by simp [intOf]⟩
    · go_wp2_with fail
      have bx : Below w.heap.size w (wr.alloc (.cells #[.int .i64 p.s10.re.lo, .int .i64 p.s10.re.hi, .int .i64 p.s10.im.lo, .int .i64 p.s10.im.hi, .int .i64 p.s11.re.lo, .int .i64 p.s11.re.hi, .int .i64 p.s11.im.lo, .int .i64 p.s11.im.hi] 46)) := by go_grown
      go_loopw [13] (fun c wx => ∃ j : Int, c = .int .i64 j ∧ (j = 0 ∨ (j = 1 ∧ o2 = true) ∨ (j = 2 ∧ o2 = true ∧ o3 = true)) ∧ Below w.heap.size w wx) (fun c _ => (2 - intOf c).toNat)
      case atStart => exact ⟨0, rfl, .inl rfl, bx⟩
      case round =>
        clear bw bx
        obtain ⟨j, rfl, hj, bw⟩ := hrel
        have lwz := bw.size
        rcases hj with rfl | ⟨rfl, rfl⟩ | ⟨rfl, rfl, rfl⟩
        · go_wp2_with fail
          refine (C2.out _).mono ?_
          rintro e wa ⟨rfl, hba⟩
          replace bw : Below w.heap.size w wa := below_next (by go_grown) hba
          have lwa := bw.size
          clear hba
          cases o2
          · go_wp2_with fail
            go_ret
            exact ⟨rfl, bw⟩
          · go_wp2_with fail
            exact ⟨⟨1, rfl, by simp, bw⟩, by simp [intOf]⟩
        · go_wp2_with fail
          refine (C3.out _).mono ?_
          rintro e wa ⟨rfl, hba⟩
          replace bw : Below w.heap.size w wa := below_next (by go_grown) hba
          have lwa := bw.size
          clear hba
          cases o3
          · go_wp2_with fail
            go_ret
            exact ⟨rfl, bw⟩
          · go_wp2_with fail
            exact ⟨⟨2, rfl, by simp, bw⟩, by simp [intOf]⟩
        · go_wp2_with fail
          exact ⟨⟨2, rfl, by simp, bw⟩, by simp [intOf]⟩
    · go_wp2_with fail
      go_ret
      exact ⟨rfl, bw⟩
end Go.Proofs.Ytpbbbfglecbceaa
/- Mirror of both. -/
namespace Go.Proofs.Ytpbbbfglecbceaa
set_option linter.all false
open Go.RowKit

def mirR (p : En.Pt) : En.Pt × Int := if portOk p then (En.mir p, 0) else (zeroP, 50)
set_option maxRecDepth 100000 in
set_option maxHeartbeats 4000000 in
theorem mirror_any (p : En.Pt) (w : World) : Calls Try.prog 51 #[ptV p] w fun e w' => e = .returned (ptE (mirR p)) ∧ Below w.heap.size w w' := by
  have CP := ports1_any p
  cases hv : portOk p with
  | false =>
    have ht := Lib.hid (show mirR p = (zeroP, 50) by unfold mirR; rw [hv]; rfl)
    rw [hv] at CP
    replace CP := Lib.hid CP
    clear hv
    go_enter Try.func51, Try.ntmps51
    refine wk_start ?_
    refine wk_seq ?_
    refine wk_region [1, 1, 0] rfl (by kernel_rfl) ?_
    simp only [List.zip_cons_cons, List.zip_nil_right]
    refine rg_new (cs := ?_) (ty := ?_) (by rfl) (fun w => ?_) (fun _ h => by cases h) (fun g1 => ?_); rotate_left 2
    focus (go_simp; rfl)
    simp only [Act.put, Act.eval, qn, qv, Nat.reduceAdd]
    refine rg_new (cs := ?_) (ty := ?_) (by rfl) (fun w => ?_) (fun _ h => by cases h) (fun g2 => ?_); rotate_left 2
    focus (go_simp; rfl)
    simp only [Act.put, Act.eval, qn, qv, Nat.reduceAdd]
    refine rg_assign ?_
    simp only [Act.put, Act.eval, qn, qv, Nat.reduceAdd]
    refine rg_nil ?_
    refine ek_next ?_
    refine wk_seq ?_
    refine wk_seq ?_
    refine wk_region [0, 1, 1, 0] rfl (by kernel_rfl) ?_
    simp only [List.zip_cons_cons, List.zip_nil_right]
    refine rf_loadR (n := 16) rfl rfl rfl Try.underlying49 rfl (by kernel_rfl) (fun w hw => Kn.hd0 (Kn.tl hw)) rfl rfl ?_
    simp only [Act.put, Act.eval, qn, qv, Nat.reduceAdd]
    refine rg_newS (cs := ?_) (ty := ?_) (n := 1) (c := 1) (by rfl) (fun w => ?_) (fun _ h => by cases h) (fun g3 => ?_); rotate_left 2
    focus (go_simp; rfl)
    simp only [Act.put, Act.eval, qn, qv, Nat.reduceAdd]
    apply rg_pure (by rfl) (by kernel_rfl)
    case hargs => (simp only [qm, qs, Act.eval]; exact rfl)
    case h => exact fun w hw => CP.out g3 _ w (Kn.hd0 hw)
    case hz => exact (fun _ h => by cases h)
    simp only [Act.put, Act.eval, qn, qv, Nat.reduceAdd]
    refine rf_not rfl rfl rfl ?_
    simp only [Act.put, Act.eval, qn, qv, Nat.reduceAdd]
    refine rg_nil ?_
    refine ek_next ?_
    refine wk_cond_t rfl ?_
    refine wk_seq ?_
    refine wk_region [0, 1, 0] rfl (by kernel_rfl) ?_
    simp only [List.zip_cons_cons, List.zip_nil_right]
    refine rf_build (cs := fun a => #[.int .i64 0, .int .i64 0, .int .i64 0, .int .i64 0, .int .i64 0, .int .i64 0, .int .i64 0, .int .i64 0, .int .i64 0, .int .i64 0, .int .i64 0, .int .i64 0, .int .i64 0, .int .i64 0, .int .i64 0, .int .i64 0]) rfl rfl (by kernel_rfl) ?_
    simp only [Act.put, Act.eval, qn, qv, Nat.reduceAdd]
    refine rf_storeR (n := 16) rfl rfl (by kernel_rfl) rfl rfl (UpdR.there _ (UpdR.here _ _ _ (Nat.le_of_ble_eq_true rfl))) (fun _ h => by cases h) ?_
    simp only [Act.put, Act.eval, qn, qv, Nat.reduceAdd]
    refine rg_assign ?_
    simp only [Act.put, Act.eval, qn, qv, Nat.reduceAdd]
    refine rg_nil ?_
    refine ek_next ?_
    refine wk_ret ?_
    refine ek_then_ret ?_
    refine ek_ret (fun w hw => ⟨rfl, _, run_results2 rfl rfl (Kn.hd0 (Kn.tl hw)) Try.underlying49 rfl (by kernel_rfl), ?_⟩)
    (try simp only [Act.put, Act.eval, qn, qv, Nat.reduceAdd])
    exact ⟨by rw [ht.out]; rfl, hw.below⟩
  | true =>
    have ht := Lib.hid (show mirR p = (En.mir p, 0) by unfold mirR; rw [hv]; rfl)
    rw [hv] at CP
    replace CP := Lib.hid CP
    clear hv
    go_enter Try.func51, Try.ntmps51
    refine wk_start ?_
    refine wk_seq ?_
    refine wk_region [1, 1, 0] rfl (by kernel_rfl) ?_
    simp only [List.zip_cons_cons, List.zip_nil_right]
    refine rg_new (cs := ?_) (ty := ?_) (by rfl) (fun w => ?_) (fun _ h => by cases h) (fun g1 => ?_); rotate_left 2
    focus (go_simp; rfl)
    simp only [Act.put, Act.eval, qn, qv, Nat.reduceAdd]
    refine rg_new (cs := ?_) (ty := ?_) (by rfl) (fun w => ?_) (fun _ h => by cases h) (fun g2 => ?_); rotate_left 2
    focus (go_simp; rfl)
    simp only [Act.put, Act.eval, qn, qv, Nat.reduceAdd]
    refine rg_assign ?_
    simp only [Act.put, Act.eval, qn, qv, Nat.reduceAdd]
    refine rg_nil ?_
    refine ek_next ?_
    refine wk_seq ?_
    refine wk_seq ?_
    refine wk_region [0, 1, 1, 0] rfl (by kernel_rfl) ?_
    simp only [List.zip_cons_cons, List.zip_nil_right]
    refine rf_loadR (n := 16) rfl rfl rfl Try.underlying49 rfl (by kernel_rfl) (fun w hw => Kn.hd0 (Kn.tl hw)) rfl rfl ?_
    simp only [Act.put, Act.eval, qn, qv, Nat.reduceAdd]
    refine rg_newS (cs := ?_) (ty := ?_) (n := 1) (c := 1) (by rfl) (fun w => ?_) (fun _ h => by cases h) (fun g3 => ?_); rotate_left 2
    focus (go_simp; rfl)
    simp only [Act.put, Act.eval, qn, qv, Nat.reduceAdd]
    apply rg_pure (by rfl) (by kernel_rfl)
    case hargs => (simp only [qm, qs, Act.eval]; exact rfl)
    case h => exact fun w hw => CP.out g3 _ w (Kn.hd0 hw)
    case hz => exact (fun _ h => by cases h)
    simp only [Act.put, Act.eval, qn, qv, Nat.reduceAdd]
    refine rf_not rfl rfl rfl ?_
    simp only [Act.put, Act.eval, qn, qv, Nat.reduceAdd]
    refine rg_nil ?_
    refine ek_next ?_
    refine wk_cond_f rfl ?_
    refine wk_skip ?_
    refine ek_next ?_
    refine wk_seq ?_
    refine wk_region [0, 0, 0, 0, 0, 0, 0, 0, 0, 0, 0, 0, 0, 0, 0, 0, 0, 0, 0, 0, 1, 0] rfl (by kernel_rfl) ?_
    simp only [List.zip_cons_cons, List.zip_nil_right]
    refine rf_field (n := 15) (j := 0) rfl rfl rfl Try.underlying49 rfl (by kernel_rfl) rfl ?_
    simp only [Act.put, Act.eval, qn, qv, Nat.reduceAdd]
    refine rf_indexA (n := 1) (sz := 8) (j := 8) rfl rfl rfl rfl Try.underlying47 (by kernel_rfl) (by decide) rfl ?_
    simp only [Act.put, Act.eval, qn, qv, Nat.reduceAdd]
    refine rf_indexA (n := 1) (sz := 4) (j := 12) rfl rfl rfl rfl Try.underlying46 (by kernel_rfl) (by decide) rfl ?_
    simp only [Act.put, Act.eval, qn, qv, Nat.reduceAdd]
    refine rf_loadR (n := 4) rfl rfl rfl Try.underlying25 rfl (by kernel_rfl) (fun w hw => Kn.hd0 (Kn.tl (Kn.tl hw))) rfl rfl ?_
    simp only [Act.put, Act.eval, qn, qv, Nat.reduceAdd]
    refine rf_field (n := 15) (j := 0) rfl rfl rfl Try.underlying49 rfl (by kernel_rfl) rfl ?_
    simp only [Act.put, Act.eval, qn, qv, Nat.reduceAdd]
    refine rf_indexA (n := 1) (sz := 8) (j := 8) rfl rfl rfl rfl Try.underlying47 (by kernel_rfl) (by decide) rfl ?_
    simp only [Act.put, Act.eval, qn, qv, Nat.reduceAdd]
    refine rf_indexA (n := 0) (sz := 4) (j := 8) rfl rfl rfl rfl Try.underlying46 (by kernel_rfl) (by decide) rfl ?_
    simp only [Act.put, Act.eval, qn, qv, Nat.reduceAdd]
    refine rf_loadR (n := 4) rfl rfl rfl Try.underlying25 rfl (by kernel_rfl) (fun w hw => Kn.hd0 (Kn.tl (Kn.tl hw))) rfl rfl ?_
    simp only [Act.put, Act.eval, qn, qv, Nat.reduceAdd]
    refine rf_build (cs := fun a => #[cellAt (a.eval (.tmp 12)) 0, cellAt (a.eval (.tmp 12)) 1, cellAt (a.eval (.tmp 12)) 2, cellAt (a.eval (.tmp 12)) 3, cellAt (a.eval (.tmp 16)) 0, cellAt (a.eval (.tmp 16)) 1, cellAt (a.eval (.tmp 16)) 2, cellAt (a.eval (.tmp 16)) 3]) rfl rfl (by kernel_rfl) ?_
    simp only [Act.put, Act.eval, qn, qv, Nat.reduceAdd]
    refine rf_field (n := 15) (j := 0) rfl rfl rfl Try.underlying49 rfl (by kernel_rfl) rfl ?_
    simp only [Act.put, Act.eval, qn, qv, Nat.reduceAdd]
    refine rf_indexA (n := 0) (sz := 8) (j := 0) rfl rfl rfl rfl Try.underlying47 (by kernel_rfl) (by decide) rfl ?_
    simp only [Act.put, Act.eval, qn, qv, Nat.reduceAdd]
    refine rf_indexA (n := 1) (sz := 4) (j := 4) rfl rfl rfl rfl Try.underlying46 (by kernel_rfl) (by decide) rfl ?_
    simp only [Act.put, Act.eval, qn, qv, Nat.reduceAdd]
    refine rf_loadR (n := 4) rfl rfl rfl Try.underlying25 rfl (by kernel_rfl) (fun w hw => Kn.hd0 (Kn.tl (Kn.tl hw))) rfl rfl ?_
    simp only [Act.put, Act.eval, qn, qv, Nat.reduceAdd]
    refine rf_field (n := 15) (j := 0) rfl rfl rfl Try.underlying49 rfl (by kernel_rfl) rfl ?_
    simp only [Act.put, Act.eval, qn, qv, Nat.reduceAdd]
    refine rf_indexA (n := 0) (sz := 8) (j := 0) rfl rfl rfl rfl Try.underlying47 (by kernel_rfl) (by decide) rfl ?_
    simp only [Act.put, Act.eval, qn, qv, Nat.reduceAdd]
    refine rf_indexA (n := 0) (sz := 4) (j := 0) rfl rfl rfl rfl Try.underlying46 (by kernel_rfl) (by decide) rfl ?_
    simp only [Act.put, Act.eval, qn, qv, Nat.reduceAdd]
    refine rf_loadR (n := 4) rfl rfl rfl Try.underlying25 rfl (by kernel_rfl) (fun w hw => Kn.hd0 (Kn.tl (Kn.tl hw))) rfl rfl ?_
    simp only [Act.put, Act.eval, qn, qv, Nat.reduceAdd]
    refine rf_build (cs := fun a => #[cellAt (a.eval (.tmp 21)) 0, cellAt (a.eval (.tmp 21)) 1, cellAt (a.eval (.tmp 21)) 2, cellAt (a.eval (.tmp 21)) 3, cellAt (a.eval (.tmp 25)) 0, cellAt (a.eval (.tmp 25)) 1, cellAt (a.eval (.tmp 25)) 2, cellAt (a.eval (.tmp 25)) 3]) rfl rfl (by kernel_rfl) ?_
    simp only [Act.put, Act.eval, qn, qv, Nat.reduceAdd]
    refine rf_build (cs := fun a => #[cellAt (a.eval (.tmp 17)) 0, cellAt (a.eval (.tmp 17)) 1, cellAt (a.eval (.tmp 17)) 2, cellAt (a.eval (.tmp 17)) 3, cellAt (a.eval (.tmp 17)) 4, cellAt (a.eval (.tmp 17)) 5, cellAt (a.eval (.tmp 17)) 6, cellAt (a.eval (.tmp 17)) 7, cellAt (a.eval (.tmp 26)) 0, cellAt (a.eval (.tmp 26)) 1, cellAt (a.eval (.tmp 26)) 2, cellAt (a.eval (.tmp 26)) 3, cellAt (a.eval (.tmp 26)) 4, cellAt (a.eval (.tmp 26)) 5, cellAt (a.eval (.tmp 26)) 6, cellAt (a.eval (.tmp 26)) 7]) rfl rfl (by kernel_rfl) ?_
    simp only [Act.put, Act.eval, qn, qv, Nat.reduceAdd]
    refine rf_build (cs := fun a => #[cellAt (a.eval (.tmp 27)) 0, cellAt (a.eval (.tmp 27)) 1, cellAt (a.eval (.tmp 27)) 2, cellAt (a.eval (.tmp 27)) 3, cellAt (a.eval (.tmp 27)) 4, cellAt (a.eval (.tmp 27)) 5, cellAt (a.eval (.tmp 27)) 6, cellAt (a.eval (.tmp 27)) 7, cellAt (a.eval (.tmp 27)) 8, cellAt (a.eval (.tmp 27)) 9, cellAt (a.eval (.tmp 27)) 10, cellAt (a.eval (.tmp 27)) 11, cellAt (a.eval (.tmp 27)) 12, cellAt (a.eval (.tmp 27)) 13, cellAt (a.eval (.tmp 27)) 14, cellAt (a.eval (.tmp 27)) 15]) rfl rfl (by kernel_rfl) ?_
    simp only [Act.put, Act.eval, qn, qv, Nat.reduceAdd]
    refine rf_storeR (n := 16) rfl rfl (by kernel_rfl) rfl rfl (UpdR.there _ (UpdR.here _ _ _ (Nat.le_of_ble_eq_true rfl))) (fun _ h => by cases h) ?_
    simp only [Act.put, Act.eval, qn, qv, Nat.reduceAdd]
    refine rg_assign ?_
    simp only [Act.put, Act.eval, qn, qv, Nat.reduceAdd]
    refine rg_nil ?_
    refine ek_next ?_
    refine wk_ret ?_
    refine ek_ret (fun w hw => ⟨rfl, _, run_results2 rfl rfl (Kn.hd0 (Kn.tl hw)) Try.underlying49 rfl (by kernel_rfl), ?_⟩)
    (try simp only [Act.put, Act.eval, qn, qv, Nat.reduceAdd])
    exact ⟨by rw [ht.out]; rfl, hw.below⟩
set_option maxRecDepth 100000 in
set_option maxHeartbeats 4000000 in
theorem rmirror_any (p : En.Pt) (w : World) : Calls Try.prog 52 #[ptV p] w fun e w' => e = .returned (ptE (mirR p)) ∧ Below w.heap.size w w' := by
  have CP := rvalidPort_any p
  rw [show ptOk p = portOk p from rfl] at CP
  cases hv : portOk p with
  | false =>
    have ht := Lib.hid (show mirR p = (zeroP, 50) by unfold mirR; rw [hv]; rfl)
    rw [hv] at CP
    replace CP := Lib.hid CP
    clear hv
    go_enter Try.func52, Try.ntmps52
    refine wk_start ?_
    refine wk_seq ?_
    refine wk_region [1, 1, 0] rfl (by kernel_rfl) ?_
    simp only [List.zip_cons_cons, List.zip_nil_right]
    refine rg_new (cs := ?_) (ty := ?_) (by rfl) (fun w => ?_) (fun _ h => by cases h) (fun g1 => ?_); rotate_left 2
    focus (go_simp; rfl)
    simp only [Act.put, Act.eval, qn, qv, Nat.reduceAdd]
    refine rg_new (cs := ?_) (ty := ?_) (by rfl) (fun w => ?_) (fun _ h => by cases h) (fun g2 => ?_); rotate_left 2
    focus (go_simp; rfl)
    simp only [Act.put, Act.eval, qn, qv, Nat.reduceAdd]
    refine rg_assign ?_
    simp only [Act.put, Act.eval, qn, qv, Nat.reduceAdd]
    refine rg_nil ?_
    refine ek_next ?_
    refine wk_seq ?_
    refine wk_seq ?_
    refine wk_region [0, 1, 0] rfl (by kernel_rfl) ?_
    simp only [List.zip_cons_cons, List.zip_nil_right]
    refine rf_loadR (n := 16) rfl rfl rfl Try.underlying49 rfl (by kernel_rfl) (fun w hw => Kn.hd0 (Kn.tl hw)) rfl rfl ?_
    simp only [Act.put, Act.eval, qn, qv, Nat.reduceAdd]
    apply rg_pure (by rfl) (by kernel_rfl)
    case hargs => (simp only [qm, qs, Act.eval]; exact rfl)
    case h => exact fun w hw => CP.out w
    case hz => exact (fun _ h => by cases h)
    simp only [Act.put, Act.eval, qn, qv, Nat.reduceAdd]
    refine rf_not rfl rfl rfl ?_
    simp only [Act.put, Act.eval, qn, qv, Nat.reduceAdd]
    refine rg_nil ?_
    refine ek_next ?_
    refine wk_cond_t rfl ?_
    refine wk_seq ?_
    refine wk_region [0, 1, 0] rfl (by kernel_rfl) ?_
    simp only [List.zip_cons_cons, List.zip_nil_right]
    refine rf_build (cs := fun a => #[.int .i64 0, .int .i64 0, .int .i64 0, .int .i64 0, .int .i64 0, .int .i64 0, .int .i64 0, .int .i64 0, .int .i64 0, .int .i64 0, .int .i64 0, .int .i64 0, .int .i64 0, .int .i64 0, .int .i64 0, .int .i64 0]) rfl rfl (by kernel_rfl) ?_
    simp only [Act.put, Act.eval, qn, qv, Nat.reduceAdd]
    refine rf_storeR (n := 16) rfl rfl (by kernel_rfl) rfl rfl (UpdR.here _ _ _ (Nat.le_of_ble_eq_true rfl)) (fun _ h => by cases h) ?_
    simp only [Act.put, Act.eval, qn, qv, Nat.reduceAdd]
    refine rg_assign ?_
    simp only [Act.put, Act.eval, qn, qv, Nat.reduceAdd]
    refine rg_nil ?_
    refine ek_next ?_
    refine wk_ret ?_
    refine ek_then_ret ?_
    refine ek_ret (fun w hw => ⟨rfl, _, run_results2 rfl rfl (Kn.hd0 hw) Try.underlying49 rfl (by kernel_rfl), ?_⟩)
    (try simp only [Act.put, Act.eval, qn, qv, Nat.reduceAdd])
    exact ⟨by rw [ht.out]; rfl, hw.below⟩
  | true =>
    have ht := Lib.hid (show mirR p = (En.mir p, 0) by unfold mirR; rw [hv]; rfl)
    rw [hv] at CP
    replace CP := Lib.hid CP
    clear hv
    go_enter Try.func52, Try.ntmps52
    refine wk_start ?_
    refine wk_seq ?_
    refine wk_region [1, 1, 0] rfl (by kernel_rfl) ?_
    simp only [List.zip_cons_cons, List.zip_nil_right]
    refine rg_new (cs := ?_) (ty := ?_) (by rfl) (fun w => ?_) (fun _ h => by cases h) (fun g1 => ?_); rotate_left 2
    focus (go_simp; rfl)
    simp only [Act.put, Act.eval, qn, qv, Nat.reduceAdd]
    refine rg_new (cs := ?_) (ty := ?_) (by rfl) (fun w => ?_) (fun _ h => by cases h) (fun g2 => ?_); rotate_left 2
    focus (go_simp; rfl)
    simp only [Act.put, Act.eval, qn, qv, Nat.reduceAdd]
    refine rg_assign ?_
    simp only [Act.put, Act.eval, qn, qv, Nat.reduceAdd]
    refine rg_nil ?_
    refine ek_next ?_
    refine wk_seq ?_
    refine wk_seq ?_
    refine wk_region [0, 1, 0] rfl (by kernel_rfl) ?_
    simp only [List.zip_cons_cons, List.zip_nil_right]
    refine rf_loadR (n := 16) rfl rfl rfl Try.underlying49 rfl (by kernel_rfl) (fun w hw => Kn.hd0 (Kn.tl hw)) rfl rfl ?_
    simp only [Act.put, Act.eval, qn, qv, Nat.reduceAdd]
    apply rg_pure (by rfl) (by kernel_rfl)
    case hargs => (simp only [qm, qs, Act.eval]; exact rfl)
    case h => exact fun w hw => CP.out w
    case hz => exact (fun _ h => by cases h)
    simp only [Act.put, Act.eval, qn, qv, Nat.reduceAdd]
    refine rf_not rfl rfl rfl ?_
    simp only [Act.put, Act.eval, qn, qv, Nat.reduceAdd]
    refine rg_nil ?_
    refine ek_next ?_
    refine wk_cond_f rfl ?_
    refine wk_skip ?_
    refine ek_next ?_
    refine wk_seq ?_
    refine wk_region [1] rfl (by kernel_rfl) ?_
    simp only [List.zip_cons_cons, List.zip_nil_right]
    refine rg_new (cs := ?_) (ty := ?_) (by rfl) (fun w => ?_) (fun _ h => by cases h) (fun g3 => ?_); rotate_left 2
    focus (go_simp; rfl)
    simp only [Act.put, Act.eval, qn, qv, Nat.reduceAdd]
    refine rg_nil ?_
    refine ek_next ?_
    refine wk_seq ?_
    refine wk_seq ?_
    refine wk_region [0] rfl (by kernel_rfl) ?_
    simp only [List.zip_cons_cons, List.zip_nil_right]
    refine rg_move ?_
    simp only [Act.put, Act.eval, qn, qv, Nat.reduceAdd]
    refine rg_nil ?_
    refine ek_next ?_
    refine wk_block ?_
    refine wk_unroll 3 ?_
    refine wk_seq ?_
    refine wk_region [0] rfl (by kernel_rfl) ?_
    simp only [List.zip_cons_cons, List.zip_nil_right]
    refine rf_lss (b := true) rfl rfl rfl rfl (by decide) ?_
    simp only [Act.put, Act.eval, qn, qv, Nat.reduceAdd]
    refine rg_nil ?_
    refine ek_next ?_
    refine wk_seq ?_
    refine wk_cond_t rfl ?_
    refine wk_skip ?_
    refine ek_next ?_
    refine wk_seq ?_
    refine wk_block ?_
    refine wk_seq ?_
    refine wk_region [0, 0] rfl (by kernel_rfl) ?_
    simp only [List.zip_cons_cons, List.zip_nil_right]
    refine rg_move ?_
    simp only [Act.put, Act.eval, qn, qv, Nat.reduceAdd]
    refine rg_assign ?_
    simp only [Act.put, Act.eval, qn, qv, Nat.reduceAdd]
    refine rg_nil ?_
    refine ek_next ?_
    refine wk_seq ?_
    refine wk_region [0] rfl (by kernel_rfl) ?_
    simp only [List.zip_cons_cons, List.zip_nil_right]
    refine rg_move ?_
    simp only [Act.put, Act.eval, qn, qv, Nat.reduceAdd]
    refine rg_nil ?_
    refine ek_next ?_
    refine wk_block ?_
    refine wk_unroll 3 ?_
    refine wk_seq ?_
    refine wk_region [0] rfl (by kernel_rfl) ?_
    simp only [List.zip_cons_cons, List.zip_nil_right]
    refine rf_lss (b := true) rfl rfl rfl rfl (by decide) ?_
    simp only [Act.put, Act.eval, qn, qv, Nat.reduceAdd]
    refine rg_nil ?_
    refine ek_next ?_
    refine wk_seq ?_
    refine wk_cond_t rfl ?_
    refine wk_skip ?_
    refine ek_next ?_
    refine wk_seq ?_
    refine wk_block ?_
    refine wk_seq ?_
    refine wk_region [0, 0] rfl (by kernel_rfl) ?_
    simp only [List.zip_cons_cons, List.zip_nil_right]
    refine rg_move ?_
    simp only [Act.put, Act.eval, qn, qv, Nat.reduceAdd]
    refine rg_assign ?_
    simp only [Act.put, Act.eval, qn, qv, Nat.reduceAdd]
    refine rg_nil ?_
    refine ek_next ?_
    refine wk_draws_m (hz1 := (List.Sublist.cons _ (List.Sublist.cons₂ _ (List.Sublist.cons₂ _ List.Sublist.slnil)))) [(0, 0), (1, 0), (2, 0), (3, 0), (4, 0), (5, 0), (6, 0), (7, 0), (8, 0), (9, 0), (10, 3), (11, 3), (12, 0), (13, 2)] 13 (by kernel_rfl) (by kernel_rfl) (fun c d v a w h => by cases d <;> exact h) ?_
    simp only [List.map_cons, List.map_nil, List.getD_cons_zero, List.getD_cons_succ]
    refine rg_move ?_
    simp only [Act.put, Act.eval, qn, qv, Nat.reduceAdd]
    refine rg_move ?_
    simp only [Act.put, Act.eval, qn, qv, Nat.reduceAdd]
    refine rg_move ?_
    simp only [Act.put, Act.eval, qn, qv, Nat.reduceAdd]
    refine rf_sub (r := 1) rfl rfl rfl rfl (by decide) ?_
    simp only [Act.put, Act.eval, qn, qv, Nat.reduceAdd]
    refine rg_move ?_
    simp only [Act.put, Act.eval, qn, qv, Nat.reduceAdd]
    refine rf_sub (r := 1) rfl rfl rfl rfl (by decide) ?_
    simp only [Act.put, Act.eval, qn, qv, Nat.reduceAdd]
    refine rf_field (n := 15) (j := 0) rfl rfl rfl Try.underlying49 rfl (by kernel_rfl) rfl ?_
    simp only [Act.put, Act.eval, qn, qv, Nat.reduceAdd]
    refine rf_indexA (n := 1) (sz := 8) (j := 8) rfl rfl rfl rfl Try.underlying47 (by kernel_rfl) (by decide) rfl ?_
    simp only [Act.put, Act.eval, qn, qv, Nat.reduceAdd]
    refine rf_indexA (n := 1) (sz := 4) (j := 12) rfl rfl rfl rfl Try.underlying46 (by kernel_rfl) (by decide) rfl ?_
    simp only [Act.put, Act.eval, qn, qv, Nat.reduceAdd]
    refine rf_loadR (n := 4) rfl rfl rfl Try.underlying25 rfl (by kernel_rfl) (fun w hw => Kn.hd0 (Kn.tl (Kn.tl hw))) rfl rfl ?_
    simp only [Act.put, Act.eval, qn, qv, Nat.reduceAdd]
    refine rf_field (n := 15) (j := 0) rfl rfl rfl Try.underlying49 rfl (by kernel_rfl) rfl ?_
    simp only [Act.put, Act.eval, qn, qv, Nat.reduceAdd]
    refine rf_indexA (n := 0) (sz := 8) (j := 0) rfl rfl rfl rfl Try.underlying47 (by kernel_rfl) (by decide) rfl ?_
    simp only [Act.put, Act.eval, qn, qv, Nat.reduceAdd]
    refine rf_indexA (n := 0) (sz := 4) (j := 0) rfl rfl rfl rfl Try.underlying46 (by kernel_rfl) (by decide) rfl ?_
    simp only [Act.put, Act.eval, qn, qv, Nat.reduceAdd]
    refine rf_storeRM (n := 4) rfl rfl (by kernel_rfl) rfl rfl (UpdR.here _ _ _ (Nat.le_of_ble_eq_true rfl)) (List.Sublist.cons _ (List.Sublist.cons₂ _ (List.Sublist.cons₂ _ List.Sublist.slnil))) ?_
    simp only [Act.put, Act.eval, qn, qv, Nat.reduceAdd]
    refine rg_nil ?_
    refine ek_block ?_
    refine ek_next ?_
    refine wk_region [0, 0] rfl (by kernel_rfl) ?_
    simp only [List.zip_cons_cons, List.zip_nil_right]
    refine rf_add (r := 1) rfl rfl rfl rfl (by decide) ?_
    simp only [Act.put, Act.eval, qn, qv, Nat.reduceAdd]
    refine rg_move ?_
    simp only [Act.put, Act.eval, qn, qv, Nat.reduceAdd]
    refine rg_nil ?_
    refine ek_again ?_
    refine wk_seq ?_
    refine wk_region [0] rfl (by kernel_rfl) ?_
    simp only [List.zip_cons_cons, List.zip_nil_right]
    refine rf_lss (b := true) rfl rfl rfl rfl (by decide) ?_
    simp only [Act.put, Act.eval, qn, qv, Nat.reduceAdd]
    refine rg_nil ?_
    refine ek_next ?_
    refine wk_seq ?_
    refine wk_cond_t rfl ?_
    refine wk_skip ?_
    refine ek_next ?_
    refine wk_seq ?_
    refine wk_block ?_
    refine wk_seq ?_
    refine wk_region [0, 0] rfl (by kernel_rfl) ?_
    simp only [List.zip_cons_cons, List.zip_nil_right]
    refine rg_move ?_
    simp only [Act.put, Act.eval, qn, qv, Nat.reduceAdd]
    refine rg_assign ?_
    simp only [Act.put, Act.eval, qn, qv, Nat.reduceAdd]
    refine rg_nil ?_
    refine ek_next ?_
    refine wk_draws_m (hz1 := (List.Sublist.cons _ (List.Sublist.cons₂ _ (List.Sublist.cons₂ _ List.Sublist.slnil)))) [(0, 0), (1, 0), (2, 0), (3, 0), (4, 0), (5, 0), (6, 0), (7, 0), (8, 0), (9, 0), (10, 3), (11, 3), (12, 0), (13, 2)] 13 (by kernel_rfl) (by kernel_rfl) (fun c d v a w h => by cases d <;> exact h) ?_
    simp only [List.map_cons, List.map_nil, List.getD_cons_zero, List.getD_cons_succ]
    refine rg_move ?_
    simp only [Act.put, Act.eval, qn, qv, Nat.reduceAdd]
    refine rg_move ?_
    simp only [Act.put, Act.eval, qn, qv, Nat.reduceAdd]
    refine rg_move ?_
    simp only [Act.put, Act.eval, qn, qv, Nat.reduceAdd]
    refine rf_sub (r := 1) rfl rfl rfl rfl (by decide) ?_
    simp only [Act.put, Act.eval, qn, qv, Nat.reduceAdd]
    refine rg_move ?_
    simp only [Act.put, Act.eval, qn, qv, Nat.reduceAdd]
    refine rf_sub (r := 0) rfl rfl rfl rfl (by decide) ?_
    simp only [Act.put, Act.eval, qn, qv, Nat.reduceAdd]
    refine rf_field (n := 15) (j := 0) rfl rfl rfl Try.underlying49 rfl (by kernel_rfl) rfl ?_
    simp only [Act.put, Act.eval, qn, qv, Nat.reduceAdd]
    refine rf_indexA (n := 1) (sz := 8) (j := 8) rfl rfl rfl rfl Try.underlying47 (by kernel_rfl) (by decide) rfl ?_
    simp only [Act.put, Act.eval, qn, qv, Nat.reduceAdd]
    refine rf_indexA (n := 0) (sz := 4) (j := 8) rfl rfl rfl rfl Try.underlying46 (by kernel_rfl) (by decide) rfl ?_
    simp only [Act.put, Act.eval, qn, qv, Nat.reduceAdd]
    refine rf_loadR (n := 4) rfl rfl rfl Try.underlying25 rfl (by kernel_rfl) (fun w hw => Kn.hd0 (Kn.tl (Kn.tl hw))) rfl rfl ?_
    simp only [Act.put, Act.eval, qn, qv, Nat.reduceAdd]
    refine rf_field (n := 15) (j := 0) rfl rfl rfl Try.underlying49 rfl (by kernel_rfl) rfl ?_
    simp only [Act.put, Act.eval, qn, qv, Nat.reduceAdd]
    refine rf_indexA (n := 0) (sz := 8) (j := 0) rfl rfl rfl rfl Try.underlying47 (by kernel_rfl) (by decide) rfl ?_
    simp only [Act.put, Act.eval, qn, qv, Nat.reduceAdd]
    refine rf_indexA (n := 1) (sz := 4) (j := 4) rfl rfl rfl rfl Try.underlying46 (by kernel_rfl) (by decide) rfl ?_
    simp only [Act.put, Act.eval, qn, qv, Nat.reduceAdd]
    refine rf_storeRM (n := 4) rfl rfl (by kernel_rfl) rfl rfl (UpdR.here _ _ _ (Nat.le_of_ble_eq_true rfl)) (List.Sublist.cons _ (List.Sublist.cons₂ _ (List.Sublist.cons₂ _ List.Sublist.slnil))) ?_
    simp only [Act.put, Act.eval, qn, qv, Nat.reduceAdd]
    refine rg_nil ?_
    refine ek_block ?_
    refine ek_next ?_
    refine wk_region [0, 0] rfl (by kernel_rfl) ?_
    simp only [List.zip_cons_cons, List.zip_nil_right]
    refine rf_add (r := 2) rfl rfl rfl rfl (by decide) ?_
    simp only [Act.put, Act.eval, qn, qv, Nat.reduceAdd]
    refine rg_move ?_
    simp only [Act.put, Act.eval, qn, qv, Nat.reduceAdd]
    refine rg_nil ?_
    refine ek_again ?_
    refine wk_seq ?_
    refine wk_region [0] rfl (by kernel_rfl) ?_
    simp only [List.zip_cons_cons, List.zip_nil_right]
    refine rf_lss (b := false) rfl rfl rfl rfl (by decide) ?_
    simp only [Act.put, Act.eval, qn, qv, Nat.reduceAdd]
    refine rg_nil ?_
    refine ek_next ?_
    refine wk_seq ?_
    refine wk_cond_f rfl ?_
    refine wk_exit ?_
    refine ek_then_exit ?_
    refine ek_then_exit ?_
    refine ek_block_exit ?_
    refine ek_block ?_
    refine ek_next ?_
    refine wk_region [0, 0] rfl (by kernel_rfl) ?_
    simp only [List.zip_cons_cons, List.zip_nil_right]
    refine rf_add (r := 1) rfl rfl rfl rfl (by decide) ?_
    simp only [Act.put, Act.eval, qn, qv, Nat.reduceAdd]
    refine rg_move ?_
    simp only [Act.put, Act.eval, qn, qv, Nat.reduceAdd]
    refine rg_nil ?_
    refine ek_again ?_
    refine wk_seq ?_
    refine wk_region [0] rfl (by kernel_rfl) ?_
    simp only [List.zip_cons_cons, List.zip_nil_right]
    refine rf_lss (b := true) rfl rfl rfl rfl (by decide) ?_
    simp only [Act.put, Act.eval, qn, qv, Nat.reduceAdd]
    refine rg_nil ?_
    refine ek_next ?_
    refine wk_seq ?_
    refine wk_cond_t rfl ?_
    refine wk_skip ?_
    refine ek_next ?_
    refine wk_seq ?_
    refine wk_block ?_
    refine wk_seq ?_
    refine wk_region [0, 0] rfl (by kernel_rfl) ?_
    simp only [List.zip_cons_cons, List.zip_nil_right]
    refine rg_move ?_
    simp only [Act.put, Act.eval, qn, qv, Nat.reduceAdd]
    refine rg_assign ?_
    simp only [Act.put, Act.eval, qn, qv, Nat.reduceAdd]
    refine rg_nil ?_
    refine ek_next ?_
    refine wk_seq ?_
    refine wk_region [0] rfl (by kernel_rfl) ?_
    simp only [List.zip_cons_cons, List.zip_nil_right]
    refine rg_move ?_
    simp only [Act.put, Act.eval, qn, qv, Nat.reduceAdd]
    refine rg_nil ?_
    refine ek_next ?_
    refine wk_block ?_
    refine wk_unroll 3 ?_
    refine wk_seq ?_
    refine wk_region [0] rfl (by kernel_rfl) ?_
    simp only [List.zip_cons_cons, List.zip_nil_right]
    refine rf_lss (b := true) rfl rfl rfl rfl (by decide) ?_
    simp only [Act.put, Act.eval, qn, qv, Nat.reduceAdd]
    refine rg_nil ?_
    refine ek_next ?_
    refine wk_seq ?_
    refine wk_cond_t rfl ?_
    refine wk_skip ?_
    refine ek_next ?_
    refine wk_seq ?_
    refine wk_block ?_
    refine wk_seq ?_
    refine wk_region [0, 0] rfl (by kernel_rfl) ?_
    simp only [List.zip_cons_cons, List.zip_nil_right]
    refine rg_move ?_
    simp only [Act.put, Act.eval, qn, qv, Nat.reduceAdd]
    refine rg_assign ?_
    simp only [Act.put, Act.eval, qn, qv, Nat.reduceAdd]
    refine rg_nil ?_
    refine ek_next ?_
    refine wk_draws_m (hz1 := (List.Sublist.cons _ (List.Sublist.cons₂ _ (List.Sublist.cons₂ _ List.Sublist.slnil)))) [(0, 0), (1, 0), (2, 0), (3, 0), (4, 0), (5, 0), (6, 0), (7, 0), (8, 0), (9, 0), (10, 3), (11, 3), (12, 0), (13, 2)] 13 (by kernel_rfl) (by kernel_rfl) (fun c d v a w h => by cases d <;> exact h) ?_
    simp only [List.map_cons, List.map_nil, List.getD_cons_zero, List.getD_cons_succ]
    refine rg_move ?_
    simp only [Act.put, Act.eval, qn, qv, Nat.reduceAdd]
    refine rg_move ?_
    simp only [Act.put, Act.eval, qn, qv, Nat.reduceAdd]
    refine rg_move ?_
    simp only [Act.put, Act.eval, qn, qv, Nat.reduceAdd]
    refine rf_sub (r := 0) rfl rfl rfl rfl (by decide) ?_
    simp only [Act.put, Act.eval, qn, qv, Nat.reduceAdd]
    refine rg_move ?_
    simp only [Act.put, Act.eval, qn, qv, Nat.reduceAdd]
    refine rf_sub (r := 1) rfl rfl rfl rfl (by decide) ?_
    simp only [Act.put, Act.eval, qn, qv, Nat.reduceAdd]
    refine rf_field (n := 15) (j := 0) rfl rfl rfl Try.underlying49 rfl (by kernel_rfl) rfl ?_
    simp only [Act.put, Act.eval, qn, qv, Nat.reduceAdd]
    refine rf_indexA (n := 0) (sz := 8) (j := 0) rfl rfl rfl rfl Try.underlying47 (by kernel_rfl) (by decide) rfl ?_
    simp only [Act.put, Act.eval, qn, qv, Nat.reduceAdd]
    refine rf_indexA (n := 1) (sz := 4) (j := 4) rfl rfl rfl rfl Try.underlying46 (by kernel_rfl) (by decide) rfl ?_
    simp only [Act.put, Act.eval, qn, qv, Nat.reduceAdd]
    refine rf_loadR (n := 4) rfl rfl rfl Try.underlying25 rfl (by kernel_rfl) (fun w hw => Kn.hd0 (Kn.tl (Kn.tl hw))) rfl rfl ?_
    simp only [Act.put, Act.eval, qn, qv, Nat.reduceAdd]
    refine rf_field (n := 15) (j := 0) rfl rfl rfl Try.underlying49 rfl (by kernel_rfl) rfl ?_
    simp only [Act.put, Act.eval, qn, qv, Nat.reduceAdd]
    refine rf_indexA (n := 1) (sz := 8) (j := 8) rfl rfl rfl rfl Try.underlying47 (by kernel_rfl) (by decide) rfl ?_
    simp only [Act.put, Act.eval, qn, qv, Nat.reduceAdd]
    refine rf_indexA (n := 0) (sz := 4) (j := 8) rfl rfl rfl rfl Try.underlying46 (by kernel_rfl) (by decide) rfl ?_
    simp only [Act.put, Act.eval, qn, qv, Nat.reduceAdd]
    refine rf_storeRM (n := 4) rfl rfl (by kernel_rfl) rfl rfl (UpdR.here _ _ _ (Nat.le_of_ble_eq_true rfl)) (List.Sublist.cons _ (List.Sublist.cons₂ _ (List.Sublist.cons₂ _ List.Sublist.slnil))) ?_
    simp only [Act.put, Act.eval, qn, qv, Nat.reduceAdd]
    refine rg_nil ?_
    refine ek_block ?_
    refine ek_next ?_
    refine wk_region [0, 0] rfl (by kernel_rfl) ?_
    simp only [List.zip_cons_cons, List.zip_nil_right]
    refine rf_add (r := 1) rfl rfl rfl rfl (by decide) ?_
    simp only [Act.put, Act.eval, qn, qv, Nat.reduceAdd]
    refine rg_move ?_
    simp only [Act.put, Act.eval, qn, qv, Nat.reduceAdd]
    refine rg_nil ?_
    refine ek_again ?_
    refine wk_seq ?_
    refine wk_region [0] rfl (by kernel_rfl) ?_
    simp only [List.zip_cons_cons, List.zip_nil_right]
    refine rf_lss (b := true) rfl rfl rfl rfl (by decide) ?_
    simp only [Act.put, Act.eval, qn, qv, Nat.reduceAdd]
    refine rg_nil ?_
    refine ek_next ?_
    refine wk_seq ?_
    refine wk_cond_t rfl ?_
    refine wk_skip ?_
    refine ek_next ?_
    refine wk_seq ?_
    refine wk_block ?_
    refine wk_seq ?_
    refine wk_region [0, 0] rfl (by kernel_rfl) ?_
    simp only [List.zip_cons_cons, List.zip_nil_right]
    refine rg_move ?_
    simp only [Act.put, Act.eval, qn, qv, Nat.reduceAdd]
    refine rg_assign ?_
    simp only [Act.put, Act.eval, qn, qv, Nat.reduceAdd]
    refine rg_nil ?_
    refine ek_next ?_
    refine wk_draws_m (hz1 := (List.Sublist.cons _ (List.Sublist.cons₂ _ (List.Sublist.cons₂ _ List.Sublist.slnil)))) [(0, 0), (1, 0), (2, 0), (3, 0), (4, 0), (5, 0), (6, 0), (7, 0), (8, 0), (9, 0), (10, 3), (11, 3), (12, 0), (13, 2)] 13 (by kernel_rfl) (by kernel_rfl) (fun c d v a w h => by cases d <;> exact h) ?_
    simp only [List.map_cons, List.map_nil, List.getD_cons_zero, List.getD_cons_succ]
    refine rg_move ?_
    simp only [Act.put, Act.eval, qn, qv, Nat.reduceAdd]
    refine rg_move ?_
    simp only [Act.put, Act.eval, qn, qv, Nat.reduceAdd]
    refine rg_move ?_
    simp only [Act.put, Act.eval, qn, qv, Nat.reduceAdd]
    refine rf_sub (r := 0) rfl rfl rfl rfl (by decide) ?_
    simp only [Act.put, Act.eval, qn, qv, Nat.reduceAdd]
    refine rg_move ?_
    simp only [Act.put, Act.eval, qn, qv, Nat.reduceAdd]
    refine rf_sub (r := 0) rfl rfl rfl rfl (by decide) ?_
    simp only [Act.put, Act.eval, qn, qv, Nat.reduceAdd]
    refine rf_field (n := 15) (j := 0) rfl rfl rfl Try.underlying49 rfl (by kernel_rfl) rfl ?_
    simp only [Act.put, Act.eval, qn, qv, Nat.reduceAdd]
    refine rf_indexA (n := 0) (sz := 8) (j := 0) rfl rfl rfl rfl Try.underlying47 (by kernel_rfl) (by decide) rfl ?_
    simp only [Act.put, Act.eval, qn, qv, Nat.reduceAdd]
    refine rf_indexA (n := 0) (sz := 4) (j := 0) rfl rfl rfl rfl Try.underlying46 (by kernel_rfl) (by decide) rfl ?_
    simp only [Act.put, Act.eval, qn, qv, Nat.reduceAdd]
    refine rf_loadR (n := 4) rfl rfl rfl Try.underlying25 rfl (by kernel_rfl) (fun w hw => Kn.hd0 (Kn.tl (Kn.tl hw))) rfl rfl ?_
    simp only [Act.put, Act.eval, qn, qv, Nat.reduceAdd]
    refine rf_field (n := 15) (j := 0) rfl rfl rfl Try.underlying49 rfl (by kernel_rfl) rfl ?_
    simp only [Act.put, Act.eval, qn, qv, Nat.reduceAdd]
    refine rf_indexA (n := 1) (sz := 8) (j := 8) rfl rfl rfl rfl Try.underlying47 (by kernel_rfl) (by decide) rfl ?_
    simp only [Act.put, Act.eval, qn, qv, Nat.reduceAdd]
    refine rf_indexA (n := 1) (sz := 4) (j := 12) rfl rfl rfl rfl Try.underlying46 (by kernel_rfl) (by decide) rfl ?_
    simp only [Act.put, Act.eval, qn, qv, Nat.reduceAdd]
    refine rf_storeRM (n := 4) rfl rfl (by kernel_rfl) rfl rfl (UpdR.here _ _ _ (Nat.le_of_ble_eq_true rfl)) (List.Sublist.cons _ (List.Sublist.cons₂ _ (List.Sublist.cons₂ _ List.Sublist.slnil))) ?_
    simp only [Act.put, Act.eval, qn, qv, Nat.reduceAdd]
    refine rg_nil ?_
    refine ek_block ?_
    refine ek_next ?_
    refine wk_region [0, 0] rfl (by kernel_rfl) ?_
    simp only [List.zip_cons_cons, List.zip_nil_right]
    refine rf_add (r := 2) rfl rfl rfl rfl (by decide) ?_
    simp only [Act.put, Act.eval, qn, qv, Nat.reduceAdd]
    refine rg_move ?_
    simp only [Act.put, Act.eval, qn, qv, Nat.reduceAdd]
    refine rg_nil ?_
    refine ek_again ?_
    refine wk_seq ?_
    refine wk_region [0] rfl (by kernel_rfl) ?_
    simp only [List.zip_cons_cons, List.zip_nil_right]
    refine rf_lss (b := false) rfl rfl rfl rfl (by decide) ?_
    simp only [Act.put, Act.eval, qn, qv, Nat.reduceAdd]
    refine rg_nil ?_
    refine ek_next ?_
    refine wk_seq ?_
    refine wk_cond_f rfl ?_
    refine wk_exit ?_
    refine ek_then_exit ?_
    refine ek_then_exit ?_
    refine ek_block_exit ?_
    refine ek_block ?_
    refine ek_next ?_
    refine wk_region [0, 0] rfl (by kernel_rfl) ?_
    simp only [List.zip_cons_cons, List.zip_nil_right]
    refine rf_add (r := 2) rfl rfl rfl rfl (by decide) ?_
    simp only [Act.put, Act.eval, qn, qv, Nat.reduceAdd]
    refine rg_move ?_
    simp only [Act.put, Act.eval, qn, qv, Nat.reduceAdd]
    refine rg_nil ?_
    refine ek_again ?_
    refine wk_seq ?_
    refine wk_region [0] rfl (by kernel_rfl) ?_
    simp only [List.zip_cons_cons, List.zip_nil_right]
    refine rf_lss (b := false) rfl rfl rfl rfl (by decide) ?_
    simp only [Act.put, Act.eval, qn, qv, Nat.reduceAdd]
    refine rg_nil ?_
    refine ek_next ?_
    refine wk_seq ?_
    refine wk_cond_f rfl ?_
    refine wk_exit ?_
    refine ek_then_exit ?_
    refine ek_then_exit ?_
    refine ek_block_exit ?_
    refine ek_next ?_
    refine wk_seq ?_
    refine wk_region [0, 1, 0] rfl (by kernel_rfl) ?_
    simp only [List.zip_cons_cons, List.zip_nil_right]
    refine rf_loadR (n := 16) rfl rfl rfl Try.underlying49 rfl (by kernel_rfl) (fun w hw => Kn.hd0 hw) rfl rfl ?_
    simp only [Act.put, Act.eval, qn, qv, Nat.reduceAdd]
    refine rf_storeR (n := 16) rfl rfl (by kernel_rfl) rfl rfl (UpdR.there _ (UpdR.here _ _ _ (Nat.le_of_ble_eq_true rfl))) (fun _ h => by cases h) ?_
    simp only [Act.put, Act.eval, qn, qv, Nat.reduceAdd]
    refine rg_assign ?_
    simp only [Act.put, Act.eval, qn, qv, Nat.reduceAdd]
    refine rg_nil ?_
    refine ek_next ?_
    refine wk_ret ?_
    refine ek_ret (fun w hw => ⟨rfl, _, run_results2 rfl rfl (Kn.hd0 (Kn.tl hw)) Try.underlying49 rfl (by kernel_rfl), ?_⟩)
    (try simp only [Act.put, Act.eval, qn, qv, Nat.reduceAdd])
    exact ⟨by rw [ht.out]; rfl, hw.below⟩
end Go.Proofs.Ytpbbbfglecbceaa
/- The document's sums, differences and halves of spans; its products of numbers. -/
namespace Go.Proofs.Ytpbbbfglecbceaa
set_option linter.all false
open Go.RowKit

theorem tdiv_floor (a b : Int) (hb : 0 < b) : a / b = if a.tmod b < 0 then a.tdiv b - 1 else a.tdiv b := by
  have h1 := Int.mul_tdiv_add_tmod a b
  have h3 := Int.tmod_lt_of_pos a hb
  have h4 : -b < a.tmod b := by
    have := Int.tmod_lt_of_pos (-a) hb
    rw [Int.neg_tmod] at this
    omega
  split
  · next h =>
    refine ((Int.ediv_emod_unique (r := a.tmod b + b) hb).2 ⟨?_, by omega, by omega⟩).1
    rw [Int.mul_sub, Int.mul_one]
    omega
  · next h =>
    exact ((Int.ediv_emod_unique (r := a.tmod b) hb).2 ⟨by omega, by omega, by omega⟩).1
theorem below_any (a b : Int) (hb : 0 < b) (hb' : b ≤ 2199023255552) (ha : -4611686018427387904 ≤ a) (ha' : a ≤ 4611686018427387904) (w : World) :
    Calls Try.prog 97 #[.int .i64 a, .int .i64 b] w fun e w' => e = .returned (.int .i64 (a / b)) ∧ w' = w := by
  have hf := tdiv_floor a b hb
  have h0 : b ≠ 0 := by omega
  have hm : b ≠ -1 := by omega
  have hq1 : -4611686018427387904 ≤ a / b := by
    rcases Int.le_total 0 a with h | h
    · exact Int.le_trans (by omega) (Int.ediv_nonneg h (by omega))
    · exact (Int.le_ediv_iff_mul_le hb).2 (by
        have : (-4611686018427387904) * b ≤ -4611686018427387904 * 1 := Int.mul_le_mul_of_nonpos_left (by omega) (by omega)
        omega)
  have hq2 : a / b ≤ 4611686018427387904 := by
    rcases Int.le_total 0 a with h | h
    · exact Int.le_trans (Int.ediv_le_self b h) ha'
    · have : a / b < 1 := (Int.ediv_lt_iff_lt_mul hb).2 (by omega)
      omega
  by_cases hr : a.tmod b < 0
  · rw [if_pos hr] at hf
    go_enter Try.func97, Try.ntmps97
    go_wp2
    go_ret
    exact ⟨by first | rfl | (rw [hf]; rfl), rfl⟩
  · rw [if_neg hr] at hf
    go_enter Try.func97, Try.ntmps97
    go_wp2
    go_ret
    exact ⟨by first | rfl | (rw [hf]; rfl), rfl⟩

theorem parts_any (n : Int) (h1 : -4611686018427387904 ≤ n) (h2 : n ≤ 4611686018427387904) (w : World) :
    Calls Try.prog 140 #[.int .i64 n] w fun e w' => e = .returned (.tuple #[.int .i64 (n / 1073741824), .int .i64 (n % 1073741824)]) ∧ w' = w := by
  have CB := Lib.hid (below_any n 1073741824 (by omega) (by omega) h1 h2)
  obtain ⟨q, hq⟩ : ∃ q, n / 1073741824 = q := ⟨_, rfl⟩
  have b1 : -4611686018427387904 ≤ q * 1073741824 := by omega
  have b2 : q * 1073741824 ≤ 4611686018427387904 := by omega
  have b3 : -1073741824 ≤ n - q * 1073741824 := by omega
  have b4 : n - q * 1073741824 ≤ 1073741824 := by omega
  have hr : n - q * 1073741824 = n % 1073741824 := by omega
  have CB' := CB.out
  rw [hq] at CB'
  replace CB' := Lib.hid CB'
  rw [hq]
  clear CB hq
  go_enter Try.func140, Try.ntmps140
  go_wp2_with (go_at_call 97; refine (CB'.out _).mono ?_; rintro e w'' ⟨rfl, rfl⟩)
  go_ret2
  exact ⟨by first | rfl | (rw [← hr]; rfl), rfl⟩

theorem dn_parts (a b : Int) : a / 1073741824 * b + a % 1073741824 * (b / 1073741824) + a % 1073741824 * (b % 1073741824) / 1073741824 = En.dn a b := by
  have ha := Int.mul_ediv_add_emod a 1073741824
  have hb := Int.mul_ediv_add_emod b 1073741824
  have e : a * b = (a / 1073741824 * b + a % 1073741824 * (b / 1073741824)) * 1073741824 + a % 1073741824 * (b % 1073741824) := by
    have e1 : a * b = (1073741824 * (a / 1073741824) + a % 1073741824) * b := by rw [ha]
    have e2 : a % 1073741824 * b = a % 1073741824 * (1073741824 * (b / 1073741824) + b % 1073741824) := by rw [hb]
    rw [e1, Int.add_mul, e2, Int.mul_add, Int.add_mul, Int.mul_assoc 1073741824, Int.mul_comm 1073741824 (_ * b), Int.mul_left_comm _ 1073741824, Int.mul_comm 1073741824 (_ * (b / 1073741824))]
    omega
  unfold En.dn
  rw [e]
  omega
theorem timesDown_any (a b : Int) (h1 : -1099511627776 ≤ a) (h2 : a ≤ 1099511627776) (h3 : -1099511627776 ≤ b) (h4 : b ≤ 1099511627776) (w : World) :
    Calls Try.prog 128 #[.int .i64 a, .int .i64 b] w fun e w' => e = .returned (.int .i64 (En.dn a b)) ∧ w' = w := by
  have CA := parts_any a (by omega) (by omega)
  have CB := parts_any b (by omega) (by omega)
  have hd := dn_parts a b
  have m1 := En.abs_mul_le (a := a / 1073741824) (b := b) (m := 1024) (n := 1099511627776) (by omega) (by omega) h3 h4
  have m2 := En.abs_mul_le (a := a % 1073741824) (b := b / 1073741824) (m := 1073741824) (n := 1024) (by omega) (by omega) (by omega) (by omega)
  have m3 := En.abs_mul_le (a := a % 1073741824) (b := b % 1073741824) (m := 1073741824) (n := 1073741824) (by omega) (by omega) (by omega) (by omega)
  rw [En.abs_mul_abs] at m1 m2 m3
  have n3 : 0 ≤ a % 1073741824 * (b % 1073741824) := Int.mul_nonneg (by omega) (by omega)
  obtain ⟨q, hq⟩ : ∃ q, a / 1073741824 = q := ⟨_, rfl⟩
  obtain ⟨r, hr⟩ : ∃ r, a % 1073741824 = r := ⟨_, rfl⟩
  obtain ⟨p, hp⟩ : ∃ p, b / 1073741824 = p := ⟨_, rfl⟩
  obtain ⟨s, hs⟩ : ∃ s, b % 1073741824 = s := ⟨_, rfl⟩
  rw [hq, hr] at CA
  rw [hp, hs] at CB
  rw [hq, hr, hp, hs] at hd
  rw [hq] at m1
  rw [hr, hp] at m2
  rw [hr, hs] at m3 n3
  clear hq hr hp hs
  have l1 := En.le_of_abs m1
  have l2 := En.le_of_abs m2
  obtain ⟨l1a, l1b⟩ := l1
  obtain ⟨l2a, l2b⟩ := l2
  have l3 := (En.le_of_abs m3).2
  have l4 : (r * s).tdiv 1073741824 = r * s / 1073741824 := Int.tdiv_eq_ediv_of_nonneg n3
  have l5 : 0 ≤ r * s / 1073741824 := by omega
  have l6 : r * s / 1073741824 ≤ 1073741824 := by omega
  clear m1 m2 m3
  replace CA := Lib.hid CA
  replace CB := Lib.hid CB
  go_enter Try.func128, Try.ntmps128
  go_wp2_with (first | (go_at_call_of 140 a; refine (CA.out _).mono ?_; rintro e w'' ⟨rfl, rfl⟩) | (go_at_call 140; refine (CB.out _).mono ?_; rintro e w'' ⟨rfl, rfl⟩))
  go_ret
  exact ⟨by first | rfl | (rw [← hd]; rfl), rfl⟩
theorem timesUp_any (a b : Int) (h1 : -1099511627776 ≤ a) (h2 : a ≤ 1099511627776) (h3 : -1099511627776 ≤ b) (h4 : b ≤ 1099511627776) (w : World) :
    Calls Try.prog 127 #[.int .i64 a, .int .i64 b] w fun e w' => e = .returned (.int .i64 (En.up a b)) ∧ w' = w := by
  have C := timesDown_any (-a) b (by omega) (by omega) h3 h4
  have hd : -(En.dn (-a) b) = En.up a b := by unfold En.dn En.up; rw [Int.neg_mul]
  have m1 := En.abs_mul_le (a := -a) (b := b) (m := 1099511627776) (n := 1099511627776) (by omega) (by omega) h3 h4
  rw [En.abs_mul_abs] at m1
  obtain ⟨l1, l2⟩ := En.le_of_abs m1
  have k1 : -1125899906842625 ≤ En.dn (-a) b := by unfold En.dn; omega
  have k2 : En.dn (-a) b ≤ 1125899906842625 := by unfold En.dn; omega
  obtain ⟨d, hdd⟩ : ∃ d, En.dn (-a) b = d := ⟨_, rfl⟩
  rw [hdd] at C hd k1 k2
  clear hdd m1 l1 l2
  replace C := Lib.hid C
  rw [← hd]
  clear hd
  go_enter Try.func127, Try.ntmps127
  go_wp2_with (go_at_call 128; refine (C.out _).mono ?_; rintro e w'' ⟨rfl, rfl⟩)
  go_ret
  exact ⟨rfl, rfl⟩
end Go.Proofs.Ytpbbbfglecbceaa
/- The document's operations on spans. -/
namespace Go.Proofs.Ytpbbbfglecbceaa
set_option linter.all false
open Go.RowKit

theorem if_min (a b : Int) : (if b < a then b else a) = min a b := by split <;> omega
theorem if_max (a b : Int) : (if b > a then b else a) = max a b := by split <;> omega
theorem min4 (a b c d : Int) : min (min (min a b) c) d = min a (min b (min c d)) := by omega
theorem max4 (a b c d : Int) : max (max (max a b) c) d = max a (max b (max c d)) := by omega
@[go_sem] theorem run_min_int4 {P : Program} (w : World) (ts : Array TypeId) (t : TypeId) (k k1 k2 k3 : IntKind) (x y z u : Int) :
    (Builtin.min_ ts t #[.int k x, .int k1 y, .int k2 z, .int k3 u]).run P w = .ok (.int k (min (min (min x y) z) u)) w := by
  rw [← if_min, ← if_min, ← if_min]
  simp [Builtin.min_, Builtin.min2]
@[go_sem] theorem run_max_int4 {P : Program} (w : World) (ts : Array TypeId) (t : TypeId) (k k1 k2 k3 : IntKind) (x y z u : Int) :
    (Builtin.max_ ts t #[.int k x, .int k1 y, .int k2 z, .int k3 u]).run P w = .ok (.int k (max (max (max x y) z) u)) w := by
  rw [← if_max, ← if_max, ← if_max]
  simp [Builtin.max_, Builtin.max2]

theorem wsum_any (x y : En.Sp) (hx : x.fit) (hy : y.fit) (e0 : Int) (g : Nat) (w : World) (HG : Hd w g 83 #[.int .i64 e0]) :
    Calls Try.prog 94 #[ptr g, spV x, spV y] w (PostW (En.add x y) g e0 w) := by
  have hlt := HG.lt
  have bw := But.refl g w
  obtain ⟨x1, x2, x3, x4⟩ := hx
  obtain ⟨y1, y2, y3, y4⟩ := hy
  obtain ⟨hcG, hfG⟩ := HG.facts
  go_enter Try.func94, Try.ntmps94
  go_wp2_with fail
  replace HG : Hd (((w.alloc (.cells #[.int .i64 x.lo, .int .i64 x.hi] 23)).alloc (.cells #[.int .i64 y.lo, .int .i64 y.hi] 23)).alloc (.cells #[.int .i64 0, .int .i64 0] 23)) g 83 #[.int .i64 e0] := hdx
  have HA : Hd (((w.alloc (.cells #[.int .i64 x.lo, .int .i64 x.hi] 23)).alloc (.cells #[.int .i64 y.lo, .int .i64 y.hi] 23)).alloc (.cells #[.int .i64 0, .int .i64 0] 23)) w.heap.size 23 #[.int .i64 x.lo, .int .i64 x.hi] := hdx
  have HB : Hd (((w.alloc (.cells #[.int .i64 x.lo, .int .i64 x.hi] 23)).alloc (.cells #[.int .i64 y.lo, .int .i64 y.hi] 23)).alloc (.cells #[.int .i64 0, .int .i64 0] 23)) (w.heap.size + 1) 23 #[.int .i64 y.lo, .int .i64 y.hi] := hdx
  have HO : Hd (((w.alloc (.cells #[.int .i64 x.lo, .int .i64 x.hi] 23)).alloc (.cells #[.int .i64 y.lo, .int .i64 y.hi] 23)).alloc (.cells #[.int .i64 0, .int .i64 0] 23)) (w.heap.size + 2) 23 #[.int .i64 0, .int .i64 0] := hdx
  replace bw : But g w (((w.alloc (.cells #[.int .i64 x.lo, .int .i64 x.hi] 23)).alloc (.cells #[.int .i64 y.lo, .int .i64 y.hi] 23)).alloc (.cells #[.int .i64 0, .int .i64 0] 23)) := butx
  refine (wspan_any _ _ e0 g _ HG).mono ?_
  rintro e w1 ⟨z1, e1, rfl, ok1, zz1, qq1, HG1, hb1⟩
  replace bw : But g w w1 := bw.trans hb1
  replace HA := HA.but hb1 (by omega)
  replace HB := HB.but hb1 (by omega)
  replace HO := HO.but hb1 (by omega)
  replace HG := HG1
  clear HG1
  replace qq1 := Lib.hid qq1
  replace zz1 := Lib.hid zz1
  have lw1 : w.heap.size ≤ w1.heap.size := bw.size
  clear hb1
  obtain ⟨hcO, hfO⟩ := HO.facts
  go_wp2
  refine bodyPost_ret (run_results1 rfl rfl (by (show Hd _ ((w.heap.size + 2)) 23 #[.int .i64 z1.lo, .int .i64 z1.hi]); exact hdx) Try.underlying23 rfl (by kernel_rfl)) rfl ⟨z1, e1, rfl, ok1, zz1.out, qq1.out, by exact hdx, by exact butx⟩

theorem wless_any (x y : En.Sp) (hx : x.fit) (hy : y.fit) (e0 : Int) (g : Nat) (w : World) (HG : Hd w g 83 #[.int .i64 e0]) :
    Calls Try.prog 111 #[ptr g, spV x, spV y] w (PostW (En.sub x y) g e0 w) := by
  have hlt := HG.lt
  have bw := But.refl g w
  obtain ⟨x1, x2, x3, x4⟩ := hx
  obtain ⟨y1, y2, y3, y4⟩ := hy
  obtain ⟨hcG, hfG⟩ := HG.facts
  go_enter Try.func111, Try.ntmps111
  go_wp2_with fail
  replace HG : Hd (((w.alloc (.cells #[.int .i64 x.lo, .int .i64 x.hi] 23)).alloc (.cells #[.int .i64 y.lo, .int .i64 y.hi] 23)).alloc (.cells #[.int .i64 0, .int .i64 0] 23)) g 83 #[.int .i64 e0] := hdx
  have HA : Hd (((w.alloc (.cells #[.int .i64 x.lo, .int .i64 x.hi] 23)).alloc (.cells #[.int .i64 y.lo, .int .i64 y.hi] 23)).alloc (.cells #[.int .i64 0, .int .i64 0] 23)) w.heap.size 23 #[.int .i64 x.lo, .int .i64 x.hi] := hdx
  have HB : Hd (((w.alloc (.cells #[.int .i64 x.lo, .int .i64 x.hi] 23)).alloc (.cells #[.int .i64 y.lo, .int .i64 y.hi] 23)).alloc (.cells #[.int .i64 0, .int .i64 0] 23)) (w.heap.size + 1) 23 #[.int .i64 y.lo, .int .i64 y.hi] := hdx
  have HO : Hd (((w.alloc (.cells #[.int .i64 x.lo, .int .i64 x.hi] 23)).alloc (.cells #[.int .i64 y.lo, .int .i64 y.hi] 23)).alloc (.cells #[.int .i64 0, .int .i64 0] 23)) (w.heap.size + 2) 23 #[.int .i64 0, .int .i64 0] := hdx
  replace bw : But g w (((w.alloc (.cells #[.int .i64 x.lo, .int .i64 x.hi] 23)).alloc (.cells #[.int .i64 y.lo, .int .i64 y.hi] 23)).alloc (.cells #[.int .i64 0, .int .i64 0] 23)) := butx
  refine (wspan_any _ _ e0 g _ HG).mono ?_
  rintro e w1 ⟨z1, e1, rfl, ok1, zz1, qq1, HG1, hb1⟩
  replace bw : But g w w1 := bw.trans hb1
  replace HA := HA.but hb1 (by omega)
  replace HB := HB.but hb1 (by omega)
  replace HO := HO.but hb1 (by omega)
  replace HG := HG1
  clear HG1
  replace qq1 := Lib.hid qq1
  replace zz1 := Lib.hid zz1
  have lw1 : w.heap.size ≤ w1.heap.size := bw.size
  clear hb1
  obtain ⟨hcO, hfO⟩ := HO.facts
  go_wp2
  refine bodyPost_ret (run_results1 rfl rfl (by (show Hd _ ((w.heap.size + 2)) 23 #[.int .i64 z1.lo, .int .i64 z1.hi]); exact hdx) Try.underlying23 rfl (by kernel_rfl)) rfl ⟨z1, e1, rfl, ok1, zz1.out, qq1.out, by exact hdx, by exact butx⟩

theorem whalf_any (x : En.Sp) (hx : x.fit) (e0 : Int) (g : Nat) (w : World) (HG : Hd w g 83 #[.int .i64 e0]) :
    Calls Try.prog 113 #[ptr g, spV x] w (PostW (En.half x) g e0 w) := by
  have hlt := HG.lt
  have bw := But.refl g w
  obtain ⟨x1, x2, x3, x4⟩ := hx
  obtain ⟨hcG, hfG⟩ := HG.facts
  go_enter Try.func113, Try.ntmps113
  go_wp2_with fail
  replace HG : Hd (((w.alloc (.cells #[.int .i64 x.lo, .int .i64 x.hi] 23)).alloc (.cells #[.int .i64 0, .int .i64 0] 23)).drew) g 83 #[.int .i64 e0] := hdx
  have HA : Hd (((w.alloc (.cells #[.int .i64 x.lo, .int .i64 x.hi] 23)).alloc (.cells #[.int .i64 0, .int .i64 0] 23)).drew) w.heap.size 23 #[.int .i64 x.lo, .int .i64 x.hi] := hdx
  have HO : Hd (((w.alloc (.cells #[.int .i64 x.lo, .int .i64 x.hi] 23)).alloc (.cells #[.int .i64 0, .int .i64 0] 23)).drew) (w.heap.size + 1) 23 #[.int .i64 0, .int .i64 0] := hdx
  replace bw : But g w (((w.alloc (.cells #[.int .i64 x.lo, .int .i64 x.hi] 23)).alloc (.cells #[.int .i64 0, .int .i64 0] 23)).drew) := butx
  (refine wp_region_eag (fun w' => Hd w' w.heap.size 23 #[.int .i64 x.lo, .int .i64 x.hi] ∧ But g w w') [(0, true), (1, true), (2, true), (4, true), (5, true), (6, true), (3, false), (7, false), (8, true), (9, false), (10, false)] (by kernel_rfl) (by kernel_rfl) (fun c d v a w h => by cases d <;> exact h) ⟨HA, bw⟩ ?_; simp only [List.map_cons, List.map_nil, List.getD_cons_zero, List.getD_cons_succ, flMark, Nat.reduceEqDiff, ↓reduceIte])
  repeat ((first | with_reducible apply eag_move | with_reducible apply eag_assign | ((with_reducible refine eag_soft (v := ?_) (fun w' hw' => ?_) ?_); rotate_left 1; (focus (obtain ⟨hA, hBw⟩ := hw'; obtain ⟨hcA, hfA⟩ := hA.facts; go_simp; (try with_reducible rfl); done)))); simp only [Act.put, Act.eval, qs])
  refine eag_hard ?_
  go_wp2_with fail
  refine (below_any x.lo 2 (by omega) (by omega) (by omega) (by omega) _).mono ?_
  rintro e w'' ⟨rfl, rfl⟩
  go_wp2_with fail
  (try refine ⟨⟨HA, bw⟩, ?_⟩)
  repeat ((first | with_reducible apply eag_move | with_reducible apply eag_assign | ((with_reducible refine eag_soft (v := ?_) (fun w' hw' => ?_) ?_); rotate_left 1; (focus (obtain ⟨hA, hBw⟩ := hw'; obtain ⟨hcA, hfA⟩ := hA.facts; go_simp; (try with_reducible rfl); done)))); simp only [Act.put, Act.eval, qs])
  refine eag_hard ?_
  go_wp2_with fail
  refine (below_any (-x.hi) 2 (by omega) (by omega) (by omega) (by omega) _).mono ?_
  rintro e w'' ⟨rfl, rfl⟩
  go_wp2_with fail
  (try refine ⟨⟨HA, bw⟩, ?_⟩)
  repeat ((first | with_reducible apply eag_move | with_reducible apply eag_assign | ((with_reducible refine eag_soft (v := ?_) (fun w' hw' => ?_) ?_); rotate_left 1; (focus (obtain ⟨hA, hBw⟩ := hw'; obtain ⟨hcA, hfA⟩ := hA.facts; go_simp; (try with_reducible rfl); done)))); simp only [Act.put, Act.eval, qs])
  refine eag_hard ?_
  go_wp2_with fail
  refine (wspan_any _ _ e0 g _ HG).mono ?_
  rintro e w1 ⟨z1, e1, rfl, ok1, zz1, qq1, HG1, hb1⟩
  replace bw : But g w w1 := bw.trans hb1
  replace HA := HA.but hb1 (by omega)
  replace HO := HO.but hb1 (by omega)
  replace HG := HG1
  clear HG1
  replace qq1 := Lib.hid qq1
  replace zz1 := Lib.hid zz1
  have lw1 : w.heap.size ≤ w1.heap.size := bw.size
  clear hb1
  go_wp2_with fail
  (try refine ⟨⟨HA, bw⟩, ?_⟩)
  repeat ((first | with_reducible apply eag_move | with_reducible apply eag_assign | ((with_reducible refine eag_soft (v := ?_) (fun w' hw' => ?_) ?_); rotate_left 1; (focus (obtain ⟨hA, hBw⟩ := hw'; obtain ⟨hcA, hfA⟩ := hA.facts; go_simp; (try with_reducible rfl); done)))); simp only [Act.put, Act.eval, qs])
  obtain ⟨hcO, hfO⟩ := HO.facts
  refine eag_hard ?_
  go_wp2_with fail
  replace HG : Hd ((w1.setCell ⟨(w.heap.size + 1), 0, none⟩ (.int .i64 z1.lo)).setCell ⟨(w.heap.size + 1), 1, none⟩ (.int .i64 z1.hi)) g 83 #[.int .i64 e1] := hdx
  replace HA : Hd ((w1.setCell ⟨(w.heap.size + 1), 0, none⟩ (.int .i64 z1.lo)).setCell ⟨(w.heap.size + 1), 1, none⟩ (.int .i64 z1.hi)) w.heap.size 23 #[.int .i64 x.lo, .int .i64 x.hi] := hdx
  replace HO : Hd ((w1.setCell ⟨(w.heap.size + 1), 0, none⟩ (.int .i64 z1.lo)).setCell ⟨(w.heap.size + 1), 1, none⟩ (.int .i64 z1.hi)) (w.heap.size + 1) 23 #[.int .i64 z1.lo, .int .i64 z1.hi] := hdx
  replace bw : But g w ((w1.setCell ⟨(w.heap.size + 1), 0, none⟩ (.int .i64 z1.lo)).setCell ⟨(w.heap.size + 1), 1, none⟩ (.int .i64 z1.hi)) := butx
  (try refine ⟨⟨HA, bw⟩, ?_⟩)
  refine eag_nil ?_
  go_wp2
  refine bodyPost_ret (run_results1 rfl rfl (by (show Hd _ ((w.heap.size + 1)) 23 #[.int .i64 z1.lo, .int .i64 z1.hi]); exact hdx) Try.underlying23 rfl (by kernel_rfl)) rfl ⟨z1, e1, rfl, ok1, zz1.out, qq1.out, by exact hdx, by exact butx⟩

theorem wtimes_any (x y : En.Sp) (hx : x.fit) (hy : y.fit) (e0 : Int) (g : Nat) (w : World) (HG : Hd w g 83 #[.int .i64 e0]) :
    Calls Try.prog 112 #[ptr g, spV x, spV y] w (PostW (En.mul x y) g e0 w) := by
  have hlt := HG.lt
  have bw := But.refl g w
  obtain ⟨x1, x2, x3, x4⟩ := hx
  obtain ⟨y1, y2, y3, y4⟩ := hy
  obtain ⟨hcG, hfG⟩ := HG.facts
  go_enter Try.func112, Try.ntmps112
  go_wp2_with fail
  replace HG : Hd ((((w.alloc (.cells #[.int .i64 x.lo, .int .i64 x.hi] 23)).alloc (.cells #[.int .i64 y.lo, .int .i64 y.hi] 23)).alloc (.cells #[.int .i64 0, .int .i64 0] 23)).drew) g 83 #[.int .i64 e0] := hdx
  have HA : Hd ((((w.alloc (.cells #[.int .i64 x.lo, .int .i64 x.hi] 23)).alloc (.cells #[.int .i64 y.lo, .int .i64 y.hi] 23)).alloc (.cells #[.int .i64 0, .int .i64 0] 23)).drew) w.heap.size 23 #[.int .i64 x.lo, .int .i64 x.hi] := hdx
  have HB : Hd ((((w.alloc (.cells #[.int .i64 x.lo, .int .i64 x.hi] 23)).alloc (.cells #[.int .i64 y.lo, .int .i64 y.hi] 23)).alloc (.cells #[.int .i64 0, .int .i64 0] 23)).drew) (w.heap.size + 1) 23 #[.int .i64 y.lo, .int .i64 y.hi] := hdx
  have HO : Hd ((((w.alloc (.cells #[.int .i64 x.lo, .int .i64 x.hi] 23)).alloc (.cells #[.int .i64 y.lo, .int .i64 y.hi] 23)).alloc (.cells #[.int .i64 0, .int .i64 0] 23)).drew) (w.heap.size + 2) 23 #[.int .i64 0, .int .i64 0] := hdx
  replace bw : But g w ((((w.alloc (.cells #[.int .i64 x.lo, .int .i64 x.hi] 23)).alloc (.cells #[.int .i64 y.lo, .int .i64 y.hi] 23)).alloc (.cells #[.int .i64 0, .int .i64 0] 23)).drew) := butx
  (refine wp_region_eag (fun w' => Hd w' w.heap.size 23 #[.int .i64 x.lo, .int .i64 x.hi] ∧ Hd w' (w.heap.size + 1) 23 #[.int .i64 y.lo, .int .i64 y.hi] ∧ But g w w') [(0, true), (1, true), (2, true), (3, true), (5, true), (6, true), (7, true), (8, true), (10, true), (11, true), (12, true), (13, true), (15, true), (16, true), (17, true), (18, true), (4, false), (9, false), (14, false), (19, false), (20, false), (21, true)] (by kernel_rfl) (by kernel_rfl) (fun c d v a w h => by cases d <;> exact h) ⟨HA, HB, bw⟩ ?_; simp only [List.map_cons, List.map_nil, List.getD_cons_zero, List.getD_cons_succ, flMark, Nat.reduceEqDiff, ↓reduceIte])
  repeat ((first | with_reducible apply eag_move | with_reducible apply eag_assign | ((with_reducible refine eag_soft (v := ?_) (fun w' hw' => ?_) ?_); rotate_left 1; (focus (obtain ⟨hA, hB, hBw⟩ := hw'; obtain ⟨hcA, hfA⟩ := hA.facts; obtain ⟨hcB, hfB⟩ := hB.facts; go_simp; (try with_reducible rfl); done)))); simp only [Act.put, Act.eval, qs])
  refine eag_hard ?_
  go_wp2_with fail
  refine (timesDown_any x.lo y.lo (by omega) (by omega) (by omega) (by omega) _).mono ?_
  rintro e w'' ⟨rfl, rfl⟩
  go_wp2_with fail
  (try refine ⟨⟨HA, HB, bw⟩, ?_⟩)
  repeat ((first | with_reducible apply eag_move | with_reducible apply eag_assign | ((with_reducible refine eag_soft (v := ?_) (fun w' hw' => ?_) ?_); rotate_left 1; (focus (obtain ⟨hA, hB, hBw⟩ := hw'; obtain ⟨hcA, hfA⟩ := hA.facts; obtain ⟨hcB, hfB⟩ := hB.facts; go_simp; (try with_reducible rfl); done)))); simp only [Act.put, Act.eval, qs])
  refine eag_hard ?_
  go_wp2_with fail
  refine (timesDown_any x.lo y.hi (by omega) (by omega) (by omega) (by omega) _).mono ?_
  rintro e w'' ⟨rfl, rfl⟩
  go_wp2_with fail
  (try refine ⟨⟨HA, HB, bw⟩, ?_⟩)
  repeat ((first | with_reducible apply eag_move | with_reducible apply eag_assign | ((with_reducible refine eag_soft (v := ?_) (fun w' hw' => ?_) ?_); rotate_left 1; (focus (obtain ⟨hA, hB, hBw⟩ := hw'; obtain ⟨hcA, hfA⟩ := hA.facts; obtain ⟨hcB, hfB⟩ := hB.facts; go_simp; (try with_reducible rfl); done)))); simp only [Act.put, Act.eval, qs])
  refine eag_hard ?_
  go_wp2_with fail
  refine (timesDown_any x.hi y.lo (by omega) (by omega) (by omega) (by omega) _).mono ?_
  rintro e w'' ⟨rfl, rfl⟩
  go_wp2_with fail
  (try refine ⟨⟨HA, HB, bw⟩, ?_⟩)
  repeat ((first | with_reducible apply eag_move | with_reducible apply eag_assign | ((with_reducible refine eag_soft (v := ?_) (fun w' hw' => ?_) ?_); rotate_left 1; (focus (obtain ⟨hA, hB, hBw⟩ := hw'; obtain ⟨hcA, hfA⟩ := hA.facts; obtain ⟨hcB, hfB⟩ := hB.facts; go_simp; (try with_reducible rfl); done)))); simp only [Act.put, Act.eval, qs])
  refine eag_hard ?_
  go_wp2_with fail
  refine (timesDown_any x.hi y.hi (by omega) (by omega) (by omega) (by omega) _).mono ?_
  rintro e w'' ⟨rfl, rfl⟩
  go_wp2_with fail
  (try refine ⟨⟨HA, HB, bw⟩, ?_⟩)
  repeat ((first | with_reducible apply eag_move | with_reducible apply eag_assign | ((with_reducible refine eag_soft (v := ?_) (fun w' hw' => ?_) ?_); rotate_left 1; (focus (obtain ⟨hA, hB, hBw⟩ := hw'; obtain ⟨hcA, hfA⟩ := hA.facts; obtain ⟨hcB, hfB⟩ := hB.facts; go_simp; (try with_reducible rfl); done)))); simp only [Act.put, Act.eval, qs])
  refine eag_hard ?_
  go_wp2_with fail
  (try refine ⟨⟨HA, HB, bw⟩, ?_⟩)
  repeat ((first | with_reducible apply eag_move | with_reducible apply eag_assign | ((with_reducible refine eag_soft (v := ?_) (fun w' hw' => ?_) ?_); rotate_left 1; (focus (obtain ⟨hA, hB, hBw⟩ := hw'; obtain ⟨hcA, hfA⟩ := hA.facts; obtain ⟨hcB, hfB⟩ := hB.facts; go_simp; (try with_reducible rfl); done)))); simp only [Act.put, Act.eval, qs])
  refine eag_nil ?_
  obtain ⟨hcA, hfA⟩ := HA.facts
  obtain ⟨hcB, hfB⟩ := HB.facts
  go_upto_region 2 with fail
  replace HG : Hd (((((w.alloc (.cells #[.int .i64 x.lo, .int .i64 x.hi] 23)).alloc (.cells #[.int .i64 y.lo, .int .i64 y.hi] 23)).alloc (.cells #[.int .i64 0, .int .i64 0] 23)).drew).drew) g 83 #[.int .i64 e0] := hdx
  replace HA : Hd (((((w.alloc (.cells #[.int .i64 x.lo, .int .i64 x.hi] 23)).alloc (.cells #[.int .i64 y.lo, .int .i64 y.hi] 23)).alloc (.cells #[.int .i64 0, .int .i64 0] 23)).drew).drew) w.heap.size 23 #[.int .i64 x.lo, .int .i64 x.hi] := hdx
  replace HB : Hd (((((w.alloc (.cells #[.int .i64 x.lo, .int .i64 x.hi] 23)).alloc (.cells #[.int .i64 y.lo, .int .i64 y.hi] 23)).alloc (.cells #[.int .i64 0, .int .i64 0] 23)).drew).drew) (w.heap.size + 1) 23 #[.int .i64 y.lo, .int .i64 y.hi] := hdx
  replace HO : Hd (((((w.alloc (.cells #[.int .i64 x.lo, .int .i64 x.hi] 23)).alloc (.cells #[.int .i64 y.lo, .int .i64 y.hi] 23)).alloc (.cells #[.int .i64 0, .int .i64 0] 23)).drew).drew) (w.heap.size + 2) 23 #[.int .i64 0, .int .i64 0] := hdx
  replace bw : But g w (((((w.alloc (.cells #[.int .i64 x.lo, .int .i64 x.hi] 23)).alloc (.cells #[.int .i64 y.lo, .int .i64 y.hi] 23)).alloc (.cells #[.int .i64 0, .int .i64 0] 23)).drew).drew) := butx
  (refine wp_region_eag (fun w' => Hd w' w.heap.size 23 #[.int .i64 x.lo, .int .i64 x.hi] ∧ Hd w' (w.heap.size + 1) 23 #[.int .i64 y.lo, .int .i64 y.hi] ∧ But g w w') [(0, true), (1, true), (2, true), (3, true), (5, true), (6, true), (7, true), (8, true), (10, true), (11, true), (12, true), (13, true), (15, true), (16, true), (17, true), (18, true), (4, false), (9, false), (14, false), (19, false), (20, false), (21, true)] (by kernel_rfl) (by kernel_rfl) (fun c d v a w h => by cases d <;> exact h) ⟨HA, HB, bw⟩ ?_; simp only [List.map_cons, List.map_nil, List.getD_cons_zero, List.getD_cons_succ, flMark, Nat.reduceEqDiff, ↓reduceIte])
  repeat ((first | with_reducible apply eag_move | with_reducible apply eag_assign | ((with_reducible refine eag_soft (v := ?_) (fun w' hw' => ?_) ?_); rotate_left 1; (focus (obtain ⟨hA, hB, hBw⟩ := hw'; obtain ⟨hcA, hfA⟩ := hA.facts; obtain ⟨hcB, hfB⟩ := hB.facts; go_simp; (try with_reducible rfl); done)))); simp only [Act.put, Act.eval, qs])
  refine eag_hard ?_
  go_wp2_with fail
  refine (timesUp_any x.lo y.lo (by omega) (by omega) (by omega) (by omega) _).mono ?_
  rintro e w'' ⟨rfl, rfl⟩
  go_wp2_with fail
  (try refine ⟨⟨HA, HB, bw⟩, ?_⟩)
  repeat ((first | with_reducible apply eag_move | with_reducible apply eag_assign | ((with_reducible refine eag_soft (v := ?_) (fun w' hw' => ?_) ?_); rotate_left 1; (focus (obtain ⟨hA, hB, hBw⟩ := hw'; obtain ⟨hcA, hfA⟩ := hA.facts; obtain ⟨hcB, hfB⟩ := hB.facts; go_simp; (try with_reducible rfl); done)))); simp only [Act.put, Act.eval, qs])
  refine eag_hard ?_
  go_wp2_with fail
  refine (timesUp_any x.lo y.hi (by omega) (by omega) (by omega) (by omega) _).mono ?_
  rintro e w'' ⟨rfl, rfl⟩
  go_wp2_with fail
  (try refine ⟨⟨HA, HB, bw⟩, ?_⟩)
  repeat ((first | with_reducible apply eag_move | with_reducible apply eag_assign | ((with_reducible refine eag_soft (v := ?_) (fun w' hw' => ?_) ?_); rotate_left 1; (focus (obtain ⟨hA, hB, hBw⟩ := hw'; obtain ⟨hcA, hfA⟩ := hA.facts; obtain ⟨hcB, hfB⟩ := hB.facts; go_simp; (try with_reducible rfl); done)))); simp only [Act.put, Act.eval, qs])
  refine eag_hard ?_
  go_wp2_with fail
  refine (timesUp_any x.hi y.lo (by omega) (by omega) (by omega) (by omega) _).mono ?_
  rintro e w'' ⟨rfl, rfl⟩
  go_wp2_with fail
  (try refine ⟨⟨HA, HB, bw⟩, ?_⟩)
  repeat ((first | with_reducible apply eag_move | with_reducible apply eag_assign | ((with_reducible refine eag_soft (v := ?_) (fun w' hw' => ?_) ?_); rotate_left 1; (focus (obtain ⟨hA, hB, hBw⟩ := hw'; obtain ⟨hcA, hfA⟩ := hA.facts; obtain ⟨hcB, hfB⟩ := hB.facts; go_simp; (try with_reducible rfl); done)))); simp only [Act.put, Act.eval, qs])
  refine eag_hard ?_
  go_wp2_with fail
  refine (timesUp_any x.hi y.hi (by omega) (by omega) (by omega) (by omega) _).mono ?_
  rintro e w'' ⟨rfl, rfl⟩
  go_wp2_with fail
  (try refine ⟨⟨HA, HB, bw⟩, ?_⟩)
  repeat ((first | with_reducible apply eag_move | with_reducible apply eag_assign | ((with_reducible refine eag_soft (v := ?_) (fun w' hw' => ?_) ?_); rotate_left 1; (focus (obtain ⟨hA, hB, hBw⟩ := hw'; obtain ⟨hcA, hfA⟩ := hA.facts; obtain ⟨hcB, hfB⟩ := hB.facts; go_simp; (try with_reducible rfl); done)))); simp only [Act.put, Act.eval, qs])
  refine eag_hard ?_
  go_wp2_with fail
  (try refine ⟨⟨HA, HB, bw⟩, ?_⟩)
  repeat ((first | with_reducible apply eag_move | with_reducible apply eag_assign | ((with_reducible refine eag_soft (v := ?_) (fun w' hw' => ?_) ?_); rotate_left 1; (focus (obtain ⟨hA, hB, hBw⟩ := hw'; obtain ⟨hcA, hfA⟩ := hA.facts; obtain ⟨hcB, hfB⟩ := hB.facts; go_simp; (try with_reducible rfl); done)))); simp only [Act.put, Act.eval, qs])
  refine eag_nil ?_
  go_wp2_with fail
  refine (wspan_any _ _ e0 g _ HG).mono ?_
  rintro e w1 ⟨z1, e1, rfl, ok1, zz1, qq1, HG1, hb1⟩
  replace bw : But g w w1 := bw.trans hb1
  replace HA := HA.but hb1 (by omega)
  replace HB := HB.but hb1 (by omega)
  replace HO := HO.but hb1 (by omega)
  replace HG := HG1
  clear HG1
  replace qq1 := Lib.hid qq1
  replace zz1 := Lib.hid zz1
  have lw1 : w.heap.size ≤ w1.heap.size := bw.size
  clear hb1
  obtain ⟨hcO, hfO⟩ := HO.facts
  go_wp2
  refine bodyPost_ret (run_results1 rfl rfl (by (show Hd _ ((w.heap.size + 2)) 23 #[.int .i64 z1.lo, .int .i64 z1.hi]); exact hdx) Try.underlying23 rfl (by kernel_rfl)) rfl ⟨z1, e1, rfl, ok1, zz1.out, (by rw [En.mul_eq ⟨x1, x2, x3, x4⟩ ⟨y1, y2, y3, y4⟩, min4, max4]; exact qq1.out), by exact hdx, by exact butx⟩
end Go.Proofs.Ytpbbbfglecbceaa
