/- What two-ports are that are joined, and what one is whose ports are exchanged: for all of them. -/
import Derived.Test.YtpbbbfglecbceaaRows
import Derived.Test.YtpbbbfglecbceaaMt1
import Derived.Test.YtpbbbfglecbceaaMt3
import Derived.Test.YtpbbbfglecbceaaMt5
import Derived.Test.YtpbbbfglecbceaaMt7
import Derived.Test.YtpbbbfglecbceaaLFStars
import Derived.WalkKit
import Derived.ProofKit
import Derived.OpenShut
namespace Go.Proofs.Ytpbbbfglecbceaa
set_option linter.all false
open Go.ChangeShapes Go.WideShapes Go.ChangeAt Go.RowKit
namespace LawStars

set_option maxRecDepth 100000 in
set_option maxHeartbeats 4000000 in
theorem walk (p q : En.Pt) (w : World) : Calls Try.prog 13 #[ptV p, ptV q] w fun e w' => e = .returned (.bool true) ∧ Below w.heap.size w w' := by
  have C1 := starE_any p q
  have C2 := rstarE_any p q
  have C3 := mirror_any p
  have C4 := rmirror_any p
  obtain ⟨a, ha⟩ : ∃ r, starR p q = r := ⟨_, rfl⟩
  obtain ⟨b, hb⟩ : ∃ r, mirR p = r := ⟨_, rfl⟩
  rw [ha] at C1 C2
  rw [hb] at C3 C4
  clear ha hb
  obtain ⟨a, ea⟩ := a
  obtain ⟨b, eb⟩ := b
  simp only [ptE] at C1 C2 C3 C4
  replace C1 := Lib.hid C1
  replace C2 := Lib.hid C2
  replace C3 := Lib.hid C3
  replace C4 := Lib.hid C4
  go_enter Try.func13, Try.ntmps13
  refine wk_start ?_
  refine wk_seq ?_
  refine wk_region [1, 1, 0] rfl (by kernel_rfl) ?_
  simp only [List.zip_cons_cons, List.zip_nil_right]
  refine rg_new (cs := ?_) (ty := ?_) (by rfl) (fun w => ?_) (fun _ h => by cases h) (fun g1 => ?_); rotate_left 2
  focus (go_simp; rfl)
  simp only [Act.put, Act.eval, qn, qv, Nat.reduceAdd]
  refine rg_new (cs := ?_) (ty := ?_) (by rfl) (fun w => ?_) (fun _ h => by cases h) (fun g2 => ?_); rotate_left 2
  focus (go_simp; rfl)
  simp only [Act.put, Act.eval, qn, qv, Nat.reduceAdd]
  refine rg_assign ?_
  simp only [Act.put, Act.eval, qn, qv, Nat.reduceAdd]
  refine rg_nil ?_
  refine ek_next ?_
  refine wk_seq ?_
  refine wk_region [0, 0, 1, 0, 0, 0, 1, 1, 0] rfl (by kernel_rfl) ?_
  simp only [List.zip_cons_cons, List.zip_nil_right]
  refine rf_loadR (n := 16) rfl rfl rfl Try.underlying49 rfl (by kernel_rfl) (fun w hw => Kn.hd0 (Kn.tl hw)) rfl rfl ?_
  simp only [Act.put, Act.eval, qn, qv, Nat.reduceAdd]
  refine rf_loadR (n := 16) rfl rfl rfl Try.underlying49 rfl (by kernel_rfl) (fun w hw => Kn.hd0 hw) rfl rfl ?_
  simp only [Act.put, Act.eval, qn, qv, Nat.reduceAdd]
  apply rg_pure (by rfl) (by kernel_rfl)
  case hargs => (simp only [qm, qs, Act.eval]; exact rfl)
  case h => exact fun w hw => C1.out w
  case hz => exact (fun _ h => by cases h)
  simp only [Act.put, Act.eval, qn, qv, Nat.reduceAdd]
  refine rg_move ?_
  simp only [Act.put, Act.eval, qn, qv, Nat.reduceAdd]
  refine rf_extract rfl rfl rfl rfl ?_
  simp only [Act.put, Act.eval, qn, qv, Nat.reduceAdd]
  refine rf_extract rfl rfl rfl rfl ?_
  simp only [Act.put, Act.eval, qn, qv, Nat.reduceAdd]
  refine rg_new (cs := ?_) (ty := ?_) (by rfl) (fun w => ?_) (fun _ h => by cases h) (fun g3 => ?_); rotate_left 2
  focus (go_simp; rfl)
  simp only [Act.put, Act.eval, qn, qv, Nat.reduceAdd]
  refine rf_storeR (n := 16) rfl rfl (by kernel_rfl) rfl rfl (UpdR.here _ _ _ (Nat.le_of_ble_eq_true rfl)) (fun _ h => by cases h) ?_
  simp only [Act.put, Act.eval, qn, qv, Nat.reduceAdd]
  refine rg_assign ?_
  simp only [Act.put, Act.eval, qn, qv, Nat.reduceAdd]
  refine rg_nil ?_
  refine ek_next ?_
  refine wk_seq ?_
  refine wk_region [0, 0, 1, 0, 0, 0, 1, 1, 0] rfl (by kernel_rfl) ?_
  simp only [List.zip_cons_cons, List.zip_nil_right]
  refine rf_loadR (n := 16) rfl rfl rfl Try.underlying49 rfl (by kernel_rfl) (fun w hw => Kn.hd0 (Kn.tl (Kn.tl hw))) rfl rfl ?_
  simp only [Act.put, Act.eval, qn, qv, Nat.reduceAdd]
  refine rf_loadR (n := 16) rfl rfl rfl Try.underlying49 rfl (by kernel_rfl) (fun w hw => Kn.hd0 (Kn.tl hw)) rfl rfl ?_
  simp only [Act.put, Act.eval, qn, qv, Nat.reduceAdd]
  apply rg_pure (by rfl) (by kernel_rfl)
  case hargs => (simp only [qm, qs, Act.eval]; exact rfl)
  case h => exact fun w hw => C2.out w
  case hz => exact (fun _ h => by cases h)
  simp only [Act.put, Act.eval, qn, qv, Nat.reduceAdd]
  refine rg_move ?_
  simp only [Act.put, Act.eval, qn, qv, Nat.reduceAdd]
  refine rf_extract rfl rfl rfl rfl ?_
  simp only [Act.put, Act.eval, qn, qv, Nat.reduceAdd]
  refine rf_extract rfl rfl rfl rfl ?_
  simp only [Act.put, Act.eval, qn, qv, Nat.reduceAdd]
  refine rg_new (cs := ?_) (ty := ?_) (by rfl) (fun w => ?_) (fun _ h => by cases h) (fun g4 => ?_); rotate_left 2
  focus (go_simp; rfl)
  simp only [Act.put, Act.eval, qn, qv, Nat.reduceAdd]
  refine rf_storeR (n := 16) rfl rfl (by kernel_rfl) rfl rfl (UpdR.here _ _ _ (Nat.le_of_ble_eq_true rfl)) (fun _ h => by cases h) ?_
  simp only [Act.put, Act.eval, qn, qv, Nat.reduceAdd]
  refine rg_assign ?_
  simp only [Act.put, Act.eval, qn, qv, Nat.reduceAdd]
  refine rg_nil ?_
  refine ek_next ?_
  refine wk_seq ?_
  refine wk_region [0, 1, 0, 0, 0, 1, 1, 0] rfl (by kernel_rfl) ?_
  simp only [List.zip_cons_cons, List.zip_nil_right]
  refine rf_loadR (n := 16) rfl rfl rfl Try.underlying49 rfl (by kernel_rfl) (fun w hw => Kn.hd0 (Kn.tl (Kn.tl (Kn.tl hw)))) rfl rfl ?_
  simp only [Act.put, Act.eval, qn, qv, Nat.reduceAdd]
  apply rg_pure (by rfl) (by kernel_rfl)
  case hargs => (simp only [qm, qs, Act.eval]; exact rfl)
  case h => exact fun w hw => C3.out w
  case hz => exact (fun _ h => by cases h)
  simp only [Act.put, Act.eval, qn, qv, Nat.reduceAdd]
  refine rg_move ?_
  simp only [Act.put, Act.eval, qn, qv, Nat.reduceAdd]
  refine rf_extract rfl rfl rfl rfl ?_
  simp only [Act.put, Act.eval, qn, qv, Nat.reduceAdd]
  refine rf_extract rfl rfl rfl rfl ?_
  simp only [Act.put, Act.eval, qn, qv, Nat.reduceAdd]
  refine rg_new (cs := ?_) (ty := ?_) (by rfl) (fun w => ?_) (fun _ h => by cases h) (fun g5 => ?_); rotate_left 2
  focus (go_simp; rfl)
  simp only [Act.put, Act.eval, qn, qv, Nat.reduceAdd]
  refine rf_storeR (n := 16) rfl rfl (by kernel_rfl) rfl rfl (UpdR.here _ _ _ (Nat.le_of_ble_eq_true rfl)) (fun _ h => by cases h) ?_
  simp only [Act.put, Act.eval, qn, qv, Nat.reduceAdd]
  refine rg_assign ?_
  simp only [Act.put, Act.eval, qn, qv, Nat.reduceAdd]
  refine rg_nil ?_
  refine ek_next ?_
  refine wk_seq ?_
  refine wk_region [0, 1, 0, 0, 0, 1, 1, 0] rfl (by kernel_rfl) ?_
  simp only [List.zip_cons_cons, List.zip_nil_right]
  refine rf_loadR (n := 16) rfl rfl rfl Try.underlying49 rfl (by kernel_rfl) (fun w hw => Kn.hd0 (Kn.tl (Kn.tl (Kn.tl (Kn.tl hw))))) rfl rfl ?_
  simp only [Act.put, Act.eval, qn, qv, Nat.reduceAdd]
  apply rg_pure (by rfl) (by kernel_rfl)
  case hargs => (simp only [qm, qs, Act.eval]; exact rfl)
  case h => exact fun w hw => C4.out w
  case hz => exact (fun _ h => by cases h)
  simp only [Act.put, Act.eval, qn, qv, Nat.reduceAdd]
  refine rg_move ?_
  simp only [Act.put, Act.eval, qn, qv, Nat.reduceAdd]
  refine rf_extract rfl rfl rfl rfl ?_
  simp only [Act.put, Act.eval, qn, qv, Nat.reduceAdd]
  refine rf_extract rfl rfl rfl rfl ?_
  simp only [Act.put, Act.eval, qn, qv, Nat.reduceAdd]
  refine rg_new (cs := ?_) (ty := ?_) (by rfl) (fun w => ?_) (fun _ h => by cases h) (fun g6 => ?_); rotate_left 2
  focus (go_simp; rfl)
  simp only [Act.put, Act.eval, qn, qv, Nat.reduceAdd]
  refine rf_storeR (n := 16) rfl rfl (by kernel_rfl) rfl rfl (UpdR.here _ _ _ (Nat.le_of_ble_eq_true rfl)) (fun _ h => by cases h) ?_
  simp only [Act.put, Act.eval, qn, qv, Nat.reduceAdd]
  refine rg_assign ?_
  simp only [Act.put, Act.eval, qn, qv, Nat.reduceAdd]
  refine rg_nil ?_
  refine ek_next ?_
  refine wk_seq ?_
  refine wk_region [0, 0, 0, 0, 0, 0, 0, 0, 0, 0, 0, 0, 0, 0, 0, 0, 0, 0, 0, 1, 0, 0] rfl (by kernel_rfl) ?_
  simp only [List.zip_cons_cons, List.zip_nil_right]
  refine rf_loadR (n := 16) rfl rfl rfl Try.underlying49 rfl (by kernel_rfl) (fun w hw => Kn.hd0 (Kn.tl (Kn.tl (Kn.tl hw)))) rfl rfl ?_
  simp only [Act.put, Act.eval, qn, qv, Nat.reduceAdd]
  refine rf_loadR (n := 16) rfl rfl rfl Try.underlying49 rfl (by kernel_rfl) (fun w hw => Kn.hd0 (Kn.tl (Kn.tl hw))) rfl rfl ?_
  simp only [Act.put, Act.eval, qn, qv, Nat.reduceAdd]
  refine rf_eqP (a) rfl rfl rfl rfl ?_
  simp only [Act.put, Act.eval, qn, qv, Nat.reduceAdd]
  refine rg_move ?_
  simp only [Act.put, Act.eval, qn, qv, Nat.reduceAdd]
  apply rg_soft_g
  case hg => rfl
  case hy => (intro w hw; go_simp; (try go_bits); exact Yld.mk _ _)
  simp only [Act.put, Act.eval, qn, qv, Nat.reduceAdd]
  apply rg_soft_g
  case hg => rfl
  case hy => (intro w hw; go_simp; (try go_bits); exact Yld.mk _ _)
  simp only [Act.put, Act.eval, qn, qv, Nat.reduceAdd]
  refine rfb_eql rfl rfl rfl rfl ?_
  intro x h1
  obtain rfl : x = true := by (refine h1.symm.trans ?_; exact decide_eq_true (by omega))
  clear h1
  simp only [Act.put, Act.eval, qn, qv, Nat.reduceAdd]
  refine rf_pick rfl rfl rfl ?_
  simp only [Act.put, Act.eval, qn, qv, Nat.reduceAdd]
  refine rg_move ?_
  simp only [Act.put, Act.eval, qn, qv, Nat.reduceAdd]
  refine rf_loadR (n := 16) rfl rfl rfl Try.underlying49 rfl (by kernel_rfl) (fun w hw => Kn.hd0 (Kn.tl hw)) rfl rfl ?_
  simp only [Act.put, Act.eval, qn, qv, Nat.reduceAdd]
  refine rf_loadR (n := 16) rfl rfl rfl Try.underlying49 rfl (by kernel_rfl) (fun w hw => Kn.hd0 hw) rfl rfl ?_
  simp only [Act.put, Act.eval, qn, qv, Nat.reduceAdd]
  refine rf_eqP (b) rfl rfl rfl rfl ?_
  simp only [Act.put, Act.eval, qn, qv, Nat.reduceAdd]
  refine rf_pick rfl rfl rfl ?_
  simp only [Act.put, Act.eval, qn, qv, Nat.reduceAdd]
  refine rg_move ?_
  simp only [Act.put, Act.eval, qn, qv, Nat.reduceAdd]
  apply rg_soft_g
  case hg => rfl
  case hy => (intro w hw; go_simp; (try go_bits); exact Yld.mk _ _)
  simp only [Act.put, Act.eval, qn, qv, Nat.reduceAdd]
  apply rg_soft_g
  case hg => rfl
  case hy => (intro w hw; go_simp; (try go_bits); exact Yld.mk _ _)
  simp only [Act.put, Act.eval, qn, qv, Nat.reduceAdd]
  refine rfb_eql rfl rfl rfl rfl ?_
  intro x h2
  obtain rfl : x = true := by (refine h2.symm.trans ?_; exact decide_eq_true (by omega))
  clear h2
  simp only [Act.put, Act.eval, qn, qv, Nat.reduceAdd]
  refine rf_pick rfl rfl rfl ?_
  simp only [Act.put, Act.eval, qn, qv, Nat.reduceAdd]
  refine rg_move ?_
  simp only [Act.put, Act.eval, qn, qv, Nat.reduceAdd]
  apply rg_pure (by rfl) (by kernel_rfl)
  case hargs => (simp only [qm, qs, Act.eval]; exact rfl)
  case h => exact fun w hw => awake_any w
  case hz => exact (fun _ h => by cases h)
  simp only [Act.put, Act.eval, qn, qv, Nat.reduceAdd]
  refine rf_pick rfl rfl rfl ?_
  simp only [Act.put, Act.eval, qn, qv, Nat.reduceAdd]
  refine rg_assign ?_
  simp only [Act.put, Act.eval, qn, qv, Nat.reduceAdd]
  refine rg_nil ?_
  refine ek_next ?_
  refine wk_ret ?_
  refine ek_ret (fun w hw => ⟨rfl, _, res_t _ rfl, ?_⟩)
  (try simp only [Act.put, Act.eval, qn, qv, Nat.reduceAdd])
  first | exact ⟨rfl, hw.below⟩ | exact ⟨trivial, hw.below⟩ | exact hw.below

theorem own : ownKnob Try.prog.godebug = none := by kernel_rfl

set_option maxRecDepth 100000 in
theorem lifted (os : Os) (started : os.Started) (H : Type) (enc : TypeId × Value → H) :
    ReturnsInHanded {} Try.checked os 13 .any (Rows.encloseStarsSpec.pre6 enc Try.prog Try.f13 Rows.encloseStarsRow.domain false) (Rows.encloseStarsSpec.post enc Try.prog Try.f13 false true false false) := by
  refine returnsInHanded_of_change (C := Try.checked) own started (by kernel_rfl) Try.func13
    (ChangeSpec.witness6 (enc := enc) (C := Try.checked) false ⟨#[], #[.agg #[.int .i64 0, .int .i64 0, .int .i64 0, .int .i64 0, .int .i64 0, .int .i64 0, .int .i64 0, .int .i64 0, .int .i64 0, .int .i64 0, .int .i64 0, .int .i64 0, .int .i64 0, .int .i64 0, .int .i64 0, .int .i64 0], .agg #[.int .i64 0, .int .i64 0, .int .i64 0, .int .i64 0, .int .i64 0, .int .i64 0, .int .i64 0, .int .i64 0, .int .i64 0, .int .i64 0, .int .i64 0, .int .i64 0, .int .i64 0, .int .i64 0, .int .i64 0, .int .i64 0]], []⟩ 8 (by kernel_rfl) (by kernel_rfl) (by kernel_rfl) (by kernel_rfl)) ?_
  intro W base args ds gs before hval0 hW hcnd _
  have hval : ∀ (j : Nat) t v, Try.f13.params[j]? = some t → args[j]? = some v → Value.okWide Try.prog W .any base t v := hval0
  have hW' := hW
  obtain ⟨p, q, hA0, hV, rfl, hfz, hnd⟩ := hW
  have hA : DataW.TrodAll enc Try.prog W 0 (fun _ => true) true Try.f13.params.toList args.toList ds p := hA0
  rw [Try.params13] at hA hval
  obtain ⟨rfl, hread⟩ := trodAll_flat (n := 8) (by kernel_rfl) hA
  obtain ⟨v0, vs0, d0, ds0, p0, q0, hargs, rfl, -, h0, r0⟩ := trodAll_cons hA
  obtain ⟨v1, vs1, d1, ds1, p1, q1, rfl, rfl, -, h1, r1⟩ := trodAll_cons r0
  obtain ⟨rfl, rfl, -⟩ := trodAll_nil r1
  obtain rfl : args = #[v0, v1] := by cases args; simp_all
  obtain ⟨rfl, rfl⟩ := trodVars_none hV
  obtain ⟨x0, rfl⟩ := open_port (hval 0 49 v0 rfl rfl)
  obtain ⟨x1, rfl⟩ := open_port (hval 1 49 v1 rfl rfl)
  clear hA0 hval0
  simp only [List.append_nil] at hW'
  refine (walk x0 x1 W).mono fun e W' ⟨he, hg⟩ => ?_
  subst he
  exact ⟨_, rfl, post_flat hW' (fun _ _ _ => (trodAll_cons_mk (shut_bool Try.underlying4 _) trodAll_mk0)) (fun sp => hread _ _ _ _) (fun _ => rfl)
    hg (ok_one (by kernel_rfl) rfl (okWide_bool_mk Try.underlying4 _))⟩

theorem holds : Rows.EncloseStarsSaid :=
  OpenClaim.holds_of_wide 13 Try.f13 rfl rfl rfl rfl rfl rfl rfl ⟨rfl, rfl, rfl, rfl, rfl⟩ rfl rfl rfl rfl rfl (by kernel_rfl) Try.func13 closed
    (of_decide_eq_true (by kernel_rfl)) (by unfold Func.isWrapper; rw [if_neg (of_decide_eq_false (by kernel_rfl))]; exact ⟨rfl, rfl⟩)
    (fun os started H enc _ => lifted os started H enc)
#print axioms holds
end LawStars
end Go.Proofs.Ytpbbbfglecbceaa
