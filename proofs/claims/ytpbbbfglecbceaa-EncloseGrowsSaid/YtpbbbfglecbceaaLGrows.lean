/- Wider rectangles have wider sums, differences, products and quotients, where there is no error: for all of them. -/
import Derived.Test.YtpbbbfglecbceaaRows
import Derived.Test.YtpbbbfglecbceaaFlat
import Derived.Test.YtpbbbfglecbceaaGrW
import Derived.Test.YtpbbbfglecbceaaFlat2
import Derived.Test.YtpbbbfglecbceaaLFGrows
import Derived.WalkKit
import Derived.ProofKit
import Derived.OpenShut
namespace Go.Proofs.Ytpbbbfglecbceaa
set_option linter.all false
open Go.ChangeShapes Go.WideShapes Go.ChangeAt Go.RowKit
namespace LawGrows

theorem u16_wf {n : Int} (h : (Lit.int .u16 n).wf = true) : 0 ≤ n ∧ n ≤ 65535 := by
  simp [Lit.wf, IntKind.min, IntKind.max, IntKind.signed, IntKind.bits] at h
  omega
set_option maxRecDepth 20000 in
theorem open_u16x4 {H : Type} {enc : TypeId × Value → H} {w W : World} {r : Reach} {b0 base : Nat} {spare : Nat → Bool} {held : Bool} {v : Value} {dd : DataW H} {ps : List MemPlace} (h : Value.okWide Try.prog w r b0 54 v)
    (ht : DataW.Trod enc Try.prog W base spare held 54 v dd ps) : ∃ a b c d : Int, v = .agg #[.int .u16 a, .int .u16 b, .int .u16 c, .int .u16 d] ∧ (0 ≤ a ∧ a ≤ 65535) ∧ (0 ≤ b ∧ b ≤ 65535) ∧ (0 ≤ c ∧ c ≤ 65535) ∧ (0 ≤ d ∧ d ≤ 65535) := by
  simp only [Value.okWide, Try.underlying54] at h
  obtain ⟨cs, rfl, hs, -⟩ := h
  have hs' : cs.size = 4 := hs.trans (by kernel_rfl)
  obtain ⟨fuel, hf⟩ := ht
  obtain ⟨xs, m, -, -, -, hl, hx⟩ := DataW.trod_array Try.underlying54 hf
  have hc : Try.prog.cellsOf 53 = 1 := by kernel_rfl
  have g : ∀ i, i < 4 → ∃ n, cs.toList[i]? = some (.int .u16 n) ∧ 0 ≤ n ∧ n ≤ 65535 := by
    intro i hi
    have h1 := hx i hi
    rw [hc, Nat.mul_one] at h1
    have h2 : xs[i]? = some (xs[i]'(by omega)) := by simp [hl, hi]
    rw [h2] at h1
    obtain ⟨n, hn, -, hw⟩ := DataW.trod_int Try.underlying53 h1
    refine ⟨n, ?_, u16_wf hw⟩
    have h3 : ((cs.toList.drop i).take 1)[0]? = some (.int .u16 n) := by
      have : ((cs.toList.drop i).take 1) = [.int .u16 n] := hn
      rw [this]; rfl
    simpa using h3
  obtain ⟨a, ha, ba⟩ := g 0 (by omega)
  obtain ⟨b, hb, bb⟩ := g 1 (by omega)
  obtain ⟨c, hc', bc⟩ := g 2 (by omega)
  obtain ⟨d, hd, bd⟩ := g 3 (by omega)
  refine ⟨a, b, c, d, ?_, ba, bb, bc, bd⟩
  congr 1
  apply Array.ext_getElem?
  intro i
  rcases Nat.lt_or_ge i 4 with hi | hi
  · have : i = 0 ∨ i = 1 ∨ i = 2 ∨ i = 3 := by omega
    rw [← Array.getElem?_toList]
    rcases this with rfl | rfl | rfl | rfl
    · rw [ha]; rfl
    · rw [hb]; rfl
    · rw [hc']; rfl
    · rw [hd]; rfl
  · rw [Array.getElem?_eq_none (by omega), Array.getElem?_eq_none (by simpa using hi)]


theorem own : ownKnob Try.prog.godebug = none := by kernel_rfl

set_option maxRecDepth 100000 in
theorem lifted (os : Os) (started : os.Started) (H : Type) (enc : TypeId × Value → H) :
    ReturnsInHanded {} Try.checked os 12 .any (Rows.encloseGrowsSpec.pre6 enc Try.prog Try.f12 Rows.encloseGrowsRow.domain false) (Rows.encloseGrowsSpec.post enc Try.prog Try.f12 false true false false) := by
  refine returnsInHanded_of_change (C := Try.checked) own started (by kernel_rfl) Try.func12
    (ChangeSpec.witness6 (enc := enc) (C := Try.checked) false ⟨#[], #[.agg #[.int .i64 0, .int .i64 0, .int .i64 0, .int .i64 0], .agg #[.int .i64 0, .int .i64 0, .int .i64 0, .int .i64 0], .agg #[.int .u16 0, .int .u16 0, .int .u16 0, .int .u16 0], .agg #[.int .u16 0, .int .u16 0, .int .u16 0, .int .u16 0]], []⟩ 8 (by kernel_rfl) (by kernel_rfl) (by kernel_rfl) (by kernel_rfl)) ?_
  intro W base args ds gs before hval0 hW hcnd _
  have hval : ∀ (j : Nat) t v, Try.f12.params[j]? = some t → args[j]? = some v → Value.okWide Try.prog W .any base t v := hval0
  have hW' := hW
  obtain ⟨p, q, hA0, hV, rfl, hfz, hnd⟩ := hW
  have hA : DataW.TrodAll enc Try.prog W 0 (fun _ => true) true Try.f12.params.toList args.toList ds p := hA0
  rw [Try.params12] at hA hval
  obtain ⟨rfl, hread⟩ := trodAll_flat (n := 8) (by kernel_rfl) hA
  obtain ⟨v0, vs0, d0, ds0, p0, q0, hargs, rfl, -, h0, r0⟩ := trodAll_cons hA
  obtain ⟨v1, vs1, d1, ds1, p1, q1, rfl, rfl, -, h1, r1⟩ := trodAll_cons r0
  obtain ⟨v2, vs2, d2, ds2, p2, q2, rfl, rfl, -, h2, r2⟩ := trodAll_cons r1
  obtain ⟨v3, vs3, d3, ds3, p3, q3, rfl, rfl, -, h3, r3⟩ := trodAll_cons r2
  obtain ⟨rfl, rfl, -⟩ := trodAll_nil r3
  obtain rfl : args = #[v0, v1, v2, v3] := by cases args; simp_all
  obtain ⟨rfl, rfl⟩ := trodVars_none hV
  obtain ⟨x0, rfl⟩ := open_rect (hval 0 25 v0 rfl rfl)
  obtain ⟨x1, rfl⟩ := open_rect (hval 1 25 v1 rfl rfl)
  obtain ⟨a2, b2, c2, d2, rfl, ba2, bb2, bc2, bd2⟩ := open_u16x4 (hval 2 54 v2 rfl rfl) h2
  obtain ⟨a3, b3, c3, d3, rfl, ba3, bb3, bc3, bd3⟩ := open_u16x4 (hval 3 54 v3 rfl rfl) h3
  clear hA0 hval0
  simp only [List.append_nil] at hW'
  refine (walk x0 x1 a2 b2 c2 d2 a3 b3 c3 d3 ba2 bb2 bc2 bd2 ba3 bb3 bc3 bd3 W).mono fun e W' ⟨he, hg⟩ => ?_
  subst he
  exact ⟨_, rfl, post_flat hW' (fun _ _ _ => (trodAll_cons_mk (shut_bool Try.underlying4 _) trodAll_mk0)) (fun sp => hread _ _ _ _) (fun _ => rfl)
    hg (ok_one (by kernel_rfl) rfl (okWide_bool_mk Try.underlying4 _))⟩

theorem holds : Rows.EncloseGrowsSaid :=
  OpenClaim.holds_of_wide 12 Try.f12 rfl rfl rfl rfl rfl rfl rfl ⟨rfl, rfl, rfl, rfl, rfl⟩ rfl rfl rfl rfl rfl (by kernel_rfl) Try.func12 closed
    (of_decide_eq_true (by kernel_rfl)) (by unfold Func.isWrapper; rw [if_neg (of_decide_eq_false (by kernel_rfl))]; exact ⟨rfl, rfl⟩)
    (fun os started H enc _ => lifted os started H enc)
#print axioms holds
end LawGrows
end Go.Proofs.Ytpbbbfglecbceaa
