/- What a ring lets through: for all whole numbers. -/
import Derived.Test.YtpbbbfglecbceaaRows
import Derived.Test.YtpbbbfglecbceaaFlat
import Derived.Test.YtpbbbfglecbceaaEn17
import Derived.Test.YtpbbbfglecbceaaRe12
import Derived.Test.YtpbbbfglecbceaaLFRings
import Derived.WalkKit
import Derived.ProofKit
import Derived.OpenShut
namespace Go.Proofs.Ytpbbbfglecbceaa
set_option linter.all false
open Go.ChangeShapes Go.WideShapes Go.ChangeAt Go.RowKit
namespace LawRings

theorem walk (t : Int) (a : Int) (n : Int) (w : World) : Calls Try.prog 5 #[.int .i64 t, .int .i64 a, .int .i64 n] w fun e w' => e = .returned (.bool true) ∧ Below w.heap.size w w' := by
  obtain ⟨u, hu⟩ := En.unit_ok (n := n)
  have C1 := ringE_any t a n u hu
  have C2 := rring_any t a n u hu
  obtain ⟨q, hq⟩ : ∃ r, ringR t a u = r := ⟨_, rfl⟩
  rw [hq] at C1
  rw [hq] at C2
  clear hq
  obtain ⟨q1, q2⟩ := q
  replace C1 := Lib.hid C1
  replace C2 := Lib.hid C2
  go_enter Try.func5, Try.ntmps5
  go_wp2_with fail
  have bw := Below.refl w.heap.size w
  refine (C1.out _).mono ?_
  rintro e w1 ⟨rfl, hb1⟩
  replace bw : Below w.heap.size w w1 := below_next bw hb1
  have lw1 : w.heap.size ≤ w1.heap.size := bw.size
  clear hb1
  go_wp2_with fail
  replace bw : Below w.heap.size w (w1.alloc (.cells #[.int .i64 q1.re.lo, .int .i64 q1.re.hi, .int .i64 q1.im.lo, .int .i64 q1.im.hi] 25)) := by go_grown
  have HX : Hd (w1.alloc (.cells #[.int .i64 q1.re.lo, .int .i64 q1.re.hi, .int .i64 q1.im.lo, .int .i64 q1.im.hi] 25)) w1.heap.size 25 #[.int .i64 q1.re.lo, .int .i64 q1.re.hi, .int .i64 q1.im.lo, .int .i64 q1.im.hi] := by (with_reducible repeat' (first | assumption | (apply hdN; (try simp only [sA, sS, sD]); done) | apply hdA | apply hdD | apply hdS | (apply hdF; case hp => first | (simp; done) | (simp; omega)) | with_unfolding_all rfl))
  refine (C2.out _).mono ?_
  rintro e w2 ⟨rfl, hb2⟩
  replace bw : Below w.heap.size w w2 := below_next bw hb2
  replace HX := HX.call hb2
  have lw2 : w.heap.size ≤ w2.heap.size := bw.size
  clear hb2
  obtain ⟨hcX, hfX⟩ := HX.facts
  have ltX1 := HX.lt
  go_wp2_with fail
  replace HX : Hd (w2.alloc (.cells #[.int .i64 q1.re.lo, .int .i64 q1.re.hi, .int .i64 q1.im.lo, .int .i64 q1.im.hi] 25)) w1.heap.size 25 #[.int .i64 q1.re.lo, .int .i64 q1.re.hi, .int .i64 q1.im.lo, .int .i64 q1.im.hi] := by (with_reducible repeat' (first | assumption | (apply hdN; (try simp only [sA, sS, sD]); done) | apply hdA | apply hdD | apply hdS | (apply hdF; case hp => first | (simp; done) | (simp; omega)) | with_unfolding_all rfl))
  replace bw : Below w.heap.size w (w2.alloc (.cells #[.int .i64 q1.re.lo, .int .i64 q1.re.hi, .int .i64 q1.im.lo, .int .i64 q1.im.hi] 25)) := by go_grown
  have HY : Hd (w2.alloc (.cells #[.int .i64 q1.re.lo, .int .i64 q1.re.hi, .int .i64 q1.im.lo, .int .i64 q1.im.hi] 25)) w2.heap.size 25 #[.int .i64 q1.re.lo, .int .i64 q1.re.hi, .int .i64 q1.im.lo, .int .i64 q1.im.hi] := by (with_reducible repeat' (first | assumption | (apply hdN; (try simp only [sA, sS, sD]); done) | apply hdA | apply hdD | apply hdS | (apply hdF; case hp => first | (simp; done) | (simp; omega)) | with_unfolding_all rfl))
  refine (awake_any _).mono ?_
  rintro e w3 ⟨rfl, hb3⟩
  replace bw : Below w.heap.size w w3 := below_next bw hb3
  replace HX := HX.call hb3
  replace HY := HY.call hb3
  have lw3 : w.heap.size ≤ w3.heap.size := bw.size
  clear hb3
  go_wp2
  go_ret
  exact ⟨rfl, by go_grown⟩

theorem own : ownKnob Try.prog.godebug = none := by kernel_rfl

set_option maxRecDepth 100000 in
theorem lifted (os : Os) (started : os.Started) (H : Type) (enc : TypeId × Value → H) :
    ReturnsInHanded {} Try.checked os 5 .any (Rows.encloseRingsSpec.pre6 enc Try.prog Try.f5 Rows.encloseRingsRow.domain false) (Rows.encloseRingsSpec.post enc Try.prog Try.f5 false true false false) := by
  refine returnsInHanded_of_change (C := Try.checked) own started (by kernel_rfl) Try.func5
    (ChangeSpec.witness6 (enc := enc) (C := Try.checked) false ⟨#[], #[.int .i64 0, .int .i64 0, .int .i64 0], []⟩ 8 (by kernel_rfl) (by kernel_rfl) (by kernel_rfl) (by kernel_rfl)) ?_
  intro W base args ds gs before hval0 hW hcnd _
  have hval : ∀ (j : Nat) t v, Try.f5.params[j]? = some t → args[j]? = some v → Value.okWide Try.prog W .any base t v := hval0
  have hW' := hW
  obtain ⟨p, q, hA0, hV, rfl, hfz, hnd⟩ := hW
  have hA : DataW.TrodAll enc Try.prog W 0 (fun _ => true) true Try.f5.params.toList args.toList ds p := hA0
  rw [Try.params5] at hA hval
  obtain ⟨rfl, hread⟩ := trodAll_flat (n := 8) (by kernel_rfl) hA
  obtain ⟨v0, vs0, d0, ds0, p0, q0, hargs, rfl, -, h0, r0⟩ := trodAll_cons hA
  obtain ⟨v1, vs1, d1, ds1, p1, q1, rfl, rfl, -, h1, r1⟩ := trodAll_cons r0
  obtain ⟨v2, vs2, d2, ds2, p2, q2, rfl, rfl, -, h2, r2⟩ := trodAll_cons r1
  obtain ⟨rfl, rfl, -⟩ := trodAll_nil r2
  obtain rfl : args = #[v0, v1, v2] := by cases args; simp_all
  obtain ⟨rfl, rfl⟩ := trodVars_none hV
  obtain ⟨x0, rfl⟩ := okWide_int Try.underlying3 (hval 0 3 v0 rfl rfl)
  obtain ⟨x1, rfl⟩ := okWide_int Try.underlying3 (hval 1 3 v1 rfl rfl)
  obtain ⟨x2, rfl⟩ := okWide_int Try.underlying3 (hval 2 3 v2 rfl rfl)
  clear hA0 hval0
  simp only [List.append_nil] at hW'
  refine (walk x0 x1 x2 W).mono fun e W' ⟨he, hg⟩ => ?_
  subst he
  exact ⟨_, rfl, post_flat hW' (fun _ _ _ => (trodAll_cons_mk (shut_bool Try.underlying4 _) trodAll_mk0)) (fun sp => hread _ _ _ _) (fun _ => rfl)
    hg (ok_one (by kernel_rfl) rfl (okWide_bool_mk Try.underlying4 _))⟩

theorem holds : Rows.EncloseRingsSaid :=
  OpenClaim.holds_of_wide 5 Try.f5 rfl rfl rfl rfl rfl rfl rfl ⟨rfl, rfl, rfl, rfl, rfl⟩ rfl rfl rfl rfl rfl (by kernel_rfl) Try.func5 closed
    (of_decide_eq_true (by kernel_rfl)) (by unfold Func.isWrapper; rw [if_neg (of_decide_eq_false (by kernel_rfl))]; exact ⟨rfl, rfl⟩)
    (fun os started H enc _ => lifted os started H enc)
#print axioms holds
end LawRings
end Go.Proofs.Ytpbbbfglecbceaa
