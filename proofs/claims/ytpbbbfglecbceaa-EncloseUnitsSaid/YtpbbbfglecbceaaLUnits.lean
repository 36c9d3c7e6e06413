/- The rectangles of points of the unit circle: for all whole numbers. -/
import Derived.Test.YtpbbbfglecbceaaRows
import Derived.Test.YtpbbbfglecbceaaFlat
import Derived.Test.YtpbbbfglecbceaaEn17
import Derived.Test.YtpbbbfglecbceaaRe10
import Derived.WalkKit
import Derived.ProofKit
import Derived.OpenShut
namespace Go.Proofs.Ytpbbbfglecbceaa
set_option linter.all false
open Go.ChangeShapes Go.WideShapes Go.ChangeAt Go.RowKit
namespace LawUnits

theorem walk (n : Int) (w : World) : Calls Try.prog 3 #[.int .i64 n] w fun e w' => e = .returned (.bool true) ∧ Below w.heap.size w w' := by
  have C1 := unitE_any n
  have C2 := runit_any n
  obtain ⟨a, ha⟩ : ∃ r, outR (En.unit n) = r := ⟨_, rfl⟩
  rw [ha] at C1
  rw [ha] at C2
  clear ha
  obtain ⟨a1, a2⟩ := a
  replace C1 := Lib.hid C1
  replace C2 := Lib.hid C2
  go_enter Try.func3, Try.ntmps3
  go_wp2_with fail
  have bw := Below.refl w.heap.size w
  refine (C1.out _).mono ?_
  rintro e w1 ⟨rfl, hb1⟩
  replace bw : Below w.heap.size w w1 := below_next bw hb1
  have lw1 : w.heap.size ≤ w1.heap.size := bw.size
  clear hb1
  go_wp2_with fail
  replace bw : Below w.heap.size w (w1.alloc (.cells #[.int .i64 a1.re.lo, .int .i64 a1.re.hi, .int .i64 a1.im.lo, .int .i64 a1.im.hi] 25)) := by go_grown
  have HX : Hd (w1.alloc (.cells #[.int .i64 a1.re.lo, .int .i64 a1.re.hi, .int .i64 a1.im.lo, .int .i64 a1.im.hi] 25)) w1.heap.size 25 #[.int .i64 a1.re.lo, .int .i64 a1.re.hi, .int .i64 a1.im.lo, .int .i64 a1.im.hi] := by (repeat' (first | (with_reducible assumption) | (with_reducible refine Hd.new ?_; (try simp only [World.size_alloc, World.size_setCell, World.size_drew]); done) | with_reducible refine Hd.alloc ?_ _ | with_reducible refine Hd.drew ?_ | with_reducible refine Hd.drewN ?_ _ | with_reducible apply Hd.set' | (with_reducible apply Hd.far; case hp => first | (simp; done) | (simp; omega)) | exact (rfl : Array.setIfInBounds _ _ _ = _)))
  refine (C2.out _).mono ?_
  rintro e w2 ⟨rfl, hb2⟩
  replace bw : Below w.heap.size w w2 := below_next bw hb2
  replace HX := HX.call hb2
  have lw2 : w.heap.size ≤ w2.heap.size := bw.size
  clear hb2
  obtain ⟨hcX, hfX⟩ := HX.facts
  have ltX1 := HX.lt
  go_wp2_with fail
  replace HX : Hd (w2.alloc (.cells #[.int .i64 a1.re.lo, .int .i64 a1.re.hi, .int .i64 a1.im.lo, .int .i64 a1.im.hi] 25)) w1.heap.size 25 #[.int .i64 a1.re.lo, .int .i64 a1.re.hi, .int .i64 a1.im.lo, .int .i64 a1.im.hi] := by (repeat' (first | (with_reducible assumption) | (with_reducible refine Hd.new ?_; (try simp only [World.size_alloc, World.size_setCell, World.size_drew]); done) | with_reducible refine Hd.alloc ?_ _ | with_reducible refine Hd.drew ?_ | with_reducible refine Hd.drewN ?_ _ | with_reducible apply Hd.set' | (with_reducible apply Hd.far; case hp => first | (simp; done) | (simp; omega)) | exact (rfl : Array.setIfInBounds _ _ _ = _)))
  replace bw : Below w.heap.size w (w2.alloc (.cells #[.int .i64 a1.re.lo, .int .i64 a1.re.hi, .int .i64 a1.im.lo, .int .i64 a1.im.hi] 25)) := by go_grown
  have HY : Hd (w2.alloc (.cells #[.int .i64 a1.re.lo, .int .i64 a1.re.hi, .int .i64 a1.im.lo, .int .i64 a1.im.hi] 25)) w2.heap.size 25 #[.int .i64 a1.re.lo, .int .i64 a1.re.hi, .int .i64 a1.im.lo, .int .i64 a1.im.hi] := by (repeat' (first | (with_reducible assumption) | (with_reducible refine Hd.new ?_; (try simp only [World.size_alloc, World.size_setCell, World.size_drew]); done) | with_reducible refine Hd.alloc ?_ _ | with_reducible refine Hd.drew ?_ | with_reducible refine Hd.drewN ?_ _ | with_reducible apply Hd.set' | (with_reducible apply Hd.far; case hp => first | (simp; done) | (simp; omega)) | exact (rfl : Array.setIfInBounds _ _ _ = _)))
  refine (awake_any _).mono ?_
  rintro e w3 ⟨rfl, hb3⟩
  replace bw : Below w.heap.size w w3 := below_next bw hb3
  replace HX := HX.call hb3
  replace HY := HY.call hb3
  have lw3 : w.heap.size ≤ w3.heap.size := bw.size
  clear hb3
  go_wp2
  go_ret
  exact ⟨rfl, by go_grown⟩

theorem own : ownKnob Try.prog.godebug = none := by kernel_rfl

set_option maxRecDepth 100000 in
theorem lifted (os : Os) (started : os.Started) (H : Type) (enc : TypeId × Value → H) :
    ReturnsInHanded {} Try.checked os 3 .any (Rows.encloseUnitsSpec.pre6 enc Try.prog Try.f3 Rows.encloseUnitsRow.domain false) (Rows.encloseUnitsSpec.post enc Try.prog Try.f3 false true false false) := by
  refine returnsInHanded_of_change (C := Try.checked) own started (by kernel_rfl) Try.func3
    (ChangeSpec.witness6 (enc := enc) (C := Try.checked) false ⟨#[], #[.int .i64 0], []⟩ 8 (by kernel_rfl) (by kernel_rfl) (by kernel_rfl) (by kernel_rfl)) ?_
  intro W base args ds gs before hval0 hW hcnd _
  have hval : ∀ (j : Nat) t v, Try.f3.params[j]? = some t → args[j]? = some v → Value.okWide Try.prog W .any base t v := hval0
  have hW' := hW
  obtain ⟨p, q, hA0, hV, rfl, hfz, hnd⟩ := hW
  have hA : DataW.TrodAll enc Try.prog W 0 (fun _ => true) true Try.f3.params.toList args.toList ds p := hA0
  rw [Try.params3] at hA hval
  obtain ⟨rfl, hread⟩ := trodAll_flat (n := 8) (by kernel_rfl) hA
  obtain ⟨v0, vs0, d0, ds0, p0, q0, hargs, rfl, -, h0, r0⟩ := trodAll_cons hA
  obtain ⟨rfl, rfl, -⟩ := trodAll_nil r0
  obtain rfl : args = #[v0] := by cases args; simp_all
  obtain ⟨rfl, rfl⟩ := trodVars_none hV
  obtain ⟨x0, rfl⟩ := okWide_int Try.underlying3 (hval 0 3 v0 rfl rfl)
  clear hA0 hval0
  simp only [List.append_nil] at hW'
  refine (walk x0 W).mono fun e W' ⟨he, hg⟩ => ?_
  subst he
  exact ⟨_, rfl, post_flat hW' (fun _ _ _ => (trodAll_cons_mk (shut_bool Try.underlying4 _) trodAll_mk0)) (fun sp => hread _ _ _ _) (fun _ => rfl)
    hg (ok_one (by kernel_rfl) rfl (okWide_bool_mk Try.underlying4 _))⟩

theorem holds : Rows.EncloseUnitsSaid :=
  OpenClaim.holds_of_wide 3 Try.f3 rfl rfl rfl rfl rfl rfl rfl ⟨rfl, rfl, rfl, rfl, rfl⟩ rfl rfl rfl rfl rfl (by kernel_rfl) Try.func3 (by kernel_rfl)
    (of_decide_eq_true (by kernel_rfl)) (by unfold Func.isWrapper; rw [if_neg (of_decide_eq_false (by kernel_rfl))]; exact ⟨rfl, rfl⟩)
    (fun os started H enc _ => lifted os started H enc)
#print axioms holds
end LawUnits
end Go.Proofs.Ytpbbbfglecbceaa
