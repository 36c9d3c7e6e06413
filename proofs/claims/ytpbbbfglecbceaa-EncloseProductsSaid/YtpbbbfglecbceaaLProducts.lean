/- Products and quotients of rectangles: for all of them. -/
import Derived.Test.YtpbbbfglecbceaaRows
import Derived.Test.YtpbbbfglecbceaaFlat
import Derived.Test.YtpbbbfglecbceaaEn17
import Derived.Test.YtpbbbfglecbceaaRe11
import Derived.WalkKit
import Derived.ProofKit
import Derived.OpenShut
namespace Go.Proofs.Ytpbbbfglecbceaa
set_option linter.all false
open Go.ChangeShapes Go.WideShapes Go.ChangeAt Go.RowKit
namespace LawProducts

theorem walk (x : En.Rc) (y : En.Rc) (w : World) : Calls Try.prog 11 #[rcV x, rcV y] w fun e w' => e = .returned (.bool true) ∧ Below w.heap.size w w' := by
  have C1 := mulE_any x y
  have C2 := rtwo_mul x y
  have C3 := divE_any x y
  have C4 := rtwo_div x y
  obtain ⟨a, ha⟩ : ∃ r, twoR En.times x y = r := ⟨_, rfl⟩
  rw [ha] at C1
  rw [ha] at C2
  clear ha
  obtain ⟨b, hb⟩ : ∃ r, twoR En.quotient x y = r := ⟨_, rfl⟩
  rw [hb] at C3
  rw [hb] at C4
  clear hb
  obtain ⟨a1, a2⟩ := a
  obtain ⟨b1, b2⟩ := b
  replace C1 := Lib.hid C1
  replace C2 := Lib.hid C2
  replace C3 := Lib.hid C3
  replace C4 := Lib.hid C4
  go_enter Try.func11, Try.ntmps11
  go_wp2_with fail
  have HA : Hd ((w.alloc (.cells #[.int .i64 x.re.lo, .int .i64 x.re.hi, .int .i64 x.im.lo, .int .i64 x.im.hi] 25)).alloc (.cells #[.int .i64 y.re.lo, .int .i64 y.re.hi, .int .i64 y.im.lo, .int .i64 y.im.hi] 25)) w.heap.size 25 #[.int .i64 x.re.lo, .int .i64 x.re.hi, .int .i64 x.im.lo, .int .i64 x.im.hi] := by (with_reducible repeat' (first | assumption | (apply hdN; (try simp only [sA, sS, sD]); done) | apply hdA | apply hdD | apply hdS | (apply hdF; case hp => first | (simp; done) | (simp; omega)) | with_unfolding_all rfl))
  have HB : Hd ((w.alloc (.cells #[.int .i64 x.re.lo, .int .i64 x.re.hi, .int .i64 x.im.lo, .int .i64 x.im.hi] 25)).alloc (.cells #[.int .i64 y.re.lo, .int .i64 y.re.hi, .int .i64 y.im.lo, .int .i64 y.im.hi] 25)) (w.heap.size + 1) 25 #[.int .i64 y.re.lo, .int .i64 y.re.hi, .int .i64 y.im.lo, .int .i64 y.im.hi] := by (with_reducible repeat' (first | assumption | (apply hdN; (try simp only [sA, sS, sD]); done) | apply hdA | apply hdD | apply hdS | (apply hdF; case hp => first | (simp; done) | (simp; omega)) | with_unfolding_all rfl))
  have bw : Below w.heap.size w ((w.alloc (.cells #[.int .i64 x.re.lo, .int .i64 x.re.hi, .int .i64 x.im.lo, .int .i64 x.im.hi] 25)).alloc (.cells #[.int .i64 y.re.lo, .int .i64 y.re.hi, .int .i64 y.im.lo, .int .i64 y.im.hi] 25)) := by go_grown
  refine (C1.out _).mono ?_
  rintro e w1 ⟨rfl, hb1⟩
  replace bw : Below w.heap.size w w1 := below_next bw hb1
  replace HA := HA.call hb1
  replace HB := HB.call hb1
  have lw1 : w.heap.size ≤ w1.heap.size := bw.size
  clear hb1
  obtain ⟨hcA, hfA⟩ := HA.facts
  obtain ⟨hcB, hfB⟩ := HB.facts
  have ltA0 := HA.lt
  have ltB0 := HB.lt
  go_wp2_with fail
  replace HA : Hd (w1.alloc (.cells #[.int .i64 a1.re.lo, .int .i64 a1.re.hi, .int .i64 a1.im.lo, .int .i64 a1.im.hi] 25)) w.heap.size 25 #[.int .i64 x.re.lo, .int .i64 x.re.hi, .int .i64 x.im.lo, .int .i64 x.im.hi] := by (with_reducible repeat' (first | assumption | (apply hdN; (try simp only [sA, sS, sD]); done) | apply hdA | apply hdD | apply hdS | (apply hdF; case hp => first | (simp; done) | (simp; omega)) | with_unfolding_all rfl))
  replace HB : Hd (w1.alloc (.cells #[.int .i64 a1.re.lo, .int .i64 a1.re.hi, .int .i64 a1.im.lo, .int .i64 a1.im.hi] 25)) (w.heap.size + 1) 25 #[.int .i64 y.re.lo, .int .i64 y.re.hi, .int .i64 y.im.lo, .int .i64 y.im.hi] := by (with_reducible repeat' (first | assumption | (apply hdN; (try simp only [sA, sS, sD]); done) | apply hdA | apply hdD | apply hdS | (apply hdF; case hp => first | (simp; done) | (simp; omega)) | with_unfolding_all rfl))
  replace bw : Below w.heap.size w (w1.alloc (.cells #[.int .i64 a1.re.lo, .int .i64 a1.re.hi, .int .i64 a1.im.lo, .int .i64 a1.im.hi] 25)) := by go_grown
  have HX : Hd (w1.alloc (.cells #[.int .i64 a1.re.lo, .int .i64 a1.re.hi, .int .i64 a1.im.lo, .int .i64 a1.im.hi] 25)) w1.heap.size 25 #[.int .i64 a1.re.lo, .int .i64 a1.re.hi, .int .i64 a1.im.lo, .int .i64 a1.im.hi] := by (with_reducible repeat' (first | assumption | (apply hdN; (try simp only [sA, sS, sD]); done) | apply hdA | apply hdD | apply hdS | (apply hdF; case hp => first | (simp; done) | (simp; omega)) | with_unfolding_all rfl))
  refine (C2.out _).mono ?_
  rintro e w2 ⟨rfl, hb2⟩
  replace bw : Below w.heap.size w w2 := below_next bw hb2
  replace HA := HA.call hb2
  replace HB := HB.call hb2
  replace HX := HX.call hb2
  have lw2 : w.heap.size ≤ w2.heap.size := bw.size
  clear hb2
  obtain ⟨hcA, hfA⟩ := HA.facts
  obtain ⟨hcB, hfB⟩ := HB.facts
  obtain ⟨hcX, hfX⟩ := HX.facts
  have ltA1 := HA.lt
  have ltB1 := HB.lt
  have ltX1 := HX.lt
  go_wp2_with fail
  replace HA : Hd (w2.alloc (.cells #[.int .i64 a1.re.lo, .int .i64 a1.re.hi, .int .i64 a1.im.lo, .int .i64 a1.im.hi] 25)) w.heap.size 25 #[.int .i64 x.re.lo, .int .i64 x.re.hi, .int .i64 x.im.lo, .int .i64 x.im.hi] := by (with_reducible repeat' (first | assumption | (apply hdN; (try simp only [sA, sS, sD]); done) | apply hdA | apply hdD | apply hdS | (apply hdF; case hp => first | (simp; done) | (simp; omega)) | with_unfolding_all rfl))
  replace HB : Hd (w2.alloc (.cells #[.int .i64 a1.re.lo, .int .i64 a1.re.hi, .int .i64 a1.im.lo, .int .i64 a1.im.hi] 25)) (w.heap.size + 1) 25 #[.int .i64 y.re.lo, .int .i64 y.re.hi, .int .i64 y.im.lo, .int .i64 y.im.hi] := by (with_reducible repeat' (first | assumption | (apply hdN; (try simp only [sA, sS, sD]); done) | apply hdA | apply hdD | apply hdS | (apply hdF; case hp => first | (simp; done) | (simp; omega)) | with_unfolding_all rfl))
  replace HX : Hd (w2.alloc (.cells #[.int .i64 a1.re.lo, .int .i64 a1.re.hi, .int .i64 a1.im.lo, .int .i64 a1.im.hi] 25)) w1.heap.size 25 #[.int .i64 a1.re.lo, .int .i64 a1.re.hi, .int .i64 a1.im.lo, .int .i64 a1.im.hi] := by (with_reducible repeat' (first | assumption | (apply hdN; (try simp only [sA, sS, sD]); done) | apply hdA | apply hdD | apply hdS | (apply hdF; case hp => first | (simp; done) | (simp; omega)) | with_unfolding_all rfl))
  replace bw : Below w.heap.size w (w2.alloc (.cells #[.int .i64 a1.re.lo, .int .i64 a1.re.hi, .int .i64 a1.im.lo, .int .i64 a1.im.hi] 25)) := by go_grown
  have HY : Hd (w2.alloc (.cells #[.int .i64 a1.re.lo, .int .i64 a1.re.hi, .int .i64 a1.im.lo, .int .i64 a1.im.hi] 25)) w2.heap.size 25 #[.int .i64 a1.re.lo, .int .i64 a1.re.hi, .int .i64 a1.im.lo, .int .i64 a1.im.hi] := by (with_reducible repeat' (first | assumption | (apply hdN; (try simp only [sA, sS, sD]); done) | apply hdA | apply hdD | apply hdS | (apply hdF; case hp => first | (simp; done) | (simp; omega)) | with_unfolding_all rfl))
  refine (C3.out _).mono ?_
  rintro e w3 ⟨rfl, hb3⟩
  replace bw : Below w.heap.size w w3 := below_next bw hb3
  replace HA := HA.call hb3
  replace HB := HB.call hb3
  replace HX := HX.call hb3
  replace HY := HY.call hb3
  have lw3 : w.heap.size ≤ w3.heap.size := bw.size
  clear hb3
  obtain ⟨hcA, hfA⟩ := HA.facts
  obtain ⟨hcB, hfB⟩ := HB.facts
  obtain ⟨hcX, hfX⟩ := HX.facts
  obtain ⟨hcY, hfY⟩ := HY.facts
  have ltA2 := HA.lt
  have ltB2 := HB.lt
  have ltX2 := HX.lt
  have ltY2 := HY.lt
  go_wp2_with fail
  replace HA : Hd (w3.alloc (.cells #[.int .i64 b1.re.lo, .int .i64 b1.re.hi, .int .i64 b1.im.lo, .int .i64 b1.im.hi] 25)) w.heap.size 25 #[.int .i64 x.re.lo, .int .i64 x.re.hi, .int .i64 x.im.lo, .int .i64 x.im.hi] := by (with_reducible repeat' (first | assumption | (apply hdN; (try simp only [sA, sS, sD]); done) | apply hdA | apply hdD | apply hdS | (apply hdF; case hp => first | (simp; done) | (simp; omega)) | with_unfolding_all rfl))
  replace HB : Hd (w3.alloc (.cells #[.int .i64 b1.re.lo, .int .i64 b1.re.hi, .int .i64 b1.im.lo, .int .i64 b1.im.hi] 25)) (w.heap.size + 1) 25 #[.int .i64 y.re.lo, .int .i64 y.re.hi, .int .i64 y.im.lo, .int .i64 y.im.hi] := by (with_reducible repeat' (first | assumption | (apply hdN; (try simp only [sA, sS, sD]); done) | apply hdA | apply hdD | apply hdS | (apply hdF; case hp => first | (simp; done) | (simp; omega)) | with_unfolding_all rfl))
  replace HX : Hd (w3.alloc (.cells #[.int .i64 b1.re.lo, .int .i64 b1.re.hi, .int .i64 b1.im.lo, .int .i64 b1.im.hi] 25)) w1.heap.size 25 #[.int .i64 a1.re.lo, .int .i64 a1.re.hi, .int .i64 a1.im.lo, .int .i64 a1.im.hi] := by (with_reducible repeat' (first | assumption | (apply hdN; (try simp only [sA, sS, sD]); done) | apply hdA | apply hdD | apply hdS | (apply hdF; case hp => first | (simp; done) | (simp; omega)) | with_unfolding_all rfl))
  replace HY : Hd (w3.alloc (.cells #[.int .i64 b1.re.lo, .int .i64 b1.re.hi, .int .i64 b1.im.lo, .int .i64 b1.im.hi] 25)) w2.heap.size 25 #[.int .i64 a1.re.lo, .int .i64 a1.re.hi, .int .i64 a1.im.lo, .int .i64 a1.im.hi] := by (with_reducible repeat' (first | assumption | (apply hdN; (try simp only [sA, sS, sD]); done) | apply hdA | apply hdD | apply hdS | (apply hdF; case hp => first | (simp; done) | (simp; omega)) | with_unfolding_all rfl))
  replace bw : Below w.heap.size w (w3.alloc (.cells #[.int .i64 b1.re.lo, .int .i64 b1.re.hi, .int .i64 b1.im.lo, .int .i64 b1.im.hi] 25)) := by go_grown
  have HZ : Hd (w3.alloc (.cells #[.int .i64 b1.re.lo, .int .i64 b1.re.hi, .int .i64 b1.im.lo, .int .i64 b1.im.hi] 25)) w3.heap.size 25 #[.int .i64 b1.re.lo, .int .i64 b1.re.hi, .int .i64 b1.im.lo, .int .i64 b1.im.hi] := by (with_reducible repeat' (first | assumption | (apply hdN; (try simp only [sA, sS, sD]); done) | apply hdA | apply hdD | apply hdS | (apply hdF; case hp => first | (simp; done) | (simp; omega)) | with_unfolding_all rfl))
  refine (C4.out _).mono ?_
  rintro e w4 ⟨rfl, hb4⟩
  replace bw : Below w.heap.size w w4 := below_next bw hb4
  replace HA := HA.call hb4
  replace HB := HB.call hb4
  replace HX := HX.call hb4
  replace HY := HY.call hb4
  replace HZ := HZ.call hb4
  have lw4 : w.heap.size ≤ w4.heap.size := bw.size
  clear hb4
  obtain ⟨hcA, hfA⟩ := HA.facts
  obtain ⟨hcB, hfB⟩ := HB.facts
  obtain ⟨hcX, hfX⟩ := HX.facts
  obtain ⟨hcY, hfY⟩ := HY.facts
  obtain ⟨hcZ, hfZ⟩ := HZ.facts
  have ltA3 := HA.lt
  have ltB3 := HB.lt
  have ltX3 := HX.lt
  have ltY3 := HY.lt
  have ltZ3 := HZ.lt
  go_wp2_with fail
  replace HA : Hd (w4.alloc (.cells #[.int .i64 b1.re.lo, .int .i64 b1.re.hi, .int .i64 b1.im.lo, .int .i64 b1.im.hi] 25)) w.heap.size 25 #[.int .i64 x.re.lo, .int .i64 x.re.hi, .int .i64 x.im.lo, .int .i64 x.im.hi] := by (with_reducible repeat' (first | assumption | (apply hdN; (try simp only [sA, sS, sD]); done) | apply hdA | apply hdD | apply hdS | (apply hdF; case hp => first | (simp; done) | (simp; omega)) | with_unfolding_all rfl))
  replace HB : Hd (w4.alloc (.cells #[.int .i64 b1.re.lo, .int .i64 b1.re.hi, .int .i64 b1.im.lo, .int .i64 b1.im.hi] 25)) (w.heap.size + 1) 25 #[.int .i64 y.re.lo, .int .i64 y.re.hi, .int .i64 y.im.lo, .int .i64 y.im.hi] := by (with_reducible repeat' (first | assumption | (apply hdN; (try simp only [sA, sS, sD]); done) | apply hdA | apply hdD | apply hdS | (apply hdF; case hp => first | (simp; done) | (simp; omega)) | with_unfolding_all rfl))
  replace HX : Hd (w4.alloc (.cells #[.int .i64 b1.re.lo, .int .i64 b1.re.hi, .int .i64 b1.im.lo, .int .i64 b1.im.hi] 25)) w1.heap.size 25 #[.int .i64 a1.re.lo, .int .i64 a1.re.hi, .int .i64 a1.im.lo, .int .i64 a1.im.hi] := by (with_reducible repeat' (first | assumption | (apply hdN; (try simp only [sA, sS, sD]); done) | apply hdA | apply hdD | apply hdS | (apply hdF; case hp => first | (simp; done) | (simp; omega)) | with_unfolding_all rfl))
  replace HY : Hd (w4.alloc (.cells #[.int .i64 b1.re.lo, .int .i64 b1.re.hi, .int .i64 b1.im.lo, .int .i64 b1.im.hi] 25)) w2.heap.size 25 #[.int .i64 a1.re.lo, .int .i64 a1.re.hi, .int .i64 a1.im.lo, .int .i64 a1.im.hi] := by (with_reducible repeat' (first | assumption | (apply hdN; (try simp only [sA, sS, sD]); done) | apply hdA | apply hdD | apply hdS | (apply hdF; case hp => first | (simp; done) | (simp; omega)) | with_unfolding_all rfl))
  replace HZ : Hd (w4.alloc (.cells #[.int .i64 b1.re.lo, .int .i64 b1.re.hi, .int .i64 b1.im.lo, .int .i64 b1.im.hi] 25)) w3.heap.size 25 #[.int .i64 b1.re.lo, .int .i64 b1.re.hi, .int .i64 b1.im.lo, .int .i64 b1.im.hi] := by (with_reducible repeat' (first | assumption | (apply hdN; (try simp only [sA, sS, sD]); done) | apply hdA | apply hdD | apply hdS | (apply hdF; case hp => first | (simp; done) | (simp; omega)) | with_unfolding_all rfl))
  replace bw : Below w.heap.size w (w4.alloc (.cells #[.int .i64 b1.re.lo, .int .i64 b1.re.hi, .int .i64 b1.im.lo, .int .i64 b1.im.hi] 25)) := by go_grown
  have HV : Hd (w4.alloc (.cells #[.int .i64 b1.re.lo, .int .i64 b1.re.hi, .int .i64 b1.im.lo, .int .i64 b1.im.hi] 25)) w4.heap.size 25 #[.int .i64 b1.re.lo, .int .i64 b1.re.hi, .int .i64 b1.im.lo, .int .i64 b1.im.hi] := by (with_reducible repeat' (first | assumption | (apply hdN; (try simp only [sA, sS, sD]); done) | apply hdA | apply hdD | apply hdS | (apply hdF; case hp => first | (simp; done) | (simp; omega)) | with_unfolding_all rfl))
  refine (awake_any _).mono ?_
  rintro e w5 ⟨rfl, hb5⟩
  replace bw : Below w.heap.size w w5 := below_next bw hb5
  replace HA := HA.call hb5
  replace HB := HB.call hb5
  replace HX := HX.call hb5
  replace HY := HY.call hb5
  replace HZ := HZ.call hb5
  replace HV := HV.call hb5
  have lw5 : w.heap.size ≤ w5.heap.size := bw.size
  clear hb5
  go_wp2
  go_ret
  exact ⟨rfl, by go_grown⟩

theorem own : ownKnob Try.prog.godebug = none := by kernel_rfl

set_option maxRecDepth 100000 in
theorem lifted (os : Os) (started : os.Started) (H : Type) (enc : TypeId × Value → H) :
    ReturnsInHanded {} Try.checked os 11 .any (Rows.encloseProductsSpec.pre6 enc Try.prog Try.f11 Rows.encloseProductsRow.domain false) (Rows.encloseProductsSpec.post enc Try.prog Try.f11 false true false false) := by
  refine returnsInHanded_of_change (C := Try.checked) own started (by kernel_rfl) Try.func11
    (ChangeSpec.witness6 (enc := enc) (C := Try.checked) false ⟨#[], #[.agg #[.int .i64 0, .int .i64 0, .int .i64 0, .int .i64 0], .agg #[.int .i64 0, .int .i64 0, .int .i64 0, .int .i64 0]], []⟩ 8 (by kernel_rfl) (by kernel_rfl) (by kernel_rfl) (by kernel_rfl)) ?_
  intro W base args ds gs before hval0 hW hcnd _
  have hval : ∀ (j : Nat) t v, Try.f11.params[j]? = some t → args[j]? = some v → Value.okWide Try.prog W .any base t v := hval0
  have hW' := hW
  obtain ⟨p, q, hA0, hV, rfl, hfz, hnd⟩ := hW
  have hA : DataW.TrodAll enc Try.prog W 0 (fun _ => true) true Try.f11.params.toList args.toList ds p := hA0
  rw [Try.params11] at hA hval
  obtain ⟨rfl, hread⟩ := trodAll_flat (n := 8) (by kernel_rfl) hA
  obtain ⟨v0, vs0, d0, ds0, p0, q0, hargs, rfl, -, h0, r0⟩ := trodAll_cons hA
  obtain ⟨v1, vs1, d1, ds1, p1, q1, rfl, rfl, -, h1, r1⟩ := trodAll_cons r0
  obtain ⟨rfl, rfl, -⟩ := trodAll_nil r1
  obtain rfl : args = #[v0, v1] := by cases args; simp_all
  obtain ⟨rfl, rfl⟩ := trodVars_none hV
  obtain ⟨x0, rfl⟩ := open_rect (hval 0 25 v0 rfl rfl)
  obtain ⟨x1, rfl⟩ := open_rect (hval 1 25 v1 rfl rfl)
  clear hA0 hval0
  simp only [List.append_nil] at hW'
  refine (walk x0 x1 W).mono fun e W' ⟨he, hg⟩ => ?_
  subst he
  exact ⟨_, rfl, post_flat hW' (fun _ _ _ => (trodAll_cons_mk (shut_bool Try.underlying4 _) trodAll_mk0)) (fun sp => hread _ _ _ _) (fun _ => rfl)
    hg (ok_one (by kernel_rfl) rfl (okWide_bool_mk Try.underlying4 _))⟩

theorem holds : Rows.EncloseProductsSaid :=
  OpenClaim.holds_of_wide 11 Try.f11 rfl rfl rfl rfl rfl rfl rfl ⟨rfl, rfl, rfl, rfl, rfl⟩ rfl rfl rfl rfl rfl (by kernel_rfl) Try.func11 (by kernel_rfl)
    (of_decide_eq_true (by kernel_rfl)) (by unfold Func.isWrapper; rw [if_neg (of_decide_eq_false (by kernel_rfl))]; exact ⟨rfl, rfl⟩)
    (fun os started H enc _ => lifted os started H enc)
#print axioms holds
end LawProducts
end Go.Proofs.Ytpbbbfglecbceaa
