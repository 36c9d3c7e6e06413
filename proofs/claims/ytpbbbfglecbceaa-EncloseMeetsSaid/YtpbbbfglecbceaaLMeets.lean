/- What lies in what, what two rectangles enclose both, and how wide a rectangle is: for all rectangles. -/
import Derived.Test.YtpbbbfglecbceaaRows
import Derived.Test.YtpbbbfglecbceaaFlat
import Derived.Test.YtpbbbfglecbceaaEn17
import Derived.Test.YtpbbbfglecbceaaEn19
import Derived.Test.YtpbbbfglecbceaaRe3
import Derived.WalkKit
import Derived.ProofKit
import Derived.OpenShut
namespace Go.Proofs.Ytpbbbfglecbceaa
set_option linter.all false
open Go.ChangeShapes Go.WideShapes Go.ChangeAt Go.RowKit
namespace LawMeets

theorem walk (x y : En.Rc) (w : World) : Calls Try.prog 7 #[rcV x, rcV y] w fun e w' => e = .returned (.bool true) ∧ Below w.heap.size w w' := by
  have C1 := insideE_any x y
  have C2 := rinside_any x y
  have C3 := meetE_any x y
  have C4 := rmeet_any x y
  have C5 := widthE_any x
  have C6 := rwidth_any x
  obtain ⟨a, ha⟩ : ∃ r, inR x y = r := ⟨_, rfl⟩
  rw [ha] at C1
  rw [ha] at C2
  clear ha
  obtain ⟨b, hb⟩ : ∃ r, capR x y = r := ⟨_, rfl⟩
  rw [hb] at C3
  rw [hb] at C4
  clear hb
  obtain ⟨c, hc⟩ : ∃ r, widthR x = r := ⟨_, rfl⟩
  rw [hc] at C5
  rw [hc] at C6
  clear hc
  obtain ⟨a1, a2⟩ := a
  obtain ⟨b0, b1, b2⟩ := b
  obtain ⟨c1, c2⟩ := c
  replace C1 := Lib.hid C1
  replace C2 := Lib.hid C2
  replace C3 := Lib.hid C3
  replace C4 := Lib.hid C4
  replace C5 := Lib.hid C5
  replace C6 := Lib.hid C6
  go_enter Try.func7, Try.ntmps7
  go_wp2_with fail
  have HA : Hd ((w.alloc (.cells #[.int .i64 x.re.lo, .int .i64 x.re.hi, .int .i64 x.im.lo, .int .i64 x.im.hi] 25)).alloc (.cells #[.int .i64 y.re.lo, .int .i64 y.re.hi, .int .i64 y.im.lo, .int .i64 y.im.hi] 25)) w.heap.size 25 #[.int .i64 x.re.lo, .int .i64 x.re.hi, .int .i64 x.im.lo, .int .i64 x.im.hi] := by (repeat' (first | (with_reducible assumption) | (with_reducible refine Hd.new ?_; (try simp only [World.size_alloc, World.size_setCell, World.size_drew]); done) | with_reducible refine Hd.alloc ?_ _ | with_reducible refine Hd.drew ?_ | with_reducible refine Hd.drewN ?_ _ | with_reducible apply Hd.set' | (with_reducible apply Hd.far; case hp => first | (simp; done) | (simp; omega)) | exact (rfl : Array.setIfInBounds _ _ _ = _)))
  have HB : Hd ((w.alloc (.cells #[.int .i64 x.re.lo, .int .i64 x.re.hi, .int .i64 x.im.lo, .int .i64 x.im.hi] 25)).alloc (.cells #[.int .i64 y.re.lo, .int .i64 y.re.hi, .int .i64 y.im.lo, .int .i64 y.im.hi] 25)) (w.heap.size + 1) 25 #[.int .i64 y.re.lo, .int .i64 y.re.hi, .int .i64 y.im.lo, .int .i64 y.im.hi] := by (repeat' (first | (with_reducible assumption) | (with_reducible refine Hd.new ?_; (try simp only [World.size_alloc, World.size_setCell, World.size_drew]); done) | with_reducible refine Hd.alloc ?_ _ | with_reducible refine Hd.drew ?_ | with_reducible refine Hd.drewN ?_ _ | with_reducible apply Hd.set' | (with_reducible apply Hd.far; case hp => first | (simp; done) | (simp; omega)) | exact (rfl : Array.setIfInBounds _ _ _ = _)))
  have bw : Below w.heap.size w ((w.alloc (.cells #[.int .i64 x.re.lo, .int .i64 x.re.hi, .int .i64 x.im.lo, .int .i64 x.im.hi] 25)).alloc (.cells #[.int .i64 y.re.lo, .int .i64 y.re.hi, .int .i64 y.im.lo, .int .i64 y.im.hi] 25)) := by go_grown
  refine (C1.out _).mono ?_
  rintro e w1 ⟨rfl, hb1⟩
  replace bw : Below w.heap.size w w1 := below_next bw hb1
  replace HA := HA.call hb1
  replace HB := HB.call hb1
  have lw1 : w.heap.size ≤ w1.heap.size := bw.size
  clear hb1
  obtain ⟨hcA, hfA⟩ := HA.facts
  obtain ⟨hcB, hfB⟩ := HB.facts
  go_wp2_with fail
  refine (C2.out _).mono ?_
  rintro e w2 ⟨rfl, hb2⟩
  replace bw : Below w.heap.size w w2 := below_next bw hb2
  replace HA := HA.call hb2
  replace HB := HB.call hb2
  have lw2 : w.heap.size ≤ w2.heap.size := bw.size
  clear hb2
  obtain ⟨hcA, hfA⟩ := HA.facts
  obtain ⟨hcB, hfB⟩ := HB.facts
  go_wp2_with fail
  refine (C3.out _).mono ?_
  rintro e w3 ⟨rfl, hb3⟩
  replace bw : Below w.heap.size w w3 := below_next bw hb3
  replace HA := HA.call hb3
  replace HB := HB.call hb3
  have lw3 : w.heap.size ≤ w3.heap.size := bw.size
  clear hb3
  obtain ⟨hcA, hfA⟩ := HA.facts
  obtain ⟨hcB, hfB⟩ := HB.facts
  have ltA := HA.lt
  have ltB := HB.lt
  go_wp2_with fail
  replace HA : Hd (w3.alloc (.cells #[.int .i64 b0.re.lo, .int .i64 b0.re.hi, .int .i64 b0.im.lo, .int .i64 b0.im.hi] 25)) w.heap.size 25 #[.int .i64 x.re.lo, .int .i64 x.re.hi, .int .i64 x.im.lo, .int .i64 x.im.hi] := by (repeat' (first | (with_reducible assumption) | (with_reducible refine Hd.new ?_; (try simp only [World.size_alloc, World.size_setCell, World.size_drew]); done) | with_reducible refine Hd.alloc ?_ _ | with_reducible refine Hd.drew ?_ | with_reducible refine Hd.drewN ?_ _ | with_reducible apply Hd.set' | (with_reducible apply Hd.far; case hp => first | (simp; done) | (simp; omega)) | exact (rfl : Array.setIfInBounds _ _ _ = _)))
  replace HB : Hd (w3.alloc (.cells #[.int .i64 b0.re.lo, .int .i64 b0.re.hi, .int .i64 b0.im.lo, .int .i64 b0.im.hi] 25)) (w.heap.size + 1) 25 #[.int .i64 y.re.lo, .int .i64 y.re.hi, .int .i64 y.im.lo, .int .i64 y.im.hi] := by (repeat' (first | (with_reducible assumption) | (with_reducible refine Hd.new ?_; (try simp only [World.size_alloc, World.size_setCell, World.size_drew]); done) | with_reducible refine Hd.alloc ?_ _ | with_reducible refine Hd.drew ?_ | with_reducible refine Hd.drewN ?_ _ | with_reducible apply Hd.set' | (with_reducible apply Hd.far; case hp => first | (simp; done) | (simp; omega)) | exact (rfl : Array.setIfInBounds _ _ _ = _)))
  replace bw : Below w.heap.size w (w3.alloc (.cells #[.int .i64 b0.re.lo, .int .i64 b0.re.hi, .int .i64 b0.im.lo, .int .i64 b0.im.hi] 25)) := by go_grown
  have HX : Hd (w3.alloc (.cells #[.int .i64 b0.re.lo, .int .i64 b0.re.hi, .int .i64 b0.im.lo, .int .i64 b0.im.hi] 25)) w3.heap.size 25 #[.int .i64 b0.re.lo, .int .i64 b0.re.hi, .int .i64 b0.im.lo, .int .i64 b0.im.hi] := by (repeat' (first | (with_reducible assumption) | (with_reducible refine Hd.new ?_; (try simp only [World.size_alloc, World.size_setCell, World.size_drew]); done) | with_reducible refine Hd.alloc ?_ _ | with_reducible refine Hd.drew ?_ | with_reducible refine Hd.drewN ?_ _ | with_reducible apply Hd.set' | (with_reducible apply Hd.far; case hp => first | (simp; done) | (simp; omega)) | exact (rfl : Array.setIfInBounds _ _ _ = _)))
  refine (C4.out _).mono ?_
  rintro e w4 ⟨rfl, hb4⟩
  replace bw : Below w.heap.size w w4 := below_next bw hb4
  replace HA := HA.call hb4
  replace HB := HB.call hb4
  replace HX := HX.call hb4
  have lw4 : w.heap.size ≤ w4.heap.size := bw.size
  clear hb4
  obtain ⟨hcA, hfA⟩ := HA.facts
  obtain ⟨hcB, hfB⟩ := HB.facts
  obtain ⟨hcX, hfX⟩ := HX.facts
  have ltA4 := HA.lt
  have ltB4 := HB.lt
  have ltX := HX.lt
  go_wp2_with fail
  replace HA : Hd (w4.alloc (.cells #[.int .i64 b0.re.lo, .int .i64 b0.re.hi, .int .i64 b0.im.lo, .int .i64 b0.im.hi] 25)) w.heap.size 25 #[.int .i64 x.re.lo, .int .i64 x.re.hi, .int .i64 x.im.lo, .int .i64 x.im.hi] := by (repeat' (first | (with_reducible assumption) | (with_reducible refine Hd.new ?_; (try simp only [World.size_alloc, World.size_setCell, World.size_drew]); done) | with_reducible refine Hd.alloc ?_ _ | with_reducible refine Hd.drew ?_ | with_reducible refine Hd.drewN ?_ _ | with_reducible apply Hd.set' | (with_reducible apply Hd.far; case hp => first | (simp; done) | (simp; omega)) | exact (rfl : Array.setIfInBounds _ _ _ = _)))
  replace HB : Hd (w4.alloc (.cells #[.int .i64 b0.re.lo, .int .i64 b0.re.hi, .int .i64 b0.im.lo, .int .i64 b0.im.hi] 25)) (w.heap.size + 1) 25 #[.int .i64 y.re.lo, .int .i64 y.re.hi, .int .i64 y.im.lo, .int .i64 y.im.hi] := by (repeat' (first | (with_reducible assumption) | (with_reducible refine Hd.new ?_; (try simp only [World.size_alloc, World.size_setCell, World.size_drew]); done) | with_reducible refine Hd.alloc ?_ _ | with_reducible refine Hd.drew ?_ | with_reducible refine Hd.drewN ?_ _ | with_reducible apply Hd.set' | (with_reducible apply Hd.far; case hp => first | (simp; done) | (simp; omega)) | exact (rfl : Array.setIfInBounds _ _ _ = _)))
  replace HX : Hd (w4.alloc (.cells #[.int .i64 b0.re.lo, .int .i64 b0.re.hi, .int .i64 b0.im.lo, .int .i64 b0.im.hi] 25)) w3.heap.size 25 #[.int .i64 b0.re.lo, .int .i64 b0.re.hi, .int .i64 b0.im.lo, .int .i64 b0.im.hi] := by (repeat' (first | (with_reducible assumption) | (with_reducible refine Hd.new ?_; (try simp only [World.size_alloc, World.size_setCell, World.size_drew]); done) | with_reducible refine Hd.alloc ?_ _ | with_reducible refine Hd.drew ?_ | with_reducible refine Hd.drewN ?_ _ | with_reducible apply Hd.set' | (with_reducible apply Hd.far; case hp => first | (simp; done) | (simp; omega)) | exact (rfl : Array.setIfInBounds _ _ _ = _)))
  replace bw : Below w.heap.size w (w4.alloc (.cells #[.int .i64 b0.re.lo, .int .i64 b0.re.hi, .int .i64 b0.im.lo, .int .i64 b0.im.hi] 25)) := by go_grown
  have HY : Hd (w4.alloc (.cells #[.int .i64 b0.re.lo, .int .i64 b0.re.hi, .int .i64 b0.im.lo, .int .i64 b0.im.hi] 25)) w4.heap.size 25 #[.int .i64 b0.re.lo, .int .i64 b0.re.hi, .int .i64 b0.im.lo, .int .i64 b0.im.hi] := by (repeat' (first | (with_reducible assumption) | (with_reducible refine Hd.new ?_; (try simp only [World.size_alloc, World.size_setCell, World.size_drew]); done) | with_reducible refine Hd.alloc ?_ _ | with_reducible refine Hd.drew ?_ | with_reducible refine Hd.drewN ?_ _ | with_reducible apply Hd.set' | (with_reducible apply Hd.far; case hp => first | (simp; done) | (simp; omega)) | exact (rfl : Array.setIfInBounds _ _ _ = _)))
  refine (C5.out _).mono ?_
  rintro e w5 ⟨rfl, hb5⟩
  replace bw : Below w.heap.size w w5 := below_next bw hb5
  replace HA := HA.call hb5
  replace HB := HB.call hb5
  replace HX := HX.call hb5
  replace HY := HY.call hb5
  have lw5 : w.heap.size ≤ w5.heap.size := bw.size
  clear hb5
  obtain ⟨hcA, hfA⟩ := HA.facts
  obtain ⟨hcB, hfB⟩ := HB.facts
  go_wp2_with fail
  refine (C6.out _).mono ?_
  rintro e w6 ⟨rfl, hb6⟩
  replace bw : Below w.heap.size w w6 := below_next bw hb6
  replace HA := HA.call hb6
  replace HB := HB.call hb6
  replace HX := HX.call hb6
  replace HY := HY.call hb6
  have lw6 : w.heap.size ≤ w6.heap.size := bw.size
  clear hb6
  obtain ⟨hcA, hfA⟩ := HA.facts
  obtain ⟨hcB, hfB⟩ := HB.facts
  go_wp2_with fail
  refine (awake_any _).mono ?_
  rintro e w7 ⟨rfl, hb7⟩
  replace bw : Below w.heap.size w w7 := below_next bw hb7
  replace HA := HA.call hb7
  replace HB := HB.call hb7
  replace HX := HX.call hb7
  replace HY := HY.call hb7
  have lw7 : w.heap.size ≤ w7.heap.size := bw.size
  clear hb7
  go_wp2_with fail
  go_ret
  exact ⟨rfl, by go_grown⟩

theorem own : ownKnob Try.prog.godebug = none := by kernel_rfl

set_option maxRecDepth 100000 in
theorem lifted (os : Os) (started : os.Started) (H : Type) (enc : TypeId × Value → H) :
    ReturnsInHanded {} Try.checked os 7 .any (Rows.encloseMeetsSpec.pre6 enc Try.prog Try.f7 Rows.encloseMeetsRow.domain false) (Rows.encloseMeetsSpec.post enc Try.prog Try.f7 false true false false) := by
  refine returnsInHanded_of_change (C := Try.checked) own started (by kernel_rfl) Try.func7
    (ChangeSpec.witness6 (enc := enc) (C := Try.checked) false ⟨#[], #[.agg #[.int .i64 0, .int .i64 0, .int .i64 0, .int .i64 0], .agg #[.int .i64 0, .int .i64 0, .int .i64 0, .int .i64 0]], []⟩ 8 (by kernel_rfl) (by kernel_rfl) (by kernel_rfl) (by kernel_rfl)) ?_
  intro W base args ds gs before hval0 hW hcnd _
  have hval : ∀ (j : Nat) t v, Try.f7.params[j]? = some t → args[j]? = some v → Value.okWide Try.prog W .any base t v := hval0
  have hW' := hW
  obtain ⟨p, q, hA0, hV, rfl, hfz, hnd⟩ := hW
  have hA : DataW.TrodAll enc Try.prog W 0 (fun _ => true) true Try.f7.params.toList args.toList ds p := hA0
  rw [Try.params7] at hA hval
  obtain ⟨rfl, hread⟩ := trodAll_flat (n := 8) (by kernel_rfl) hA
  obtain ⟨v0, vs0, d0, ds0, p0, q0, hargs, rfl, -, h0, r0⟩ := trodAll_cons hA
  obtain ⟨v1, vs1, d1, ds1, p1, q1, rfl, rfl, -, h1, r1⟩ := trodAll_cons r0
  obtain ⟨rfl, rfl, -⟩ := trodAll_nil r1
  obtain rfl : args = #[v0, v1] := by cases args; simp_all
  obtain ⟨rfl, rfl⟩ := trodVars_none hV
  obtain ⟨x0, rfl⟩ := open_rect (hval 0 25 v0 rfl rfl)
  obtain ⟨x1, rfl⟩ := open_rect (hval 1 25 v1 rfl rfl)
  clear hA0 hval0
  simp only [List.append_nil] at hW'
  refine (walk x0 x1 W).mono fun e W' ⟨he, hg⟩ => ?_
  subst he
  exact ⟨_, rfl, post_flat hW' (fun _ _ _ => (trodAll_cons_mk (shut_bool Try.underlying4 _) trodAll_mk0)) (fun sp => hread _ _ _ _) (fun _ => rfl)
    hg (ok_one (by kernel_rfl) rfl (okWide_bool_mk Try.underlying4 _))⟩

theorem holds : Rows.EncloseMeetsSaid :=
  OpenClaim.holds_of_wide 7 Try.f7 rfl rfl rfl rfl rfl rfl rfl ⟨rfl, rfl, rfl, rfl, rfl⟩ rfl rfl rfl rfl rfl (by kernel_rfl) Try.func7 (by kernel_rfl)
    (of_decide_eq_true (by kernel_rfl)) (by unfold Func.isWrapper; rw [if_neg (of_decide_eq_false (by kernel_rfl))]; exact ⟨rfl, rfl⟩)
    (fun os started H enc _ => lifted os started H enc)
#print axioms holds
end LawMeets
end Go.Proofs.Ytpbbbfglecbceaa
