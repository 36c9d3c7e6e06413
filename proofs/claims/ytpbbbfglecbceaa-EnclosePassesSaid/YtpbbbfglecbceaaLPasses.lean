/- The powers of what comes out of a two-port: for all of them. -/
import Derived.Test.YtpbbbfglecbceaaRows
import Derived.Test.YtpbbbfglecbceaaFlat
import Derived.Test.YtpbbbfglecbceaaEn17
import Derived.Test.YtpbbbfglecbceaaRe14
import Derived.Test.YtpbbbfglecbceaaFlat2
import Derived.Test.YtpbbbfglecbceaaLFPasses
import Derived.WalkKit
import Derived.ProofKit
import Derived.OpenShut
namespace Go.Proofs.Ytpbbbfglecbceaa
set_option linter.all false
open Go.ChangeShapes Go.WideShapes Go.ChangeAt Go.RowKit
namespace LawPasses

set_option maxHeartbeats 2000000 in
theorem walk (p : En.Pt) (w : World) : Calls Try.prog 8 #[ptV p] w fun e w' => e = .returned (.bool true) ∧ Below w.heap.size w w' := by
  have C1 := passesE_any p
  have C2 := rpasses_any p
  obtain ⟨q, hq⟩ : ∃ q, passR p = q := ⟨_, rfl⟩
  rw [hq] at C1 C2
  clear hq
  obtain ⟨a, b, c⟩ := q
  replace C1 := Lib.hid C1
  replace C2 := Lib.hid C2
  go_enter Try.func8, Try.ntmps8
  go_wp2_with fail
  have HP : Hd (w.alloc (.cells #[.int .i64 p.s00.re.lo, .int .i64 p.s00.re.hi, .int .i64 p.s00.im.lo, .int .i64 p.s00.im.hi, .int .i64 p.s01.re.lo, .int .i64 p.s01.re.hi, .int .i64 p.s01.im.lo, .int .i64 p.s01.im.hi, .int .i64 p.s10.re.lo, .int .i64 p.s10.re.hi, .int .i64 p.s10.im.lo, .int .i64 p.s10.im.hi, .int .i64 p.s11.re.lo, .int .i64 p.s11.re.hi, .int .i64 p.s11.im.lo, .int .i64 p.s11.im.hi] 49)) w.heap.size 49 #[.int .i64 p.s00.re.lo, .int .i64 p.s00.re.hi, .int .i64 p.s00.im.lo, .int .i64 p.s00.im.hi, .int .i64 p.s01.re.lo, .int .i64 p.s01.re.hi, .int .i64 p.s01.im.lo, .int .i64 p.s01.im.hi, .int .i64 p.s10.re.lo, .int .i64 p.s10.re.hi, .int .i64 p.s10.im.lo, .int .i64 p.s10.im.hi, .int .i64 p.s11.re.lo, .int .i64 p.s11.re.hi, .int .i64 p.s11.im.lo, .int .i64 p.s11.im.hi] := by (with_reducible repeat' (first | assumption | (apply hdN; (try simp only [sA, sS, sD]); done) | apply hdA | apply hdD | apply hdS | (apply hdF; case hp => first | (simp; done) | (simp; omega)) | with_unfolding_all rfl))
  have bw : Below w.heap.size w (w.alloc (.cells #[.int .i64 p.s00.re.lo, .int .i64 p.s00.re.hi, .int .i64 p.s00.im.lo, .int .i64 p.s00.im.hi, .int .i64 p.s01.re.lo, .int .i64 p.s01.re.hi, .int .i64 p.s01.im.lo, .int .i64 p.s01.im.hi, .int .i64 p.s10.re.lo, .int .i64 p.s10.re.hi, .int .i64 p.s10.im.lo, .int .i64 p.s10.im.hi, .int .i64 p.s11.re.lo, .int .i64 p.s11.re.hi, .int .i64 p.s11.im.lo, .int .i64 p.s11.im.hi] 49)) := by go_grown
  refine (C1.out _).mono ?_
  rintro e w1 ⟨rfl, hb1⟩
  replace bw : Below w.heap.size w w1 := below_next bw hb1
  replace HP := HP.call hb1
  have lw1 : w.heap.size ≤ w1.heap.size := bw.size
  clear hb1
  obtain ⟨hcP, hfP⟩ := HP.facts
  have ltPa := HP.lt
  have luPa := Nat.lt_succ_of_lt ltPa
  have lvPa := Nat.lt_succ_of_lt luPa
  go_wp2_with fail
  replace HP : Hd ((w1.alloc (.cells #[.int .i64 a.lo, .int .i64 a.hi] 23)).alloc (.cells #[.int .i64 b.lo, .int .i64 b.hi] 23)) w.heap.size 49 #[.int .i64 p.s00.re.lo, .int .i64 p.s00.re.hi, .int .i64 p.s00.im.lo, .int .i64 p.s00.im.hi, .int .i64 p.s01.re.lo, .int .i64 p.s01.re.hi, .int .i64 p.s01.im.lo, .int .i64 p.s01.im.hi, .int .i64 p.s10.re.lo, .int .i64 p.s10.re.hi, .int .i64 p.s10.im.lo, .int .i64 p.s10.im.hi, .int .i64 p.s11.re.lo, .int .i64 p.s11.re.hi, .int .i64 p.s11.im.lo, .int .i64 p.s11.im.hi] := by (with_reducible repeat' (first | assumption | (apply hdN; (try simp only [sA, sS, sD]); done) | apply hdA | apply hdD | apply hdS | (apply hdF; case hp => first | (simp; done) | (simp; omega)) | with_unfolding_all rfl))
  replace bw : Below w.heap.size w ((w1.alloc (.cells #[.int .i64 a.lo, .int .i64 a.hi] 23)).alloc (.cells #[.int .i64 b.lo, .int .i64 b.hi] 23)) := by go_grown
  have HX : Hd ((w1.alloc (.cells #[.int .i64 a.lo, .int .i64 a.hi] 23)).alloc (.cells #[.int .i64 b.lo, .int .i64 b.hi] 23)) w1.heap.size 23 #[.int .i64 a.lo, .int .i64 a.hi] := by (with_reducible repeat' (first | assumption | (apply hdN; (try simp only [sA, sS, sD]); done) | apply hdA | apply hdD | apply hdS | (apply hdF; case hp => first | (simp; done) | (simp; omega)) | with_unfolding_all rfl))
  have HY : Hd ((w1.alloc (.cells #[.int .i64 a.lo, .int .i64 a.hi] 23)).alloc (.cells #[.int .i64 b.lo, .int .i64 b.hi] 23)) (w1.heap.size + 1) 23 #[.int .i64 b.lo, .int .i64 b.hi] := by (with_reducible repeat' (first | assumption | (apply hdN; (try simp only [sA, sS, sD]); done) | apply hdA | apply hdD | apply hdS | (apply hdF; case hp => first | (simp; done) | (simp; omega)) | with_unfolding_all rfl))
  refine (C2.out _).mono ?_
  rintro e w2 ⟨rfl, hb2⟩
  replace bw : Below w.heap.size w w2 := below_next bw hb2
  replace HP := HP.call hb2
  replace HX := HX.call hb2
  replace HY := HY.call hb2
  have lw2 : w.heap.size ≤ w2.heap.size := bw.size
  clear hb2
  obtain ⟨hcP, hfP⟩ := HP.facts
  have ltPb := HP.lt
  have luPb := Nat.lt_succ_of_lt ltPb
  have lvPb := Nat.lt_succ_of_lt luPb
  obtain ⟨hcX, hfX⟩ := HX.facts
  have ltXb := HX.lt
  have luXb := Nat.lt_succ_of_lt ltXb
  have lvXb := Nat.lt_succ_of_lt luXb
  obtain ⟨hcY, hfY⟩ := HY.facts
  have ltYb := HY.lt
  have luYb := Nat.lt_succ_of_lt ltYb
  have lvYb := Nat.lt_succ_of_lt luYb
  go_wp2_with fail
  replace HP : Hd ((w2.alloc (.cells #[.int .i64 a.lo, .int .i64 a.hi] 23)).alloc (.cells #[.int .i64 b.lo, .int .i64 b.hi] 23)) w.heap.size 49 #[.int .i64 p.s00.re.lo, .int .i64 p.s00.re.hi, .int .i64 p.s00.im.lo, .int .i64 p.s00.im.hi, .int .i64 p.s01.re.lo, .int .i64 p.s01.re.hi, .int .i64 p.s01.im.lo, .int .i64 p.s01.im.hi, .int .i64 p.s10.re.lo, .int .i64 p.s10.re.hi, .int .i64 p.s10.im.lo, .int .i64 p.s10.im.hi, .int .i64 p.s11.re.lo, .int .i64 p.s11.re.hi, .int .i64 p.s11.im.lo, .int .i64 p.s11.im.hi] := by (with_reducible repeat' (first | assumption | (apply hdN; (try simp only [sA, sS, sD]); done) | apply hdA | apply hdD | apply hdS | (apply hdF; case hp => first | (simp; done) | (simp; omega)) | with_unfolding_all rfl))
  replace HX : Hd ((w2.alloc (.cells #[.int .i64 a.lo, .int .i64 a.hi] 23)).alloc (.cells #[.int .i64 b.lo, .int .i64 b.hi] 23)) w1.heap.size 23 #[.int .i64 a.lo, .int .i64 a.hi] := by (with_reducible repeat' (first | assumption | (apply hdN; (try simp only [sA, sS, sD]); done) | apply hdA | apply hdD | apply hdS | (apply hdF; case hp => first | (simp; done) | (simp; omega)) | with_unfolding_all rfl))
  replace HY : Hd ((w2.alloc (.cells #[.int .i64 a.lo, .int .i64 a.hi] 23)).alloc (.cells #[.int .i64 b.lo, .int .i64 b.hi] 23)) (w1.heap.size + 1) 23 #[.int .i64 b.lo, .int .i64 b.hi] := by (with_reducible repeat' (first | assumption | (apply hdN; (try simp only [sA, sS, sD]); done) | apply hdA | apply hdD | apply hdS | (apply hdF; case hp => first | (simp; done) | (simp; omega)) | with_unfolding_all rfl))
  replace bw : Below w.heap.size w ((w2.alloc (.cells #[.int .i64 a.lo, .int .i64 a.hi] 23)).alloc (.cells #[.int .i64 b.lo, .int .i64 b.hi] 23)) := by go_grown
  have HZ : Hd ((w2.alloc (.cells #[.int .i64 a.lo, .int .i64 a.hi] 23)).alloc (.cells #[.int .i64 b.lo, .int .i64 b.hi] 23)) w2.heap.size 23 #[.int .i64 a.lo, .int .i64 a.hi] := by (with_reducible repeat' (first | assumption | (apply hdN; (try simp only [sA, sS, sD]); done) | apply hdA | apply hdD | apply hdS | (apply hdF; case hp => first | (simp; done) | (simp; omega)) | with_unfolding_all rfl))
  have HV : Hd ((w2.alloc (.cells #[.int .i64 a.lo, .int .i64 a.hi] 23)).alloc (.cells #[.int .i64 b.lo, .int .i64 b.hi] 23)) (w2.heap.size + 1) 23 #[.int .i64 b.lo, .int .i64 b.hi] := by (with_reducible repeat' (first | assumption | (apply hdN; (try simp only [sA, sS, sD]); done) | apply hdA | apply hdD | apply hdS | (apply hdF; case hp => first | (simp; done) | (simp; omega)) | with_unfolding_all rfl))
  refine (awake_any _).mono ?_
  rintro e w3 ⟨rfl, hb3⟩
  replace bw : Below w.heap.size w w3 := below_next bw hb3
  replace HP := HP.call hb3
  replace HX := HX.call hb3
  replace HY := HY.call hb3
  replace HZ := HZ.call hb3
  replace HV := HV.call hb3
  have lw3 : w.heap.size ≤ w3.heap.size := bw.size
  clear hb3
  go_wp2
  go_ret
  exact ⟨rfl, by go_grown⟩

theorem own : ownKnob Try.prog.godebug = none := by kernel_rfl

set_option maxRecDepth 100000 in
theorem lifted (os : Os) (started : os.Started) (H : Type) (enc : TypeId × Value → H) :
    ReturnsInHanded {} Try.checked os 8 .any (Rows.enclosePassesSpec.pre6 enc Try.prog Try.f8 Rows.enclosePassesRow.domain false) (Rows.enclosePassesSpec.post enc Try.prog Try.f8 false true false false) := by
  refine returnsInHanded_of_change (C := Try.checked) own started (by kernel_rfl) Try.func8
    (ChangeSpec.witness6 (enc := enc) (C := Try.checked) false ⟨#[], #[.agg #[.int .i64 0, .int .i64 0, .int .i64 0, .int .i64 0, .int .i64 0, .int .i64 0, .int .i64 0, .int .i64 0, .int .i64 0, .int .i64 0, .int .i64 0, .int .i64 0, .int .i64 0, .int .i64 0, .int .i64 0, .int .i64 0]], []⟩ 8 (by kernel_rfl) (by kernel_rfl) (by kernel_rfl) (by kernel_rfl)) ?_
  intro W base args ds gs before hval0 hW hcnd _
  have hval : ∀ (j : Nat) t v, Try.f8.params[j]? = some t → args[j]? = some v → Value.okWide Try.prog W .any base t v := hval0
  have hW' := hW
  obtain ⟨p, q, hA0, hV, rfl, hfz, hnd⟩ := hW
  have hA : DataW.TrodAll enc Try.prog W 0 (fun _ => true) true Try.f8.params.toList args.toList ds p := hA0
  rw [Try.params8] at hA hval
  obtain ⟨rfl, hread⟩ := trodAll_flat (n := 8) (by kernel_rfl) hA
  obtain ⟨v0, vs0, d0, ds0, p0, q0, hargs, rfl, -, h0, r0⟩ := trodAll_cons hA
  obtain ⟨rfl, rfl, -⟩ := trodAll_nil r0
  obtain rfl : args = #[v0] := by cases args; simp_all
  obtain ⟨rfl, rfl⟩ := trodVars_none hV
  obtain ⟨x0, rfl⟩ := open_port (hval 0 49 v0 rfl rfl)
  clear hA0 hval0
  simp only [List.append_nil] at hW'
  refine (walk x0 W).mono fun e W' ⟨he, hg⟩ => ?_
  subst he
  exact ⟨_, rfl, post_flat hW' (fun _ _ _ => (trodAll_cons_mk (shut_bool Try.underlying4 _) trodAll_mk0)) (fun sp => hread _ _ _ _) (fun _ => rfl)
    hg (ok_one (by kernel_rfl) rfl (okWide_bool_mk Try.underlying4 _))⟩

theorem holds : Rows.EnclosePassesSaid :=
  OpenClaim.holds_of_wide 8 Try.f8 rfl rfl rfl rfl rfl rfl rfl ⟨rfl, rfl, rfl, rfl, rfl⟩ rfl rfl rfl rfl rfl (by kernel_rfl) Try.func8 closed
    (of_decide_eq_true (by kernel_rfl)) (by unfold Func.isWrapper; rw [if_neg (of_decide_eq_false (by kernel_rfl))]; exact ⟨rfl, rfl⟩)
    (fun os started H enc _ => lifted os started H enc)
#print axioms holds
end LawPasses
end Go.Proofs.Ytpbbbfglecbceaa
