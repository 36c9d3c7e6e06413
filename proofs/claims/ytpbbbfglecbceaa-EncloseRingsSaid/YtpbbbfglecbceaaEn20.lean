/- Package enclose: Ring. -/
import Derived.Test.YtpbbbfglecbceaaEn17
import Derived.Test.YtpbbbfglecbceaaRgPl
import Derived.Test.YtpbbbfglecbceaaEagD
namespace Go.Proofs.Ytpbbbfglecbceaa
set_option linter.all false
open Go.RowKit

def ringR (t a : Int) (u : En.Rc) : En.Rc × Int := if 0 ≤ t ∧ t ≤ 1000000 ∧ 0 ≤ a ∧ a ≤ 1000000 then outR (En.ringCore ⟨En.pmS t, ⟨0, 0⟩⟩ ⟨En.pmS a, ⟨0, 0⟩⟩ u) else (⟨⟨0, 0⟩, ⟨0, 0⟩⟩, 2)
set_option maxHeartbeats 2000000 in
theorem ringE_any (t a n : Int) (u : En.Rc) (hu : En.unit n = .ok u) (w : World) : Calls Try.prog 27 #[.int .i64 t, .int .i64 a, .int .i64 n] w fun e w' => e = .returned (rcE (ringR t a u)) ∧ Below w.heap.size w w' := by
  by_cases hin : 0 ≤ t ∧ t ≤ 1000000 ∧ 0 ≤ a ∧ a ≤ 1000000
  · have hr : ringR t a u = outR (En.ringCore ⟨En.pmS t, ⟨0, 0⟩⟩ ⟨En.pmS a, ⟨0, 0⟩⟩ u) := if_pos hin
    rw [hr]
    clear hr
    obtain ⟨t0, t1, a0, a1⟩ := hin
    have HPT := Lib.hid (En.part_pm t0 t1)
    have HPA := Lib.hid (En.part_pm a0 a1)
    have okT := En.pmS_ok t0 t1
    have okA := En.pmS_ok a0 a1
    have okU := En.unit_okR hu
    have HU := Lib.hid hu
    clear hu
    obtain ⟨pt, hpt⟩ : ∃ p, En.pmS t = p := ⟨_, rfl⟩
    obtain ⟨pa, hpa⟩ : ∃ p, En.pmS a = p := ⟨_, rfl⟩
    rw [hpt] at HPT okT
    rw [hpa] at HPA okA
    rw [hpt, hpa]
    clear hpt hpa
    have fT : (⟨pt, ⟨0, 0⟩⟩ : En.Rc).fit := En.Rc.fit_of_ok (En.Rc.ok_mk okT (by decide))
    have fA : (⟨pa, ⟨0, 0⟩⟩ : En.Rc).fit := En.Rc.fit_of_ok (En.Rc.ok_mk okA (by decide))
    have fU := En.Rc.fit_of_ok okU
    go_enter_defers Try.func27, Try.ntmps27
    go_wp2_with fail
    have HX : Hd ((w.alloc (.cells #[.int .i64 0, .int .i64 0, .int .i64 0, .int .i64 0] 25)).alloc (.cells #[.int .i64 0] 26)) w.heap.size 25 #[.int .i64 0, .int .i64 0, .int .i64 0, .int .i64 0] := by (with_reducible repeat' (first | assumption | (apply hdN; (try simp only [sA, sS, sD]); done) | apply hdA | apply hdD | apply hdS | (apply hdF; case hp => first | (simp; done) | (simp; omega)) | with_unfolding_all rfl))
    have HE : Hd ((w.alloc (.cells #[.int .i64 0, .int .i64 0, .int .i64 0, .int .i64 0] 25)).alloc (.cells #[.int .i64 0] 26)) (w.heap.size + 1) 26 #[.int .i64 0] := by (with_reducible repeat' (first | assumption | (apply hdN; (try simp only [sA, sS, sD]); done) | apply hdA | apply hdD | apply hdS | (apply hdF; case hp => first | (simp; done) | (simp; omega)) | with_unfolding_all rfl))
    have bw : Below w.heap.size w ((w.alloc (.cells #[.int .i64 0, .int .i64 0, .int .i64 0, .int .i64 0] 25)).alloc (.cells #[.int .i64 0] 26)) := by go_grown
    refine (part_any t 1000000 (by omega) (by omega) (by omega) (by omega) _).mono ?_
    intro e w1 hp
    obtain ⟨rfl, hb1⟩ := hp.sure HPT.out
    clear hp
    replace bw : Below w.heap.size w w1 := below_next bw hb1
    replace HX := HX.call hb1
    replace HE := HE.call hb1
    have lw1 : w.heap.size ≤ w1.heap.size := bw.size
    clear hb1
    go_wp2_with fail
    refine (real_any pt _).mono ?_
    rintro e w2 ⟨rfl, hb2⟩
    replace bw : Below w.heap.size w w2 := below_next bw hb2
    replace HX := HX.call hb2
    replace HE := HE.call hb2
    have lw2 : w.heap.size ≤ w2.heap.size := bw.size
    clear hb2
    have ltXr1 := HX.lt
    have ltEr1 := HE.lt
    go_wp2_with fail
    replace HX : Hd (w2.alloc (.cells #[.int .i64 pt.lo, .int .i64 pt.hi, .int .i64 0, .int .i64 0] 25)) w.heap.size 25 #[.int .i64 0, .int .i64 0, .int .i64 0, .int .i64 0] := by (with_reducible repeat' (first | assumption | (apply hdN; (try simp only [sA, sS, sD]); done) | apply hdA | apply hdD | apply hdS | (apply hdF; case hp => first | (simp; done) | (simp; omega)) | with_unfolding_all rfl))
    replace HE : Hd (w2.alloc (.cells #[.int .i64 pt.lo, .int .i64 pt.hi, .int .i64 0, .int .i64 0] 25)) (w.heap.size + 1) 26 #[.int .i64 0] := by (with_reducible repeat' (first | assumption | (apply hdN; (try simp only [sA, sS, sD]); done) | apply hdA | apply hdD | apply hdS | (apply hdF; case hp => first | (simp; done) | (simp; omega)) | with_unfolding_all rfl))
    replace bw : Below w.heap.size w (w2.alloc (.cells #[.int .i64 pt.lo, .int .i64 pt.hi, .int .i64 0, .int .i64 0] 25)) := by go_grown
    have HC : Hd (w2.alloc (.cells #[.int .i64 pt.lo, .int .i64 pt.hi, .int .i64 0, .int .i64 0] 25)) w2.heap.size 25 #[.int .i64 pt.lo, .int .i64 pt.hi, .int .i64 0, .int .i64 0] := by (with_reducible repeat' (first | assumption | (apply hdN; (try simp only [sA, sS, sD]); done) | apply hdA | apply hdD | apply hdS | (apply hdF; case hp => first | (simp; done) | (simp; omega)) | with_unfolding_all rfl))
    have ltXC := HX.lt
    have ltEC := HE.lt
    have ltCC := HC.lt
    refine (part_any a 1000000 (by omega) (by omega) (by omega) (by omega) _).mono ?_
    intro e w3 hp
    obtain ⟨rfl, hb3⟩ := hp.sure HPA.out
    clear hp
    replace bw : Below w.heap.size w w3 := below_next bw hb3
    replace HX := HX.call hb3
    replace HE := HE.call hb3
    replace HC := HC.call hb3
    have lw3 : w.heap.size ≤ w3.heap.size := bw.size
    clear hb3
    go_wp2_with fail
    refine (real_any pa _).mono ?_
    rintro e w4 ⟨rfl, hb4⟩
    replace bw : Below w.heap.size w w4 := below_next bw hb4
    replace HX := HX.call hb4
    replace HE := HE.call hb4
    replace HC := HC.call hb4
    have lw4 : w.heap.size ≤ w4.heap.size := bw.size
    clear hb4
    go_wp2_with fail
    refine (unit_any n _).mono ?_
    intro e w5 hp
    obtain ⟨rfl, hb5⟩ := hp.sure HU.out
    clear hp
    replace bw : Below w.heap.size w w5 := below_next bw hb5
    replace HX := HX.call hb5
    replace HE := HE.call hb5
    replace HC := HC.call hb5
    have lw5 : w.heap.size ≤ w5.heap.size := bw.size
    clear hb5
    go_wp2_with fail
    refine (times_any ⟨pa, ⟨0, 0⟩⟩ u fA fU _).mono ?_
    intro e w6 hp
    obtain ⟨hb6, hcase⟩ := hp.cases
    clear hp
    replace bw : Below w.heap.size w w6 := below_next bw hb6
    replace HX := HX.call hb6
    replace HE := HE.call hb6
    replace HC := HC.call hb6
    have lw6 : w.heap.size ≤ w6.heap.size := bw.size
    clear hb6
    rcases hcase with ⟨s6, hs6, rfl⟩ | ⟨c6, hs6, rfl⟩
    rotate_left
    · refine leaves_cons (f := 62) (args := #[.pointer (some ⟨w.heap.size + 1, 0, none⟩)]) (by simp) (by simp [go_sem]) ?_
      refine (guard_panicking _ _ _ _ HE).mono ?_
      rintro e u' w'' ⟨rfl, rfl, rfl⟩
      exact ⟨_, run_results_ce rfl rfl (by (show Hd _ (w.heap.size) 25 #[.int .i64 0, .int .i64 0, .int .i64 0, .int .i64 0]); (with_reducible repeat' (first | assumption | (apply hdN; (try simp only [sA, sS, sD]); done) | apply hdA | apply hdD | apply hdS | (apply hdF; case hp => first | (simp; done) | (simp; omega)) | with_unfolding_all rfl))) Try.underlying25 rfl (by kernel_rfl) rfl (by (show Hd _ (w.heap.size + 1) 26 #[.int .i64 (c6)]); (with_reducible repeat' (first | assumption | (apply hdN; (try simp only [sA, sS, sD]); done) | apply hdA | apply hdD | apply hdS | (apply hdF; case hp => first | (simp; done) | (simp; omega)) | with_unfolding_all rfl))) Try.underlying26, (by simp only [En.ringCore, hs6, ebind_ok, ebind_err]; rfl), by go_grown⟩
    replace hs6 := Lib.hid hs6
    have ltXr2 := HX.lt
    have ltEr2 := HE.lt
    have ltCr2 := HC.lt
    obtain ⟨hcC, hfC⟩ := HC.facts
    have fV := En.Rc.fit_of_ok (En.times_ok hs6.out)
    go_wp2_with fail
    replace HX : Hd (w6.alloc (.cells #[.int .i64 s6.re.lo, .int .i64 s6.re.hi, .int .i64 s6.im.lo, .int .i64 s6.im.hi] 25)) w.heap.size 25 #[.int .i64 0, .int .i64 0, .int .i64 0, .int .i64 0] := by (with_reducible repeat' (first | assumption | (apply hdN; (try simp only [sA, sS, sD]); done) | apply hdA | apply hdD | apply hdS | (apply hdF; case hp => first | (simp; done) | (simp; omega)) | with_unfolding_all rfl))
    replace HE : Hd (w6.alloc (.cells #[.int .i64 s6.re.lo, .int .i64 s6.re.hi, .int .i64 s6.im.lo, .int .i64 s6.im.hi] 25)) (w.heap.size + 1) 26 #[.int .i64 0] := by (with_reducible repeat' (first | assumption | (apply hdN; (try simp only [sA, sS, sD]); done) | apply hdA | apply hdD | apply hdS | (apply hdF; case hp => first | (simp; done) | (simp; omega)) | with_unfolding_all rfl))
    replace HC : Hd (w6.alloc (.cells #[.int .i64 s6.re.lo, .int .i64 s6.re.hi, .int .i64 s6.im.lo, .int .i64 s6.im.hi] 25)) w2.heap.size 25 #[.int .i64 pt.lo, .int .i64 pt.hi, .int .i64 0, .int .i64 0] := by (with_reducible repeat' (first | assumption | (apply hdN; (try simp only [sA, sS, sD]); done) | apply hdA | apply hdD | apply hdS | (apply hdF; case hp => first | (simp; done) | (simp; omega)) | with_unfolding_all rfl))
    replace bw : Below w.heap.size w (w6.alloc (.cells #[.int .i64 s6.re.lo, .int .i64 s6.re.hi, .int .i64 s6.im.lo, .int .i64 s6.im.hi] 25)) := by go_grown
    have HV : Hd (w6.alloc (.cells #[.int .i64 s6.re.lo, .int .i64 s6.re.hi, .int .i64 s6.im.lo, .int .i64 s6.im.hi] 25)) w6.heap.size 25 #[.int .i64 s6.re.lo, .int .i64 s6.re.hi, .int .i64 s6.im.lo, .int .i64 s6.im.hi] := by (with_reducible repeat' (first | assumption | (apply hdN; (try simp only [sA, sS, sD]); done) | apply hdA | apply hdD | apply hdS | (apply hdF; case hp => first | (simp; done) | (simp; omega)) | with_unfolding_all rfl))
    have ltXV := HX.lt
    have ltEV := HE.lt
    have ltCV := HC.lt
    have ltVV := HV.lt
    refine (minus_any ⟨pt, ⟨0, 0⟩⟩ s6 fT fV _).mono ?_
    intro e w7 hp
    obtain ⟨hb7, hcase⟩ := hp.cases
    clear hp
    replace bw : Below w.heap.size w w7 := below_next bw hb7
    replace HX := HX.call hb7
    replace HE := HE.call hb7
    replace HC := HC.call hb7
    replace HV := HV.call hb7
    have lw7 : w.heap.size ≤ w7.heap.size := bw.size
    clear hb7
    rcases hcase with ⟨s7, hs7, rfl⟩ | ⟨c7, hs7, rfl⟩
    rotate_left
    · refine leaves_cons (f := 62) (args := #[.pointer (some ⟨w.heap.size + 1, 0, none⟩)]) (by simp) (by simp [go_sem]) ?_
      refine (guard_panicking _ _ _ _ HE).mono ?_
      rintro e u' w'' ⟨rfl, rfl, rfl⟩
      exact ⟨_, run_results_ce rfl rfl (by (show Hd _ (w.heap.size) 25 #[.int .i64 0, .int .i64 0, .int .i64 0, .int .i64 0]); (with_reducible repeat' (first | assumption | (apply hdN; (try simp only [sA, sS, sD]); done) | apply hdA | apply hdD | apply hdS | (apply hdF; case hp => first | (simp; done) | (simp; omega)) | with_unfolding_all rfl))) Try.underlying25 rfl (by kernel_rfl) rfl (by (show Hd _ (w.heap.size + 1) 26 #[.int .i64 (c7)]); (with_reducible repeat' (first | assumption | (apply hdN; (try simp only [sA, sS, sD]); done) | apply hdA | apply hdD | apply hdS | (apply hdF; case hp => first | (simp; done) | (simp; omega)) | with_unfolding_all rfl))) Try.underlying26, (by simp only [En.ringCore, hs6.out, hs7, ebind_ok, ebind_err]; rfl), by go_grown⟩
    replace hs7 := Lib.hid hs7
    have ltXr3 := HX.lt
    have ltEr3 := HE.lt
    have ltCr3 := HC.lt
    have ltVr3 := HV.lt
    have fP := En.Rc.fit_of_ok (En.minus_ok hs7.out)
    obtain ⟨hcC, hfC⟩ := HC.facts
    obtain ⟨hcV, hfV⟩ := HV.facts
    go_upto_region 7 with fail
    replace HX : Hd (w7.alloc (.cells #[.int .i64 s7.re.lo, .int .i64 s7.re.hi, .int .i64 s7.im.lo, .int .i64 s7.im.hi] 25)) w.heap.size 25 #[.int .i64 0, .int .i64 0, .int .i64 0, .int .i64 0] := by (with_reducible repeat' (first | assumption | (apply hdN; (try simp only [sA, sS, sD]); done) | apply hdA | apply hdD | apply hdS | (apply hdF; case hp => first | (simp; done) | (simp; omega)) | with_unfolding_all rfl))
    replace HE : Hd (w7.alloc (.cells #[.int .i64 s7.re.lo, .int .i64 s7.re.hi, .int .i64 s7.im.lo, .int .i64 s7.im.hi] 25)) (w.heap.size + 1) 26 #[.int .i64 0] := by (with_reducible repeat' (first | assumption | (apply hdN; (try simp only [sA, sS, sD]); done) | apply hdA | apply hdD | apply hdS | (apply hdF; case hp => first | (simp; done) | (simp; omega)) | with_unfolding_all rfl))
    replace HC : Hd (w7.alloc (.cells #[.int .i64 s7.re.lo, .int .i64 s7.re.hi, .int .i64 s7.im.lo, .int .i64 s7.im.hi] 25)) w2.heap.size 25 #[.int .i64 pt.lo, .int .i64 pt.hi, .int .i64 0, .int .i64 0] := by (with_reducible repeat' (first | assumption | (apply hdN; (try simp only [sA, sS, sD]); done) | apply hdA | apply hdD | apply hdS | (apply hdF; case hp => first | (simp; done) | (simp; omega)) | with_unfolding_all rfl))
    replace HV : Hd (w7.alloc (.cells #[.int .i64 s7.re.lo, .int .i64 s7.re.hi, .int .i64 s7.im.lo, .int .i64 s7.im.hi] 25)) w6.heap.size 25 #[.int .i64 s6.re.lo, .int .i64 s6.re.hi, .int .i64 s6.im.lo, .int .i64 s6.im.hi] := by (with_reducible repeat' (first | assumption | (apply hdN; (try simp only [sA, sS, sD]); done) | apply hdA | apply hdD | apply hdS | (apply hdF; case hp => first | (simp; done) | (simp; omega)) | with_unfolding_all rfl))
    replace bw : Below w.heap.size w (w7.alloc (.cells #[.int .i64 s7.re.lo, .int .i64 s7.re.hi, .int .i64 s7.im.lo, .int .i64 s7.im.hi] 25)) := by go_grown
    have HA : Hd (w7.alloc (.cells #[.int .i64 s7.re.lo, .int .i64 s7.re.hi, .int .i64 s7.im.lo, .int .i64 s7.im.hi] 25)) w7.heap.size 25 #[.int .i64 s7.re.lo, .int .i64 s7.re.hi, .int .i64 s7.im.lo, .int .i64 s7.im.hi] := by (with_reducible repeat' (first | assumption | (apply hdN; (try simp only [sA, sS, sD]); done) | apply hdA | apply hdD | apply hdS | (apply hdF; case hp => first | (simp; done) | (simp; omega)) | with_unfolding_all rfl))
    have ltXA := HX.lt
    have ltEA := HE.lt
    have ltCA := HC.lt
    have ltVA := HV.lt
    have ltAA := HA.lt
    generalize hW : w7.alloc (.cells #[.int .i64 s7.re.lo, .int .i64 s7.re.hi, .int .i64 s7.im.lo, .int .i64 s7.im.hi] 25) = w8 at HX HE HC HV HA bw ⊢
    clear hW
    have lw8 : w.heap.size ≤ w8.heap.size := bw.size
    replace HX : Hd (w8.drew) w.heap.size 25 #[.int .i64 0, .int .i64 0, .int .i64 0, .int .i64 0] := by (with_reducible repeat' (first | assumption | (apply hdN; (try simp only [sA, sS, sD]); done) | apply hdA | apply hdD | apply hdS | (apply hdF; case hp => first | (simp; done) | (simp; omega)) | with_unfolding_all rfl))
    replace HE : Hd (w8.drew) (w.heap.size + 1) 26 #[.int .i64 0] := by (with_reducible repeat' (first | assumption | (apply hdN; (try simp only [sA, sS, sD]); done) | apply hdA | apply hdD | apply hdS | (apply hdF; case hp => first | (simp; done) | (simp; omega)) | with_unfolding_all rfl))
    replace HC : Hd (w8.drew) w2.heap.size 25 #[.int .i64 pt.lo, .int .i64 pt.hi, .int .i64 0, .int .i64 0] := by (with_reducible repeat' (first | assumption | (apply hdN; (try simp only [sA, sS, sD]); done) | apply hdA | apply hdD | apply hdS | (apply hdF; case hp => first | (simp; done) | (simp; omega)) | with_unfolding_all rfl))
    replace HV : Hd (w8.drew) w6.heap.size 25 #[.int .i64 s6.re.lo, .int .i64 s6.re.hi, .int .i64 s6.im.lo, .int .i64 s6.im.hi] := by (with_reducible repeat' (first | assumption | (apply hdN; (try simp only [sA, sS, sD]); done) | apply hdA | apply hdD | apply hdS | (apply hdF; case hp => first | (simp; done) | (simp; omega)) | with_unfolding_all rfl))
    replace HA : Hd (w8.drew) w7.heap.size 25 #[.int .i64 s7.re.lo, .int .i64 s7.re.hi, .int .i64 s7.im.lo, .int .i64 s7.im.hi] := by (with_reducible repeat' (first | assumption | (apply hdN; (try simp only [sA, sS, sD]); done) | apply hdA | apply hdD | apply hdS | (apply hdF; case hp => first | (simp; done) | (simp; omega)) | with_unfolding_all rfl))
    replace bw : Below w.heap.size w (w8.drew) := by go_grown
    (refine wp_region_eagD (fun w' => Hd w' w2.heap.size 25 #[.int .i64 pt.lo, .int .i64 pt.hi, .int .i64 0, .int .i64 0] ∧ Hd w' w6.heap.size 25 #[.int .i64 s6.re.lo, .int .i64 s6.re.hi, .int .i64 s6.im.lo, .int .i64 s6.im.hi] ∧ Hd w' w7.heap.size 25 #[.int .i64 s7.re.lo, .int .i64 s7.re.hi, .int .i64 s7.im.lo, .int .i64 s7.im.hi] ∧ Below w.heap.size w w') 11 [(0, true), (2, true), (3, true), (1, false), (4, false), (5, false), (6, false), (7, false), (8, false)] (by kernel_rfl) (by kernel_rfl) (fun c d v a w hd h => leaves_tmps (t := (Act.put a (some d) v).tmps) (fun w => results_cc_put (fn := Try.f27) rfl (by omega) (by omega) w) _ _ _ h) ⟨HC, HV, HA, bw⟩ ?_; simp only [List.map_cons, List.map_nil, List.getD_cons_zero, List.getD_cons_succ, flMark, Nat.reduceEqDiff, ↓reduceIte])
    repeat ((first | with_reducible apply eag_move | with_reducible apply eag_assign | ((with_reducible refine eag_soft (v := ?_) (fun w' hw' => ?_) ?_); rotate_left 1; (focus (obtain ⟨hC, hV, hA, hBw⟩ := hw'; obtain ⟨hcC, hfC⟩ := hC.facts; obtain ⟨hcV, hfV⟩ := hV.facts; obtain ⟨hcA, hfA⟩ := hA.facts; go_simp; (try with_reducible rfl); done)))); simp only [Act.put, Act.eval, List.setIfInBounds_toArray, List.set_cons_zero, List.set_cons_succ, Array.getD_eq_getD_getElem?, List.getElem?_toArray, List.getElem?_cons_zero, List.getElem?_cons_succ, Option.getD_some])
    refine eag_hard ?_
    go_wp2_with fail
    refine (point10 _).mono ?_
    rintro e w9 ⟨rfl, hb9⟩
    replace bw : Below w.heap.size w w9 := below_next bw hb9
    replace HX := HX.call hb9
    replace HE := HE.call hb9
    replace HC := HC.call hb9
    replace HV := HV.call hb9
    replace HA := HA.call hb9
    have lw9 : w.heap.size ≤ w9.heap.size := bw.size
    clear hb9
    go_wp2_with fail
    (try refine ⟨⟨HC, HV, HA, bw⟩, ?_⟩)
    repeat ((first | with_reducible apply eag_move | with_reducible apply eag_assign | ((with_reducible refine eag_soft (v := ?_) (fun w' hw' => ?_) ?_); rotate_left 1; (focus (obtain ⟨hC, hV, hA, hBw⟩ := hw'; obtain ⟨hcC, hfC⟩ := hC.facts; obtain ⟨hcV, hfV⟩ := hV.facts; obtain ⟨hcA, hfA⟩ := hA.facts; go_simp; (try with_reducible rfl); done)))); simp only [Act.put, Act.eval, List.setIfInBounds_toArray, List.set_cons_zero, List.set_cons_succ, Array.getD_eq_getD_getElem?, List.getElem?_toArray, List.getElem?_cons_zero, List.getElem?_cons_succ, Option.getD_some])
    refine eag_hard ?_
    go_wp2_with fail
    refine (times_any ⟨pt, ⟨0, 0⟩⟩ s6 fT fV _).mono ?_
    intro e w10 hp
    obtain ⟨hb10, hcase⟩ := hp.cases
    clear hp
    replace bw : Below w.heap.size w w10 := below_next bw hb10
    replace HX := HX.call hb10
    replace HE := HE.call hb10
    replace HC := HC.call hb10
    replace HV := HV.call hb10
    replace HA := HA.call hb10
    have lw10 : w.heap.size ≤ w10.heap.size := bw.size
    clear hb10
    rcases hcase with ⟨s10, hs10, rfl⟩ | ⟨c10, hs10, rfl⟩
    rotate_left
    · refine leaves_cons (f := 62) (args := #[.pointer (some ⟨w.heap.size + 1, 0, none⟩)]) (by simp) (by simp [go_sem]) ?_
      refine (guard_panicking _ _ _ _ HE).mono ?_
      rintro e u' w'' ⟨rfl, rfl, rfl⟩
      exact ⟨_, run_results_ce rfl rfl (by (show Hd _ (w.heap.size) 25 #[.int .i64 0, .int .i64 0, .int .i64 0, .int .i64 0]); (with_reducible repeat' (first | assumption | (apply hdN; (try simp only [sA, sS, sD]); done) | apply hdA | apply hdD | apply hdS | (apply hdF; case hp => first | (simp; done) | (simp; omega)) | with_unfolding_all rfl))) Try.underlying25 rfl (by kernel_rfl) rfl (by (show Hd _ (w.heap.size + 1) 26 #[.int .i64 (c10)]); (with_reducible repeat' (first | assumption | (apply hdN; (try simp only [sA, sS, sD]); done) | apply hdA | apply hdD | apply hdS | (apply hdF; case hp => first | (simp; done) | (simp; omega)) | with_unfolding_all rfl))) Try.underlying26, (by simp only [En.ringCore, hs6.out, hs7.out, hs10, ebind_ok, ebind_err]; rfl), by go_grown⟩
    replace hs10 := Lib.hid hs10
    go_wp2_with fail
    (try refine ⟨⟨HC, HV, HA, bw⟩, ?_⟩)
    repeat ((first | with_reducible apply eag_move | with_reducible apply eag_assign | ((with_reducible refine eag_soft (v := ?_) (fun w' hw' => ?_) ?_); rotate_left 1; (focus (obtain ⟨hC, hV, hA, hBw⟩ := hw'; obtain ⟨hcC, hfC⟩ := hC.facts; obtain ⟨hcV, hfV⟩ := hV.facts; obtain ⟨hcA, hfA⟩ := hA.facts; go_simp; (try with_reducible rfl); done)))); simp only [Act.put, Act.eval, List.setIfInBounds_toArray, List.set_cons_zero, List.set_cons_succ, Array.getD_eq_getD_getElem?, List.getElem?_toArray, List.getElem?_cons_zero, List.getElem?_cons_succ, Option.getD_some])
    refine eag_hard ?_
    go_wp2_with fail
    refine (minus_any ⟨⟨1073741824, 1073741824⟩, ⟨0, 0⟩⟩ s10 (En.Rc.fit_of_ok (by decide)) (En.Rc.fit_of_ok (En.times_ok hs10.out)) _).mono ?_
    intro e w11 hp
    obtain ⟨hb11, hcase⟩ := hp.cases
    clear hp
    replace bw : Below w.heap.size w w11 := below_next bw hb11
    replace HX := HX.call hb11
    replace HE := HE.call hb11
    replace HC := HC.call hb11
    replace HV := HV.call hb11
    replace HA := HA.call hb11
    have lw11 : w.heap.size ≤ w11.heap.size := bw.size
    clear hb11
    rcases hcase with ⟨s11, hs11, rfl⟩ | ⟨c11, hs11, rfl⟩
    rotate_left
    · refine leaves_cons (f := 62) (args := #[.pointer (some ⟨w.heap.size + 1, 0, none⟩)]) (by simp) (by simp [go_sem]) ?_
      refine (guard_panicking _ _ _ _ HE).mono ?_
      rintro e u' w'' ⟨rfl, rfl, rfl⟩
      exact ⟨_, run_results_ce rfl rfl (by (show Hd _ (w.heap.size) 25 #[.int .i64 0, .int .i64 0, .int .i64 0, .int .i64 0]); (with_reducible repeat' (first | assumption | (apply hdN; (try simp only [sA, sS, sD]); done) | apply hdA | apply hdD | apply hdS | (apply hdF; case hp => first | (simp; done) | (simp; omega)) | with_unfolding_all rfl))) Try.underlying25 rfl (by kernel_rfl) rfl (by (show Hd _ (w.heap.size + 1) 26 #[.int .i64 (c11)]); (with_reducible repeat' (first | assumption | (apply hdN; (try simp only [sA, sS, sD]); done) | apply hdA | apply hdD | apply hdS | (apply hdF; case hp => first | (simp; done) | (simp; omega)) | with_unfolding_all rfl))) Try.underlying26, (by simp only [En.ringCore, hs6.out, hs7.out, hs10.out, hs11, ebind_ok, ebind_err]; rfl), by go_grown⟩
    replace hs11 := Lib.hid hs11
    go_wp2_with fail
    (try refine ⟨⟨HC, HV, HA, bw⟩, ?_⟩)
    repeat ((first | with_reducible apply eag_move | with_reducible apply eag_assign | ((with_reducible refine eag_soft (v := ?_) (fun w' hw' => ?_) ?_); rotate_left 1; (focus (obtain ⟨hC, hV, hA, hBw⟩ := hw'; obtain ⟨hcC, hfC⟩ := hC.facts; obtain ⟨hcV, hfV⟩ := hV.facts; obtain ⟨hcA, hfA⟩ := hA.facts; go_simp; (try with_reducible rfl); done)))); simp only [Act.put, Act.eval, List.setIfInBounds_toArray, List.set_cons_zero, List.set_cons_succ, Array.getD_eq_getD_getElem?, List.getElem?_toArray, List.getElem?_cons_zero, List.getElem?_cons_succ, Option.getD_some])
    refine eag_hard ?_
    go_wp2_with fail
    refine (quotient_any s7 s11 fP (En.Rc.fit_of_ok (En.minus_ok hs11.out)) _).mono ?_
    intro e w12 hp
    obtain ⟨hb12, hcase⟩ := hp.cases
    clear hp
    replace bw : Below w.heap.size w w12 := below_next bw hb12
    replace HX := HX.call hb12
    replace HE := HE.call hb12
    replace HC := HC.call hb12
    replace HV := HV.call hb12
    replace HA := HA.call hb12
    have lw12 : w.heap.size ≤ w12.heap.size := bw.size
    clear hb12
    rcases hcase with ⟨s12, hs12, rfl⟩ | ⟨c12, hs12, rfl⟩
    rotate_left
    · refine leaves_cons (f := 62) (args := #[.pointer (some ⟨w.heap.size + 1, 0, none⟩)]) (by simp) (by simp [go_sem]) ?_
      refine (guard_panicking _ _ _ _ HE).mono ?_
      rintro e u' w'' ⟨rfl, rfl, rfl⟩
      exact ⟨_, run_results_ce rfl rfl (by (show Hd _ (w.heap.size) 25 #[.int .i64 0, .int .i64 0, .int .i64 0, .int .i64 0]); (with_reducible repeat' (first | assumption | (apply hdN; (try simp only [sA, sS, sD]); done) | apply hdA | apply hdD | apply hdS | (apply hdF; case hp => first | (simp; done) | (simp; omega)) | with_unfolding_all rfl))) Try.underlying25 rfl (by kernel_rfl) rfl (by (show Hd _ (w.heap.size + 1) 26 #[.int .i64 (c12)]); (with_reducible repeat' (first | assumption | (apply hdN; (try simp only [sA, sS, sD]); done) | apply hdA | apply hdD | apply hdS | (apply hdF; case hp => first | (simp; done) | (simp; omega)) | with_unfolding_all rfl))) Try.underlying26, (by simp only [En.ringCore, hs6.out, hs7.out, hs10.out, hs11.out, hs12, ebind_ok, ebind_err]; rfl), by go_grown⟩
    replace hs12 := Lib.hid hs12
    go_wp2_with fail
    (try refine ⟨⟨HC, HV, HA, bw⟩, ?_⟩)
    repeat ((first | with_reducible apply eag_move | with_reducible apply eag_assign | ((with_reducible refine eag_soft (v := ?_) (fun w' hw' => ?_) ?_); rotate_left 1; (focus (obtain ⟨hC, hV, hA, hBw⟩ := hw'; obtain ⟨hcC, hfC⟩ := hC.facts; obtain ⟨hcV, hfV⟩ := hV.facts; obtain ⟨hcA, hfA⟩ := hA.facts; go_simp; (try with_reducible rfl); done)))); simp only [Act.put, Act.eval, List.setIfInBounds_toArray, List.set_cons_zero, List.set_cons_succ, Array.getD_eq_getD_getElem?, List.getElem?_toArray, List.getElem?_cons_zero, List.getElem?_cons_succ, Option.getD_some])
    obtain ⟨hcX, hfX⟩ := HX.facts
    refine eag_hard ?_
    go_wp2_with fail
    have PX := HX
    have PE := HE
    have PC := HC
    have PV := HV
    have PA := HA
    have Pbw := bw
    replace HX : Hd ((((w12.setCell ⟨w.heap.size, 0, none⟩ (.int .i64 s12.re.lo)).setCell ⟨w.heap.size, 1, none⟩ (.int .i64 s12.re.hi)).setCell ⟨w.heap.size, 2, none⟩ (.int .i64 s12.im.lo)).setCell ⟨w.heap.size, 3, none⟩ (.int .i64 s12.im.hi)) w.heap.size 25 #[.int .i64 s12.re.lo, .int .i64 s12.re.hi, .int .i64 s12.im.lo, .int .i64 s12.im.hi] := by (with_reducible repeat' (first | assumption | (apply hdN; (try simp only [sA, sS, sD]); done) | apply hdA | apply hdD | apply hdS | (apply hdF; case hp => first | (simp; done) | (simp; omega)) | with_unfolding_all rfl))
    replace HE : Hd ((((w12.setCell ⟨w.heap.size, 0, none⟩ (.int .i64 s12.re.lo)).setCell ⟨w.heap.size, 1, none⟩ (.int .i64 s12.re.hi)).setCell ⟨w.heap.size, 2, none⟩ (.int .i64 s12.im.lo)).setCell ⟨w.heap.size, 3, none⟩ (.int .i64 s12.im.hi)) (w.heap.size + 1) 26 #[.int .i64 0] := by (with_reducible repeat' (first | assumption | (apply hdN; (try simp only [sA, sS, sD]); done) | apply hdA | apply hdD | apply hdS | (apply hdF; case hp => first | (simp; done) | (simp; omega)) | with_unfolding_all rfl))
    replace HC : Hd ((((w12.setCell ⟨w.heap.size, 0, none⟩ (.int .i64 s12.re.lo)).setCell ⟨w.heap.size, 1, none⟩ (.int .i64 s12.re.hi)).setCell ⟨w.heap.size, 2, none⟩ (.int .i64 s12.im.lo)).setCell ⟨w.heap.size, 3, none⟩ (.int .i64 s12.im.hi)) w2.heap.size 25 #[.int .i64 pt.lo, .int .i64 pt.hi, .int .i64 0, .int .i64 0] := by (with_reducible repeat' (first | assumption | (apply hdN; (try simp only [sA, sS, sD]); done) | apply hdA | apply hdD | apply hdS | (apply hdF; case hp => first | (simp; done) | (simp; omega)) | with_unfolding_all rfl))
    replace HV : Hd ((((w12.setCell ⟨w.heap.size, 0, none⟩ (.int .i64 s12.re.lo)).setCell ⟨w.heap.size, 1, none⟩ (.int .i64 s12.re.hi)).setCell ⟨w.heap.size, 2, none⟩ (.int .i64 s12.im.lo)).setCell ⟨w.heap.size, 3, none⟩ (.int .i64 s12.im.hi)) w6.heap.size 25 #[.int .i64 s6.re.lo, .int .i64 s6.re.hi, .int .i64 s6.im.lo, .int .i64 s6.im.hi] := by (with_reducible repeat' (first | assumption | (apply hdN; (try simp only [sA, sS, sD]); done) | apply hdA | apply hdD | apply hdS | (apply hdF; case hp => first | (simp; done) | (simp; omega)) | with_unfolding_all rfl))
    replace HA : Hd ((((w12.setCell ⟨w.heap.size, 0, none⟩ (.int .i64 s12.re.lo)).setCell ⟨w.heap.size, 1, none⟩ (.int .i64 s12.re.hi)).setCell ⟨w.heap.size, 2, none⟩ (.int .i64 s12.im.lo)).setCell ⟨w.heap.size, 3, none⟩ (.int .i64 s12.im.hi)) w7.heap.size 25 #[.int .i64 s7.re.lo, .int .i64 s7.re.hi, .int .i64 s7.im.lo, .int .i64 s7.im.hi] := by (with_reducible repeat' (first | assumption | (apply hdN; (try simp only [sA, sS, sD]); done) | apply hdA | apply hdD | apply hdS | (apply hdF; case hp => first | (simp; done) | (simp; omega)) | with_unfolding_all rfl))
    replace bw : Below w.heap.size w ((((w12.setCell ⟨w.heap.size, 0, none⟩ (.int .i64 s12.re.lo)).setCell ⟨w.heap.size, 1, none⟩ (.int .i64 s12.re.hi)).setCell ⟨w.heap.size, 2, none⟩ (.int .i64 s12.im.lo)).setCell ⟨w.heap.size, 3, none⟩ (.int .i64 s12.im.hi)) := by go_grown
    (try refine ⟨⟨HC, HV, HA, bw⟩, ?_⟩)
    repeat ((first | with_reducible apply eag_move | with_reducible apply eag_assign | ((with_reducible refine eag_soft (v := ?_) (fun w' hw' => ?_) ?_); rotate_left 1; (focus (obtain ⟨hC, hV, hA, hBw⟩ := hw'; obtain ⟨hcC, hfC⟩ := hC.facts; obtain ⟨hcV, hfV⟩ := hV.facts; obtain ⟨hcA, hfA⟩ := hA.facts; go_simp; (try with_reducible rfl); done)))); simp only [Act.put, Act.eval, List.setIfInBounds_toArray, List.set_cons_zero, List.set_cons_succ, Array.getD_eq_getD_getElem?, List.getElem?_toArray, List.getElem?_cons_zero, List.getElem?_cons_succ, Option.getD_some])
    generalize hW : (((w12.setCell ⟨w.heap.size, 0, none⟩ (.int .i64 s12.re.lo)).setCell ⟨w.heap.size, 1, none⟩ (.int .i64 s12.re.hi)).setCell ⟨w.heap.size, 2, none⟩ (.int .i64 s12.im.lo)).setCell ⟨w.heap.size, 3, none⟩ (.int .i64 s12.im.hi) = w13 at HX HE HC HV HA bw ⊢
    clear hW
    have lw13 : w.heap.size ≤ w13.heap.size := bw.size
    obtain ⟨hcE, hfE⟩ := HE.facts
    refine eag_hard ?_
    go_wp2_with fail
    have PX := HX
    have PE := HE
    have PC := HC
    have PV := HV
    have PA := HA
    have Pbw := bw
    replace HX : Hd (w13.setCell ⟨(w.heap.size + 1), 0, none⟩ (.int .i64 0)) w.heap.size 25 #[.int .i64 s12.re.lo, .int .i64 s12.re.hi, .int .i64 s12.im.lo, .int .i64 s12.im.hi] := by (with_reducible repeat' (first | assumption | (apply hdN; (try simp only [sA, sS, sD]); done) | apply hdA | apply hdD | apply hdS | (apply hdF; case hp => first | (simp; done) | (simp; omega)) | with_unfolding_all rfl))
    replace HE : Hd (w13.setCell ⟨(w.heap.size + 1), 0, none⟩ (.int .i64 0)) (w.heap.size + 1) 26 #[.int .i64 0] := by (with_reducible repeat' (first | assumption | (apply hdN; (try simp only [sA, sS, sD]); done) | apply hdA | apply hdD | apply hdS | (apply hdF; case hp => first | (simp; done) | (simp; omega)) | with_unfolding_all rfl))
    replace HC : Hd (w13.setCell ⟨(w.heap.size + 1), 0, none⟩ (.int .i64 0)) w2.heap.size 25 #[.int .i64 pt.lo, .int .i64 pt.hi, .int .i64 0, .int .i64 0] := by (with_reducible repeat' (first | assumption | (apply hdN; (try simp only [sA, sS, sD]); done) | apply hdA | apply hdD | apply hdS | (apply hdF; case hp => first | (simp; done) | (simp; omega)) | with_unfolding_all rfl))
    replace HV : Hd (w13.setCell ⟨(w.heap.size + 1), 0, none⟩ (.int .i64 0)) w6.heap.size 25 #[.int .i64 s6.re.lo, .int .i64 s6.re.hi, .int .i64 s6.im.lo, .int .i64 s6.im.hi] := by (with_reducible repeat' (first | assumption | (apply hdN; (try simp only [sA, sS, sD]); done) | apply hdA | apply hdD | apply hdS | (apply hdF; case hp => first | (simp; done) | (simp; omega)) | with_unfolding_all rfl))
    replace HA : Hd (w13.setCell ⟨(w.heap.size + 1), 0, none⟩ (.int .i64 0)) w7.heap.size 25 #[.int .i64 s7.re.lo, .int .i64 s7.re.hi, .int .i64 s7.im.lo, .int .i64 s7.im.hi] := by (with_reducible repeat' (first | assumption | (apply hdN; (try simp only [sA, sS, sD]); done) | apply hdA | apply hdD | apply hdS | (apply hdF; case hp => first | (simp; done) | (simp; omega)) | with_unfolding_all rfl))
    replace bw : Below w.heap.size w (w13.setCell ⟨(w.heap.size + 1), 0, none⟩ (.int .i64 0)) := by go_grown
    (try refine ⟨⟨HC, HV, HA, bw⟩, ?_⟩)
    repeat ((first | with_reducible apply eag_move | with_reducible apply eag_assign | ((with_reducible refine eag_soft (v := ?_) (fun w' hw' => ?_) ?_); rotate_left 1; (focus (obtain ⟨hC, hV, hA, hBw⟩ := hw'; obtain ⟨hcC, hfC⟩ := hC.facts; obtain ⟨hcV, hfV⟩ := hV.facts; obtain ⟨hcA, hfA⟩ := hA.facts; go_simp; (try with_reducible rfl); done)))); simp only [Act.put, Act.eval, List.setIfInBounds_toArray, List.set_cons_zero, List.set_cons_succ, Array.getD_eq_getD_getElem?, List.getElem?_toArray, List.getElem?_cons_zero, List.getElem?_cons_succ, Option.getD_some])
    refine eag_nil ?_
    generalize hW : w13.setCell ⟨(w.heap.size + 1), 0, none⟩ (.int .i64 0) = w14 at HX HE HC HV HA bw ⊢
    clear hW
    have lw14 : w.heap.size ≤ w14.heap.size := bw.size
    obtain ⟨hcX, hfX⟩ := HX.facts
    obtain ⟨hcE, hfE⟩ := HE.facts
    go_wp2
    refine leaves_cons (f := 62) (args := #[.pointer (some ⟨w.heap.size + 1, 0, none⟩)]) (by simp) (by simp [go_sem]) ?_
    refine (guard_idle _ _).mono ?_
    rintro e u' w'' ⟨rfl, rfl, rfl⟩
    exact ⟨_, run_results_ce rfl rfl (by (show Hd _ (w.heap.size) 25 #[.int .i64 s12.re.lo, .int .i64 s12.re.hi, .int .i64 s12.im.lo, .int .i64 s12.im.hi]); (with_reducible repeat' (first | assumption | (apply hdN; (try simp only [sA, sS, sD]); done) | apply hdA | apply hdD | apply hdS | (apply hdF; case hp => first | (simp; done) | (simp; omega)) | with_unfolding_all rfl))) Try.underlying25 rfl (by kernel_rfl) rfl (by (show Hd _ (w.heap.size + 1) 26 #[.int .i64 (0)]); (with_reducible repeat' (first | assumption | (apply hdN; (try simp only [sA, sS, sD]); done) | apply hdA | apply hdD | apply hdS | (apply hdF; case hp => first | (simp; done) | (simp; omega)) | with_unfolding_all rfl))) Try.underlying26, (by simp only [En.ringCore, hs6.out, hs7.out, hs10.out, hs11.out, hs12.out, ebind_ok, ebind_err]; rfl), by go_grown⟩
  · have hr : ringR t a u = (⟨⟨0, 0⟩, ⟨0, 0⟩⟩, 2) := if_neg hin
    rw [hr]
    clear hr hu
    have hc : t < 0 ∨ (0 ≤ t ∧ 1000000 < t) ∨ (0 ≤ t ∧ t ≤ 1000000 ∧ a < 0) ∨ (0 ≤ t ∧ t ≤ 1000000 ∧ 0 ≤ a ∧ 1000000 < a) := by omega
    clear hin
    rcases hc with h1 | ⟨h1, h2⟩ | ⟨h1, h2, h3⟩ | ⟨h1, h2, h3, h4⟩
    all_goals
      go_enter_defers Try.func27, Try.ntmps27
      go_wp2
      exact ⟨_, run_results_ce rfl rfl (by (show Hd _ (w.heap.size) 25 #[.int .i64 0, .int .i64 0, .int .i64 0, .int .i64 0]); (with_reducible repeat' (first | assumption | (apply hdN; (try simp only [sA, sS, sD]); done) | apply hdA | apply hdD | apply hdS | (apply hdF; case hp => first | (simp; done) | (simp; omega)) | with_unfolding_all rfl))) Try.underlying25 rfl (by kernel_rfl) rfl (by (show Hd _ (w.heap.size + 1) 26 #[.int .i64 (2)]); (with_reducible repeat' (first | assumption | (apply hdN; (try simp only [sA, sS, sD]); done) | apply hdA | apply hdD | apply hdS | (apply hdF; case hp => first | (simp; done) | (simp; omega)) | with_unfolding_all rfl))) Try.underlying26, rfl, by go_grown⟩
end Go.Proofs.Ytpbbbfglecbceaa
