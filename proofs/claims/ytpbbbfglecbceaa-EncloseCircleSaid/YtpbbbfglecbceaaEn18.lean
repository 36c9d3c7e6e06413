/- Package enclose: what lies in what, what both enclose, how wide it is. -/
import Derived.Test.YtpbbbfglecbceaaEn12
namespace Go.Proofs.Ytpbbbfglecbceaa
set_option linter.all false
open Go.RowKit

def En.within (s t : En.Sp) : Bool := decide (t.lo ≤ s.lo) && decide (s.hi ≤ t.hi)
def En.cap (s t : En.Sp) : En.Sp := ⟨max s.lo t.lo, min s.hi t.hi⟩
def inR (x y : En.Rc) : Bool × Int := if x.ok && y.ok then (En.within x.re y.re && En.within x.im y.im, 0) else (false, 50)
def capR (x y : En.Rc) : En.Rc × Bool × Int :=
  if x.ok && y.ok then (if (⟨En.cap x.re y.re, En.cap x.im y.im⟩ : En.Rc).ok then (⟨En.cap x.re y.re, En.cap x.im y.im⟩, true, 0) else (⟨⟨0, 0⟩, ⟨0, 0⟩⟩, false, 0)) else (⟨⟨0, 0⟩, ⟨0, 0⟩⟩, false, 50)
def widthR (x : En.Rc) : Int × Int := if x.ok then (max (x.re.hi - x.re.lo) (x.im.hi - x.im.lo), 0) else (0, 50)

theorem within_any (s t : En.Sp) (w : World) : Calls Try.prog 86 #[spV s, spV t] w fun e w' => e = .returned (.bool (En.within s t)) ∧ Below w.heap.size w w' := by
  unfold En.within
  by_cases h1 : t.lo ≤ s.lo
  · by_cases h2 : s.hi ≤ t.hi
    · rw [decide_eq_true h1, decide_eq_true h2]
      go_enter Try.func86, Try.ntmps86
      go_wp2
      go_ret
      exact ⟨rfl, by go_grown⟩
    · rw [decide_eq_true h1, decide_eq_false h2]
      go_enter Try.func86, Try.ntmps86
      go_wp2
      go_ret
      exact ⟨rfl, by go_grown⟩
  · rw [decide_eq_false h1]
    go_enter Try.func86, Try.ntmps86
    go_wp2
    go_ret
    exact ⟨rfl, by go_grown⟩

theorem meet_any (s t : En.Sp) (w : World) : Calls Try.prog 88 #[spV s, spV t] w fun e w' => e = .returned (spV (En.cap s t)) ∧ Below w.heap.size w w' := by
  go_enter Try.func88, Try.ntmps88
  go_wp2
  refine bodyPost_ret (run_results1 rfl rfl (by (show Hd _ (w.heap.size + 2) 23 #[.int .i64 (max s.lo t.lo), .int .i64 (min s.hi t.hi)]); exact hdx) Try.underlying23 rfl (by kernel_rfl)) rfl ⟨rfl, by go_grown⟩

theorem insideE_any (x y : En.Rc) (w : World) : Calls Try.prog 33 #[rcV x, rcV y] w fun e w' => e = .returned (.tuple #[.bool (inR x y).1, .int .i64 (inR x y).2]) ∧ Below w.heap.size w w' := by
  have CV := validR2_any x y
  unfold inR
  have CA := within_any x.re y.re
  have CB := within_any x.im y.im
  obtain ⟨a, ha⟩ : ∃ a, En.within x.re y.re = a := ⟨_, rfl⟩
  obtain ⟨b, hb⟩ : ∃ b, En.within x.im y.im = b := ⟨_, rfl⟩
  rw [ha] at CA
  rw [hb] at CB
  rw [ha, hb]
  clear ha hb
  replace CA := Lib.hid CA
  replace CB := Lib.hid CB
  cases hv : (x.ok && y.ok) <;> rw [hv] at CV <;> clear hv <;> replace CV := Lib.hid CV
  · go_enter Try.func33, Try.ntmps33
    go_wp2_with fail
    have HA : Hd (((w.alloc (.cells #[.int .i64 x.re.lo, .int .i64 x.re.hi, .int .i64 x.im.lo, .int .i64 x.im.hi] 25)).alloc (.cells #[.int .i64 y.re.lo, .int .i64 y.re.hi, .int .i64 y.im.lo, .int .i64 y.im.hi] 25)).alloc (.cells #[.int .i64 x.re.lo, .int .i64 x.re.hi, .int .i64 x.im.lo, .int .i64 x.im.hi, .int .i64 y.re.lo, .int .i64 y.re.hi, .int .i64 y.im.lo, .int .i64 y.im.hi] 25)) w.heap.size 25 #[.int .i64 x.re.lo, .int .i64 x.re.hi, .int .i64 x.im.lo, .int .i64 x.im.hi] := hdx
    have HB : Hd (((w.alloc (.cells #[.int .i64 x.re.lo, .int .i64 x.re.hi, .int .i64 x.im.lo, .int .i64 x.im.hi] 25)).alloc (.cells #[.int .i64 y.re.lo, .int .i64 y.re.hi, .int .i64 y.im.lo, .int .i64 y.im.hi] 25)).alloc (.cells #[.int .i64 x.re.lo, .int .i64 x.re.hi, .int .i64 x.im.lo, .int .i64 x.im.hi, .int .i64 y.re.lo, .int .i64 y.re.hi, .int .i64 y.im.lo, .int .i64 y.im.hi] 25)) (w.heap.size + 1) 25 #[.int .i64 y.re.lo, .int .i64 y.re.hi, .int .i64 y.im.lo, .int .i64 y.im.hi] := hdx
    have HV : Hd (((w.alloc (.cells #[.int .i64 x.re.lo, .int .i64 x.re.hi, .int .i64 x.im.lo, .int .i64 x.im.hi] 25)).alloc (.cells #[.int .i64 y.re.lo, .int .i64 y.re.hi, .int .i64 y.im.lo, .int .i64 y.im.hi] 25)).alloc (.cells #[.int .i64 x.re.lo, .int .i64 x.re.hi, .int .i64 x.im.lo, .int .i64 x.im.hi, .int .i64 y.re.lo, .int .i64 y.re.hi, .int .i64 y.im.lo, .int .i64 y.im.hi] 25)) (w.heap.size + 2) 25 #[.int .i64 x.re.lo, .int .i64 x.re.hi, .int .i64 x.im.lo, .int .i64 x.im.hi, .int .i64 y.re.lo, .int .i64 y.re.hi, .int .i64 y.im.lo, .int .i64 y.im.hi] := hdx
    have bw : Below w.heap.size w (((w.alloc (.cells #[.int .i64 x.re.lo, .int .i64 x.re.hi, .int .i64 x.im.lo, .int .i64 x.im.hi] 25)).alloc (.cells #[.int .i64 y.re.lo, .int .i64 y.re.hi, .int .i64 y.im.lo, .int .i64 y.im.hi] 25)).alloc (.cells #[.int .i64 x.re.lo, .int .i64 x.re.hi, .int .i64 x.im.lo, .int .i64 x.im.hi, .int .i64 y.re.lo, .int .i64 y.re.hi, .int .i64 y.im.lo, .int .i64 y.im.hi] 25)) := by go_grown
    refine (CV.out _ _ _ HV).mono ?_
    rintro e w1 ⟨rfl, hb1⟩
    replace bw : Below w.heap.size w w1 := below_next bw hb1
    replace HA := HA.call hb1
    replace HB := HB.call hb1
    replace HV := HV.call hb1
    have lw1 : w.heap.size ≤ w1.heap.size := bw.size
    clear hb1
    obtain ⟨hcA, hfA⟩ := HA.facts
    obtain ⟨hcB, hfB⟩ := HB.facts
    go_wp2_with fail
    go_ret2
    exact ⟨rfl, by go_grown⟩
  · go_enter Try.func33, Try.ntmps33
    go_wp2_with fail
    have HA : Hd (((w.alloc (.cells #[.int .i64 x.re.lo, .int .i64 x.re.hi, .int .i64 x.im.lo, .int .i64 x.im.hi] 25)).alloc (.cells #[.int .i64 y.re.lo, .int .i64 y.re.hi, .int .i64 y.im.lo, .int .i64 y.im.hi] 25)).alloc (.cells #[.int .i64 x.re.lo, .int .i64 x.re.hi, .int .i64 x.im.lo, .int .i64 x.im.hi, .int .i64 y.re.lo, .int .i64 y.re.hi, .int .i64 y.im.lo, .int .i64 y.im.hi] 25)) w.heap.size 25 #[.int .i64 x.re.lo, .int .i64 x.re.hi, .int .i64 x.im.lo, .int .i64 x.im.hi] := hdx
    have HB : Hd (((w.alloc (.cells #[.int .i64 x.re.lo, .int .i64 x.re.hi, .int .i64 x.im.lo, .int .i64 x.im.hi] 25)).alloc (.cells #[.int .i64 y.re.lo, .int .i64 y.re.hi, .int .i64 y.im.lo, .int .i64 y.im.hi] 25)).alloc (.cells #[.int .i64 x.re.lo, .int .i64 x.re.hi, .int .i64 x.im.lo, .int .i64 x.im.hi, .int .i64 y.re.lo, .int .i64 y.re.hi, .int .i64 y.im.lo, .int .i64 y.im.hi] 25)) (w.heap.size + 1) 25 #[.int .i64 y.re.lo, .int .i64 y.re.hi, .int .i64 y.im.lo, .int .i64 y.im.hi] := hdx
    have HV : Hd (((w.alloc (.cells #[.int .i64 x.re.lo, .int .i64 x.re.hi, .int .i64 x.im.lo, .int .i64 x.im.hi] 25)).alloc (.cells #[.int .i64 y.re.lo, .int .i64 y.re.hi, .int .i64 y.im.lo, .int .i64 y.im.hi] 25)).alloc (.cells #[.int .i64 x.re.lo, .int .i64 x.re.hi, .int .i64 x.im.lo, .int .i64 x.im.hi, .int .i64 y.re.lo, .int .i64 y.re.hi, .int .i64 y.im.lo, .int .i64 y.im.hi] 25)) (w.heap.size + 2) 25 #[.int .i64 x.re.lo, .int .i64 x.re.hi, .int .i64 x.im.lo, .int .i64 x.im.hi, .int .i64 y.re.lo, .int .i64 y.re.hi, .int .i64 y.im.lo, .int .i64 y.im.hi] := hdx
    have bw : Below w.heap.size w (((w.alloc (.cells #[.int .i64 x.re.lo, .int .i64 x.re.hi, .int .i64 x.im.lo, .int .i64 x.im.hi] 25)).alloc (.cells #[.int .i64 y.re.lo, .int .i64 y.re.hi, .int .i64 y.im.lo, .int .i64 y.im.hi] 25)).alloc (.cells #[.int .i64 x.re.lo, .int .i64 x.re.hi, .int .i64 x.im.lo, .int .i64 x.im.hi, .int .i64 y.re.lo, .int .i64 y.re.hi, .int .i64 y.im.lo, .int .i64 y.im.hi] 25)) := by go_grown
    refine (CV.out _ _ _ HV).mono ?_
    rintro e w1 ⟨rfl, hb1⟩
    replace bw : Below w.heap.size w w1 := below_next bw hb1
    replace HA := HA.call hb1
    replace HB := HB.call hb1
    replace HV := HV.call hb1
    have lw1 : w.heap.size ≤ w1.heap.size := bw.size
    clear hb1
    obtain ⟨hcA, hfA⟩ := HA.facts
    obtain ⟨hcB, hfB⟩ := HB.facts
    go_wp2_with fail
    refine (CA.out _).mono ?_
    rintro e w2 ⟨rfl, hb2⟩
    replace bw : Below w.heap.size w w2 := below_next bw hb2
    replace HA := HA.call hb2
    replace HB := HB.call hb2
    replace HV := HV.call hb2
    have lw2 : w.heap.size ≤ w2.heap.size := bw.size
    clear hb2
    obtain ⟨hcA, hfA⟩ := HA.facts
    obtain ⟨hcB, hfB⟩ := HB.facts
    cases a
    · go_wp2_with fail
      go_ret2
      exact ⟨rfl, by go_grown⟩
    · go_wp2_with fail
      refine (CB.out _).mono ?_
      rintro e w3 ⟨rfl, hb3⟩
      replace bw : Below w.heap.size w w3 := below_next bw hb3
      replace HA := HA.call hb3
      replace HB := HB.call hb3
      replace HV := HV.call hb3
      have lw3 : w.heap.size ≤ w3.heap.size := bw.size
      clear hb3
      obtain ⟨hcA, hfA⟩ := HA.facts
      obtain ⟨hcB, hfB⟩ := HB.facts
      cases b
      all_goals
        go_wp2_with fail
        go_ret2
        exact ⟨rfl, by go_grown⟩

theorem widthE_any (x : En.Rc) (w : World) : Calls Try.prog 37 #[rcV x] w fun e w' => e = .returned (.tuple #[.int .i64 (widthR x).1, .int .i64 (widthR x).2]) ∧ Below w.heap.size w w' := by
  have CV := validR1_any x
  unfold widthR
  cases hv : x.ok
  · rw [hv] at CV
    clear hv
    replace CV := Lib.hid CV
    go_enter Try.func37, Try.ntmps37
    go_wp2_with fail
    have HA : Hd ((w.alloc (.cells #[.int .i64 x.re.lo, .int .i64 x.re.hi, .int .i64 x.im.lo, .int .i64 x.im.hi] 25)).alloc (.cells #[.int .i64 x.re.lo, .int .i64 x.re.hi, .int .i64 x.im.lo, .int .i64 x.im.hi] 25)) w.heap.size 25 #[.int .i64 x.re.lo, .int .i64 x.re.hi, .int .i64 x.im.lo, .int .i64 x.im.hi] := hdx
    have HV : Hd ((w.alloc (.cells #[.int .i64 x.re.lo, .int .i64 x.re.hi, .int .i64 x.im.lo, .int .i64 x.im.hi] 25)).alloc (.cells #[.int .i64 x.re.lo, .int .i64 x.re.hi, .int .i64 x.im.lo, .int .i64 x.im.hi] 25)) (w.heap.size + 1) 25 #[.int .i64 x.re.lo, .int .i64 x.re.hi, .int .i64 x.im.lo, .int .i64 x.im.hi] := hdx
    have bw : Below w.heap.size w ((w.alloc (.cells #[.int .i64 x.re.lo, .int .i64 x.re.hi, .int .i64 x.im.lo, .int .i64 x.im.hi] 25)).alloc (.cells #[.int .i64 x.re.lo, .int .i64 x.re.hi, .int .i64 x.im.lo, .int .i64 x.im.hi] 25)) := by go_grown
    refine (CV.out _ _ _ HV).mono ?_
    rintro e w1 ⟨rfl, hb1⟩
    replace bw : Below w.heap.size w w1 := below_next bw hb1
    replace HA := HA.call hb1
    replace HV := HV.call hb1
    have lw1 : w.heap.size ≤ w1.heap.size := bw.size
    clear hb1
    obtain ⟨hcA, hfA⟩ := HA.facts
    go_wp2_with fail
    go_ret2
    exact ⟨rfl, by go_grown⟩
  · have hfit := En.Rc.fit_of_ok hv
    obtain ⟨⟨a1, a2, a3, a4⟩, b1, b2, b3, b4⟩ := hfit
    rw [hv] at CV
    clear hv
    replace CV := Lib.hid CV
    go_enter Try.func37, Try.ntmps37
    go_wp2_with fail
    have HA : Hd ((w.alloc (.cells #[.int .i64 x.re.lo, .int .i64 x.re.hi, .int .i64 x.im.lo, .int .i64 x.im.hi] 25)).alloc (.cells #[.int .i64 x.re.lo, .int .i64 x.re.hi, .int .i64 x.im.lo, .int .i64 x.im.hi] 25)) w.heap.size 25 #[.int .i64 x.re.lo, .int .i64 x.re.hi, .int .i64 x.im.lo, .int .i64 x.im.hi] := hdx
    have HV : Hd ((w.alloc (.cells #[.int .i64 x.re.lo, .int .i64 x.re.hi, .int .i64 x.im.lo, .int .i64 x.im.hi] 25)).alloc (.cells #[.int .i64 x.re.lo, .int .i64 x.re.hi, .int .i64 x.im.lo, .int .i64 x.im.hi] 25)) (w.heap.size + 1) 25 #[.int .i64 x.re.lo, .int .i64 x.re.hi, .int .i64 x.im.lo, .int .i64 x.im.hi] := hdx
    have bw : Below w.heap.size w ((w.alloc (.cells #[.int .i64 x.re.lo, .int .i64 x.re.hi, .int .i64 x.im.lo, .int .i64 x.im.hi] 25)).alloc (.cells #[.int .i64 x.re.lo, .int .i64 x.re.hi, .int .i64 x.im.lo, .int .i64 x.im.hi] 25)) := by go_grown
    refine (CV.out _ _ _ HV).mono ?_
    rintro e w1 ⟨rfl, hb1⟩
    replace bw : Below w.heap.size w w1 := below_next bw hb1
    replace HA := HA.call hb1
    replace HV := HV.call hb1
    have lw1 : w.heap.size ≤ w1.heap.size := bw.size
    clear hb1
    obtain ⟨hcA, hfA⟩ := HA.facts
    go_wp2_with fail
    go_ret2
    exact ⟨rfl, by go_grown⟩
end Go.Proofs.Ytpbbbfglecbceaa
