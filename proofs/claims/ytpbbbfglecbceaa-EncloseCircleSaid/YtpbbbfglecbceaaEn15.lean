/- Package enclose: the exported operations that give spans. -/
import Derived.Test.YtpbbbfglecbceaaEn14
import Derived.Test.YtpbbbfglecbceaaPl3
namespace Go.Proofs.Ytpbbbfglecbceaa
set_option linter.all false
open Go.RowKit

theorem powerE_any (x : En.Rc) (w : World) : Calls Try.prog 29 #[rcV x] w fun e w' => e = .returned (spE (powerR x)) ∧ Below w.heap.size w w' := by
  have CV := validR1_any x
  cases hv : x.ok with
  | false =>
    have ht : powerR x = (⟨0, 0⟩, 50) := by unfold powerR; rw [hv]; rfl
    rw [hv] at CV
    rw [ht]
    replace CV := Lib.hid CV
    clear hv ht
    go_enter_defers Try.func29, Try.ntmps29
    go_wp2_with fail
    have HA : Hd ((((w.alloc (.cells #[.int .i64 x.re.lo, .int .i64 x.re.hi, .int .i64 x.im.lo, .int .i64 x.im.hi] 25)).alloc (.cells #[.int .i64 0, .int .i64 0] 23)).alloc (.cells #[.int .i64 0] 26)).alloc (.cells #[.int .i64 x.re.lo, .int .i64 x.re.hi, .int .i64 x.im.lo, .int .i64 x.im.hi] 25)) w.heap.size 25 #[.int .i64 x.re.lo, .int .i64 x.re.hi, .int .i64 x.im.lo, .int .i64 x.im.hi] := hdx
    have HC : Hd ((((w.alloc (.cells #[.int .i64 x.re.lo, .int .i64 x.re.hi, .int .i64 x.im.lo, .int .i64 x.im.hi] 25)).alloc (.cells #[.int .i64 0, .int .i64 0] 23)).alloc (.cells #[.int .i64 0] 26)).alloc (.cells #[.int .i64 x.re.lo, .int .i64 x.re.hi, .int .i64 x.im.lo, .int .i64 x.im.hi] 25)) (w.heap.size + 1) 23 #[.int .i64 0, .int .i64 0] := hdx
    have HE : Hd ((((w.alloc (.cells #[.int .i64 x.re.lo, .int .i64 x.re.hi, .int .i64 x.im.lo, .int .i64 x.im.hi] 25)).alloc (.cells #[.int .i64 0, .int .i64 0] 23)).alloc (.cells #[.int .i64 0] 26)).alloc (.cells #[.int .i64 x.re.lo, .int .i64 x.re.hi, .int .i64 x.im.lo, .int .i64 x.im.hi] 25)) (w.heap.size + 2) 26 #[.int .i64 0] := hdx
    have HV : Hd ((((w.alloc (.cells #[.int .i64 x.re.lo, .int .i64 x.re.hi, .int .i64 x.im.lo, .int .i64 x.im.hi] 25)).alloc (.cells #[.int .i64 0, .int .i64 0] 23)).alloc (.cells #[.int .i64 0] 26)).alloc (.cells #[.int .i64 x.re.lo, .int .i64 x.re.hi, .int .i64 x.im.lo, .int .i64 x.im.hi] 25)) (w.heap.size + 3) 25 #[.int .i64 x.re.lo, .int .i64 x.re.hi, .int .i64 x.im.lo, .int .i64 x.im.hi] := hdx
    have bw : Below w.heap.size w ((((w.alloc (.cells #[.int .i64 x.re.lo, .int .i64 x.re.hi, .int .i64 x.im.lo, .int .i64 x.im.hi] 25)).alloc (.cells #[.int .i64 0, .int .i64 0] 23)).alloc (.cells #[.int .i64 0] 26)).alloc (.cells #[.int .i64 x.re.lo, .int .i64 x.re.hi, .int .i64 x.im.lo, .int .i64 x.im.hi] 25)) := by go_grown
    refine (CV.out _ _ _ HV).mono ?_
    rintro e w1 ⟨rfl, hb1⟩
    replace bw : Below w.heap.size w w1 := below_next bw hb1
    replace HA := HA.call hb1
    replace HC := HC.call hb1
    replace HE := HE.call hb1
    replace HV := HV.call hb1
    have lw1 : w.heap.size ≤ w1.heap.size := bw.size
    clear hb1
    obtain ⟨hcA, hfA⟩ := HA.facts
    obtain ⟨hcC, hfC⟩ := HC.facts
    obtain ⟨hcE, hfE⟩ := HE.facts
    go_wp2
    exact ⟨_, run_results_ce rfl rfl (by (show Hd _ (w.heap.size + 1) 23 #[.int .i64 0, .int .i64 0]); exact hdx) Try.underlying23 rfl (by kernel_rfl) rfl (by (show Hd _ (w.heap.size + 2) 26 #[.int .i64 (50)]); exact hdx) Try.underlying26, rfl, by go_grown⟩
  | true =>
    have ht : powerR x = outS (En.power x) := by unfold powerR; rw [hv]; rfl
    rw [hv] at CV
    rw [ht]
    replace CV := Lib.hid CV
    have hop' := Lib.hid (power_any x (En.Rc.fit_of_ok hv))
    clear hv ht
    go_enter_defers Try.func29, Try.ntmps29
    go_wp2_with fail
    have HA : Hd ((((w.alloc (.cells #[.int .i64 x.re.lo, .int .i64 x.re.hi, .int .i64 x.im.lo, .int .i64 x.im.hi] 25)).alloc (.cells #[.int .i64 0, .int .i64 0] 23)).alloc (.cells #[.int .i64 0] 26)).alloc (.cells #[.int .i64 x.re.lo, .int .i64 x.re.hi, .int .i64 x.im.lo, .int .i64 x.im.hi] 25)) w.heap.size 25 #[.int .i64 x.re.lo, .int .i64 x.re.hi, .int .i64 x.im.lo, .int .i64 x.im.hi] := hdx
    have HC : Hd ((((w.alloc (.cells #[.int .i64 x.re.lo, .int .i64 x.re.hi, .int .i64 x.im.lo, .int .i64 x.im.hi] 25)).alloc (.cells #[.int .i64 0, .int .i64 0] 23)).alloc (.cells #[.int .i64 0] 26)).alloc (.cells #[.int .i64 x.re.lo, .int .i64 x.re.hi, .int .i64 x.im.lo, .int .i64 x.im.hi] 25)) (w.heap.size + 1) 23 #[.int .i64 0, .int .i64 0] := hdx
    have HE : Hd ((((w.alloc (.cells #[.int .i64 x.re.lo, .int .i64 x.re.hi, .int .i64 x.im.lo, .int .i64 x.im.hi] 25)).alloc (.cells #[.int .i64 0, .int .i64 0] 23)).alloc (.cells #[.int .i64 0] 26)).alloc (.cells #[.int .i64 x.re.lo, .int .i64 x.re.hi, .int .i64 x.im.lo, .int .i64 x.im.hi] 25)) (w.heap.size + 2) 26 #[.int .i64 0] := hdx
    have HV : Hd ((((w.alloc (.cells #[.int .i64 x.re.lo, .int .i64 x.re.hi, .int .i64 x.im.lo, .int .i64 x.im.hi] 25)).alloc (.cells #[.int .i64 0, .int .i64 0] 23)).alloc (.cells #[.int .i64 0] 26)).alloc (.cells #[.int .i64 x.re.lo, .int .i64 x.re.hi, .int .i64 x.im.lo, .int .i64 x.im.hi] 25)) (w.heap.size + 3) 25 #[.int .i64 x.re.lo, .int .i64 x.re.hi, .int .i64 x.im.lo, .int .i64 x.im.hi] := hdx
    have bw : Below w.heap.size w ((((w.alloc (.cells #[.int .i64 x.re.lo, .int .i64 x.re.hi, .int .i64 x.im.lo, .int .i64 x.im.hi] 25)).alloc (.cells #[.int .i64 0, .int .i64 0] 23)).alloc (.cells #[.int .i64 0] 26)).alloc (.cells #[.int .i64 x.re.lo, .int .i64 x.re.hi, .int .i64 x.im.lo, .int .i64 x.im.hi] 25)) := by go_grown
    refine (CV.out _ _ _ HV).mono ?_
    rintro e w1 ⟨rfl, hb1⟩
    replace bw : Below w.heap.size w w1 := below_next bw hb1
    replace HA := HA.call hb1
    replace HC := HC.call hb1
    replace HE := HE.call hb1
    replace HV := HV.call hb1
    have lw1 : w.heap.size ≤ w1.heap.size := bw.size
    clear hb1
    obtain ⟨hcA, hfA⟩ := HA.facts
    obtain ⟨hcC, hfC⟩ := HC.facts
    obtain ⟨hcE, hfE⟩ := HE.facts
    go_wp2_with fail
    refine (hop'.out _).mono ?_
    intro e w2 hp
    obtain ⟨hb2, hcase⟩ := hp.cases
    clear hp
    replace bw : Below w.heap.size w w2 := below_next bw hb2
    replace HA := HA.call hb2
    replace HC := HC.call hb2
    replace HE := HE.call hb2
    replace HV := HV.call hb2
    have lw2 : w.heap.size ≤ w2.heap.size := bw.size
    clear hb2
    rcases hcase with ⟨s, hs, rfl⟩ | ⟨c, hs, rfl⟩
    · obtain ⟨hcC, hfC⟩ := HC.facts
      obtain ⟨hcE, hfE⟩ := HE.facts
      go_wp2
      refine leaves_cons (f := 62) (args := #[.pointer (some ⟨w.heap.size + 2, 0, none⟩)]) (by simp) (by simp [go_sem]) ?_
      refine (guard_idle _ _).mono ?_
      rintro e u' w'' ⟨rfl, rfl, rfl⟩
      exact ⟨_, run_results_ce rfl rfl (by (show Hd _ (w.heap.size + 1) 23 #[.int .i64 s.lo, .int .i64 s.hi]); exact hdx) Try.underlying23 rfl (by kernel_rfl) rfl (by (show Hd _ (w.heap.size + 2) 26 #[.int .i64 (0)]); exact hdx) Try.underlying26, (by rw [hs]; rfl), by go_grown⟩
    · refine leaves_cons (f := 62) (args := #[.pointer (some ⟨w.heap.size + 2, 0, none⟩)]) (by simp) (by simp [go_sem]) ?_
      refine (guard_panicking _ _ _ _ HE).mono ?_
      rintro e u' w'' ⟨rfl, rfl, rfl⟩
      exact ⟨_, run_results_ce rfl rfl (by (show Hd _ (w.heap.size + 1) 23 #[.int .i64 0, .int .i64 0]); exact hdx) Try.underlying23 rfl (by kernel_rfl) rfl (by (show Hd _ (w.heap.size + 2) 26 #[.int .i64 (c)]); exact hdx) Try.underlying26, (by rw [hs]; rfl), by go_grown⟩
theorem partE_any (n d : Int) (w : World) : Calls Try.prog 44 #[.int .i64 n, .int .i64 d] w fun e w' => e = .returned (spE (partR n d)) ∧ Below w.heap.size w w' := by
  by_cases hv : 1 ≤ d ∧ d ≤ 1000000000 ∧ -1000000000 ≤ n ∧ n ≤ 1000000000
  · have ht : partR n d = outS (En.part n d) := if_pos hv
    rw [ht]
    clear ht
    obtain ⟨d0, d1, n0, n1⟩ := hv
    have hop' := Lib.hid (part_any n d n0 n1 d0 d1)
    go_enter_defers Try.func44, Try.ntmps44
    have HC : Hd ((w.alloc (.cells #[.int .i64 0, .int .i64 0] 23)).alloc (.cells #[.int .i64 0] 26)) w.heap.size 23 #[.int .i64 0, .int .i64 0] := hdx
    have HE : Hd ((w.alloc (.cells #[.int .i64 0, .int .i64 0] 23)).alloc (.cells #[.int .i64 0] 26)) (w.heap.size + 1) 26 #[.int .i64 0] := hdx
    have bw : Below w.heap.size w ((w.alloc (.cells #[.int .i64 0, .int .i64 0] 23)).alloc (.cells #[.int .i64 0] 26)) := by go_grown
    go_wp2_with fail
    refine (hop'.out _).mono ?_
    intro e w1 hp
    obtain ⟨hb1, hcase⟩ := hp.cases
    clear hp
    replace bw : Below w.heap.size w w1 := below_next bw hb1
    replace HC := HC.call hb1
    replace HE := HE.call hb1
    have lw1 : w.heap.size ≤ w1.heap.size := bw.size
    clear hb1
    rcases hcase with ⟨s, hs, rfl⟩ | ⟨c, hs, rfl⟩
    · obtain ⟨hcC, hfC⟩ := HC.facts
      obtain ⟨hcE, hfE⟩ := HE.facts
      go_wp2
      refine leaves_cons (f := 62) (args := #[.pointer (some ⟨w.heap.size + 1, 0, none⟩)]) (by simp) (by simp [go_sem]) ?_
      refine (guard_idle _ _).mono ?_
      rintro e u' w'' ⟨rfl, rfl, rfl⟩
      exact ⟨_, run_results_ce rfl rfl (by (show Hd _ (w.heap.size) 23 #[.int .i64 s.lo, .int .i64 s.hi]); exact hdx) Try.underlying23 rfl (by kernel_rfl) rfl (by (show Hd _ (w.heap.size + 1) 26 #[.int .i64 (0)]); exact hdx) Try.underlying26, (by rw [hs]; rfl), by go_grown⟩
    · refine leaves_cons (f := 62) (args := #[.pointer (some ⟨w.heap.size + 1, 0, none⟩)]) (by simp) (by simp [go_sem]) ?_
      refine (guard_panicking _ _ _ _ HE).mono ?_
      rintro e u' w'' ⟨rfl, rfl, rfl⟩
      exact ⟨_, run_results_ce rfl rfl (by (show Hd _ (w.heap.size) 23 #[.int .i64 0, .int .i64 0]); exact hdx) Try.underlying23 rfl (by kernel_rfl) rfl (by (show Hd _ (w.heap.size + 1) 26 #[.int .i64 (c)]); exact hdx) Try.underlying26, (by rw [hs]; rfl), by go_grown⟩
  · have ht : partR n d = (⟨0, 0⟩, 2) := if_neg hv
    rw [ht]
    clear ht
    by_cases q0 : d < 1
    · have q0h := q0
      go_enter_defers Try.func44, Try.ntmps44
      go_wp2
      exact ⟨_, run_results_ce rfl rfl (by (show Hd _ (w.heap.size) 23 #[.int .i64 0, .int .i64 0]); exact hdx) Try.underlying23 rfl (by kernel_rfl) rfl (by (show Hd _ (w.heap.size + 1) 26 #[.int .i64 (2)]); exact hdx) Try.underlying26, rfl, by go_grown⟩
    · by_cases q1 : 1000000000 < d
      · have q1h := q1
        go_enter_defers Try.func44, Try.ntmps44
        go_wp2
        exact ⟨_, run_results_ce rfl rfl (by (show Hd _ (w.heap.size) 23 #[.int .i64 0, .int .i64 0]); exact hdx) Try.underlying23 rfl (by kernel_rfl) rfl (by (show Hd _ (w.heap.size + 1) 26 #[.int .i64 (2)]); exact hdx) Try.underlying26, rfl, by go_grown⟩
      · by_cases q2 : n < -1000000000
        · have q2h := q2
          go_enter_defers Try.func44, Try.ntmps44
          go_wp2
          exact ⟨_, run_results_ce rfl rfl (by (show Hd _ (w.heap.size) 23 #[.int .i64 0, .int .i64 0]); exact hdx) Try.underlying23 rfl (by kernel_rfl) rfl (by (show Hd _ (w.heap.size + 1) 26 #[.int .i64 (2)]); exact hdx) Try.underlying26, rfl, by go_grown⟩
        · have q3 : 1000000000 < n := by omega
          go_enter_defers Try.func44, Try.ntmps44
          go_wp2
          exact ⟨_, run_results_ce rfl rfl (by (show Hd _ (w.heap.size) 23 #[.int .i64 0, .int .i64 0]); exact hdx) Try.underlying23 rfl (by kernel_rfl) rfl (by (show Hd _ (w.heap.size + 1) 26 #[.int .i64 (2)]); exact hdx) Try.underlying26, rfl, by go_grown⟩
theorem rootE_any (s : En.Sp) (w : World) : Calls Try.prog 31 #[spV s] w fun e w' => e = .returned (spE (rootR s)) ∧ Below w.heap.size w w' := by
  have CV := valid_any s.lo s.hi
  have HA : Hd ((w.alloc (.cells #[.int .i64 s.lo, .int .i64 s.hi] 23)).alloc (.cells #[.int .i64 0, .int .i64 0] 23)) w.heap.size 23 #[.int .i64 s.lo, .int .i64 s.hi] := hdx
  have HC : Hd ((w.alloc (.cells #[.int .i64 s.lo, .int .i64 s.hi] 23)).alloc (.cells #[.int .i64 0, .int .i64 0] 23)) (w.heap.size + 1) 23 #[.int .i64 0, .int .i64 0] := hdx
  cases hv : s.ok with
  | false =>
    have ht : rootR s = (⟨0, 0⟩, 50) := by unfold rootR; rw [hv]; rfl
    rw [show En.okS s.lo s.hi = false from hv] at CV
    rw [ht]
    replace CV := Lib.hid CV
    clear hv ht
    go_enter Try.func31, Try.ntmps31
    go_wp2_with fail
    refine (CV.out _).mono ?_
    rintro e w1 ⟨rfl, hb1⟩
    have bw1 : Below w.heap.size w w1 := below_next (by go_grown) hb1
    have HA1 := HA.call hb1
    have HC1 := HC.call hb1
    obtain ⟨hcA, hfA⟩ := HA1.facts
    obtain ⟨hcC, hfC⟩ := HC1.facts
    go_wp2
    refine bodyPost_ret (run_results2 rfl rfl (by (show Hd _ (w.heap.size + 1) 23 #[.int .i64 0, .int .i64 0]); exact hdx) Try.underlying23 rfl (by kernel_rfl)) rfl ⟨rfl, by go_grown⟩
  | true =>
    have ht : rootR s = if s.lo < 0 then (⟨0, 0⟩, 2) else outS (En.roots s) := by unfold rootR; rw [hv]; rfl
    rw [show En.okS s.lo s.hi = true from hv] at CV
    rw [ht]
    replace CV := Lib.hid CV
    clear ht
    by_cases hz : s.lo < 0
    · rw [if_pos hz]
      go_enter Try.func31, Try.ntmps31
      go_wp2_with fail
      refine (CV.out _).mono ?_
      rintro e w1 ⟨rfl, hb1⟩
      have bw1 : Below w.heap.size w w1 := below_next (by go_grown) hb1
      have HA1 := HA.call hb1
      have HC1 := HC.call hb1
      obtain ⟨hcA, hfA⟩ := HA1.facts
      obtain ⟨hcC, hfC⟩ := HC1.facts
      go_wp2
      refine bodyPost_ret (run_results2 rfl rfl (by (show Hd _ (w.heap.size + 1) 23 #[.int .i64 0, .int .i64 0]); exact hdx) Try.underlying23 rfl (by kernel_rfl)) rfl ⟨rfl, by go_grown⟩
    · rw [if_neg hz]
      have CR := roots_any s (by omega) hv
      obtain ⟨u, hu⟩ := En.roots_total (by omega) hv
      rw [hu] at CR ⊢
      replace CR := Lib.hid CR
      clear hv hu
      go_enter Try.func31, Try.ntmps31
      go_wp2_with fail
      refine (CV.out _).mono ?_
      rintro e w1 ⟨rfl, hb1⟩
      have bw1 : Below w.heap.size w w1 := below_next (by go_grown) hb1
      have HA1 := HA.call hb1
      have HC1 := HC.call hb1
      obtain ⟨hcA, hfA⟩ := HA1.facts
      obtain ⟨hcC, hfC⟩ := HC1.facts
      go_wp2_with fail
      refine (CR.out _).mono ?_
      intro e w2 hp
      obtain ⟨hb2, hcase⟩ := hp.cases
      clear hp
      have bw2 : Below w.heap.size w w2 := below_next bw1 hb2
      have HC2 := HC1.call hb2
      obtain ⟨hcC2, hfC2⟩ := HC2.facts
      rcases hcase with ⟨r, hs, rfl⟩ | ⟨c, hs, rfl⟩
      · cases hs
        go_wp2
        refine bodyPost_ret (run_results2 rfl rfl (by (show Hd _ (w.heap.size + 1) 23 #[.int .i64 u.lo, .int .i64 u.hi]); exact hdx) Try.underlying23 rfl (by kernel_rfl)) rfl ⟨rfl, by go_grown⟩
      · cases hs
end Go.Proofs.Ytpbbbfglecbceaa
