/- Package enclose: roots. -/
import Derived.Test.YtpbbbfglecbceaaEn4
import Derived.Test.YtpbbbfglecbceaaPl2
namespace Go.Proofs.Ytpbbbfglecbceaa
set_option linter.all false
open Go.RowKit

theorem root_any (n : Int) (h0 : 0 ≤ n) (h1 : n ≤ 1099511627776) (w : World) :
    Calls Try.prog 125 #[.int .i64 n] w fun e w' => e = .returned (.int .i64 (En.root n)) ∧ Below w.heap.size w w' := by
  obtain ⟨N, hN⟩ : ∃ N, n * 1073741824 = N := ⟨_, rfl⟩
  obtain ⟨r, hr⟩ : ∃ r, En.root n = r := ⟨_, rfl⟩
  have hr' : En.bis N 36 0 = r := by rw [← hN]; exact hr
  rw [hr]
  have ca := Lib.hid (mul64_any n 1073741824 h0 (by omega) (by omega) (by omega))
  rw [hN] at ca
  have HN := Lib.hid hN
  have HR := Lib.hid hr'
  clear hr hr' hN
  go_enter Try.func125, Try.ntmps125
  go_wp2
  go_loopw [3, 4] (fun lo hi wr => ∃ (k : Nat) (a d : Int), Hid (En.bis N k a = r) ∧ Hid (d = 2 ^ k) ∧ k ≤ 36 ∧ lo = .int .i64 a ∧ hi = .int .i64 (a + d) ∧ 0 ≤ a ∧ 1 ≤ d ∧ a + d ≤ 68719476736 ∧ Below w.heap.size w wr)
    (fun lo hi _ => (intOf hi - intOf lo).toNat)
  case atStart => exact ⟨36, 0, 68719476736, HR, Lib.hid rfl, by omega, rfl, rfl, by omega, by omega, by omega, by go_grown⟩
  case round =>
    obtain ⟨k, a, d, hb, hd, hk, rfl, rfl, ha, hd1, had, hbr⟩ := hrel
    cases k with
    | zero =>
      obtain rfl : d = 1 := hd.out
      obtain rfl : a = r := hb.out
      go_wp2
      go_ret
      exact ⟨rfl, hbr⟩
    | succ k =>
      obtain ⟨e, he⟩ : ∃ e : Int, e = 2 ^ k := ⟨_, rfl⟩
      have hde : d = 2 * e := by rw [hd.out, he, Int.pow_succ]; omega
      subst hde
      have he1 : 1 ≤ e := by omega
      have hlt : a + 1 < a + 2 * e := by omega
      have hq : (a + (a + 2 * e)) / 2 = a + e := by omega
      have hm0 : 0 ≤ (a + (a + 2 * e)) / 2 := by omega
      have hm1 : (a + (a + 2 * e)) / 2 ≤ 68719476736 := by omega
      obtain ⟨M, hM⟩ : ∃ M, (a + e) * (a + e) = M := ⟨_, rfl⟩
      have cm := Lib.hid (mul64_any ((a + (a + 2 * e)) / 2) ((a + (a + 2 * e)) / 2) hm0 (by omega) hm0 (by omega))
      rw [show (a + (a + 2 * e)) / 2 * ((a + (a + 2 * e)) / 2) = M from by rw [hq]; exact hM] at cm
      have hstep : En.bis N (k + 1) a = if M ≤ N then En.bis N k (a + e) else En.bis N k a := by
        rw [← hM, he]; rfl
      have HS := Lib.hid hstep
      clear hstep
      have HE := Lib.hid he
      have HQ := Lib.hid hq
      clear hM he hq
      have hMN : M / 18446744073709551616 * 18446744073709551616 + M % 18446744073709551616 = M := by omega
      have hNN : N / 18446744073709551616 * 18446744073709551616 + N % 18446744073709551616 = N := by omega
      have hmr : M % 18446744073709551616 < 18446744073709551616 := by omega
      have hnr : N % 18446744073709551616 < 18446744073709551616 := by omega
      have hm2 : 0 ≤ M % 18446744073709551616 := by omega
      have hn2 : 0 ≤ N % 18446744073709551616 := by omega
      by_cases hle : M ≤ N
      · by_cases h1 : M / 18446744073709551616 < N / 18446744073709551616
        · go_wp2_with (first | (go_at_call_of 126 n; refine (ca.out _).mono ?_; rintro e w'' ⟨rfl, rfl⟩) | (go_at_call 126; refine (cm.out _).mono ?_; rintro e w'' ⟨rfl, rfl⟩))
          go_roundw
          case rel => exact ⟨k, a + e, e, Lib.hid (by rw [← hb.out, HS.out, if_pos hle]), HE, by omega, by rw [HQ.out], by congr 1; omega, by omega, by omega, by omega, hbr⟩
          case measure => simp [intOf]; (try have := HQ.out); omega
        · have h2 : M / 18446744073709551616 = N / 18446744073709551616 := by omega
          have h3 : M % 18446744073709551616 ≤ N % 18446744073709551616 := by omega
          have h4 : (M / 18446744073709551616 == N / 18446744073709551616) = true := by simpa using h2
          go_wp2_with (first | (go_at_call_of 126 n; refine (ca.out _).mono ?_; rintro e w'' ⟨rfl, rfl⟩) | (go_at_call 126; refine (cm.out _).mono ?_; rintro e w'' ⟨rfl, rfl⟩))
          go_roundw
          case rel => exact ⟨k, a + e, e, Lib.hid (by rw [← hb.out, HS.out, if_pos hle]), HE, by omega, by rw [HQ.out], by congr 1; omega, by omega, by omega, by omega, hbr⟩
          case measure => simp [intOf]; (try have := HQ.out); omega
      · have h1 : ¬ M / 18446744073709551616 < N / 18446744073709551616 := by omega
        by_cases h2 : M / 18446744073709551616 = N / 18446744073709551616
        · have h3 : ¬ M % 18446744073709551616 ≤ N % 18446744073709551616 := by omega
          have h4 : (M / 18446744073709551616 == N / 18446744073709551616) = true := by simpa using h2
          go_wp2_with (first | (go_at_call_of 126 n; refine (ca.out _).mono ?_; rintro e w'' ⟨rfl, rfl⟩) | (go_at_call 126; refine (cm.out _).mono ?_; rintro e w'' ⟨rfl, rfl⟩))
          go_roundw
          case rel => exact ⟨k, a, e, Lib.hid (by rw [← hb.out, HS.out, if_neg (by omega)]), HE, by omega, rfl, by rw [HQ.out], by omega, by omega, by omega, hbr⟩
          case measure => simp [intOf]; (try have := HQ.out); omega
        · have h4 : (M / 18446744073709551616 == N / 18446744073709551616) = false := by simpa using h2
          go_wp2_with (first | (go_at_call_of 126 n; refine (ca.out _).mono ?_; rintro e w'' ⟨rfl, rfl⟩) | (go_at_call 126; refine (cm.out _).mono ?_; rintro e w'' ⟨rfl, rfl⟩))
          go_roundw
          case rel => exact ⟨k, a, e, Lib.hid (by rw [← hb.out, HS.out, if_neg (by omega)]), HE, by omega, rfl, by rw [HQ.out], by omega, by omega, by omega, hbr⟩
          case measure => simp [intOf]; (try have := HQ.out); omega
theorem roots_any (s : En.Sp) (h0 : 0 ≤ s.lo) (hs : s.ok = true) (w : World) : Calls Try.prog 84 #[spV s] w (Post spV (En.roots s) w) := by
  have hle := En.Sp.le_of_ok hs
  have hfit := En.Sp.fit_of_ok hs
  obtain ⟨a, b⟩ := s
  obtain ⟨a1, a2, b1, b2⟩ := hfit
  dsimp only at h0 hle a1 a2 b1 b2
  have ra := En.root_spec h0 a2
  have rb := En.root_spec (n := b) (by omega) b2
  have CA := Lib.hid (root_any a h0 a2)
  have CB := Lib.hid (root_any b (by omega) b2)
  have hun : Hid (En.roots ⟨a, b⟩ = En.span (En.root a) (if En.root b * En.root b = b * 1073741824 then En.root b else En.root b + 1)) := rfl
  obtain ⟨r, hr⟩ : ∃ r, En.root a = r := ⟨_, rfl⟩
  obtain ⟨q, hq⟩ : ∃ q, En.root b = q := ⟨_, rfl⟩
  rw [hr] at ra CA hun
  rw [hq] at rb CB hun
  clear hr hq
  obtain ⟨ra0, ra1, -, -⟩ := ra
  obtain ⟨rb0, rb1, -, -⟩ := rb
  have cm := Lib.hid (mul64_any q q rb0 (by omega) rb0 (by omega))
  have cn := Lib.hid (mul64_any b 1073741824 (by omega) (by omega) (by omega) (by omega))
  obtain ⟨M, hM⟩ : ∃ M, q * q = M := ⟨_, rfl⟩
  obtain ⟨N, hN⟩ : ∃ N, b * 1073741824 = N := ⟨_, rfl⟩
  rw [hM] at cm hun
  rw [hN] at cn hun
  clear hM hN
  go_enter Try.func84, Try.ntmps84
  go_wp2_with fail
  have HA : Hd (((w.alloc (.cells #[.int .i64 a, .int .i64 b] 23)).alloc (.cells #[.int .i64 0, .int .i64 0] 23))) w.heap.size 23 #[.int .i64 a, .int .i64 b] := hdx
  have HC : Hd (((w.alloc (.cells #[.int .i64 a, .int .i64 b] 23)).alloc (.cells #[.int .i64 0, .int .i64 0] 23))) (w.heap.size + 1) 23 #[.int .i64 0, .int .i64 0] := hdx
  have bw : Below w.heap.size w (((w.alloc (.cells #[.int .i64 a, .int .i64 b] 23)).alloc (.cells #[.int .i64 0, .int .i64 0] 23))) := by go_grown
  refine (CB.out _).mono ?_
  rintro e w1 ⟨rfl, hb1⟩
  replace bw : Below w.heap.size w w1 := below_next bw hb1
  replace HA := HA.call hb1
  replace HC := HC.call hb1
  have lw1 : w.heap.size ≤ w1.heap.size := bw.size
  clear hb1
  obtain ⟨hcA, hfA⟩ := HA.facts
  have hMN : M / 18446744073709551616 * 18446744073709551616 + M % 18446744073709551616 = M := by omega
  have hNN : N / 18446744073709551616 * 18446744073709551616 + N % 18446744073709551616 = N := by omega
  by_cases h1 : M / 18446744073709551616 = N / 18446744073709551616
  · by_cases h2 : M % 18446744073709551616 = N % 18446744073709551616
    · have h3 : (M / 18446744073709551616 != N / 18446744073709551616) = false := by simp [h1]
      have h4 : (M % 18446744073709551616 != N % 18446744073709551616) = false := by simp [h2]
      have hMe : M = N := by omega
      rw [if_pos hMe] at hun
      have HU := Lib.hid hun.out
      clear hun hMN hNN hMe h1 h2
      go_wp2_with (first | (go_at_call_of 126 b; refine (cn.out _).mono ?_; rintro e w'' ⟨rfl, rfl⟩) | (go_at_call_of 126 q; refine (cm.out _).mono ?_; rintro e w'' ⟨rfl, rfl⟩))
      refine (CA.out _).mono ?_
      rintro e w2 ⟨rfl, hb2⟩
      replace bw : Below w.heap.size w w2 := below_next bw hb2
      replace HA := HA.call hb2
      replace HC := HC.call hb2
      have lw2 : w.heap.size ≤ w2.heap.size := bw.size
      clear hb2
      go_wp2_with fail
      refine (span_any _ _ _).mono ?_
      intro e w3 hp
      obtain ⟨hb3, hcase⟩ := hp.cases
      replace bw : Below w.heap.size w w3 := below_next bw hb3
      replace HA := HA.call hb3
      replace HC := HC.call hb3
      have lw3 : w.heap.size ≤ w3.heap.size := bw.size
      clear hb3
      rcases hcase with ⟨s, hs, rfl⟩ | ⟨c, hs, rfl⟩
      · obtain ⟨hcC, hfC⟩ := HC.facts
        go_wp2
        refine bodyPost_ret (run_results1 rfl rfl (by (show Hd _ (w.heap.size + 1) 23 #[.int .i64 s.lo, .int .i64 s.hi]); exact hdx) Try.underlying23 rfl (by kernel_rfl)) rfl (post_ok (HU.out.trans hs) (by go_grown))
      · exact ⟨rfl, post_err (HU.out.trans hs) (by go_grown)⟩
    · have h3 : (M / 18446744073709551616 != N / 18446744073709551616) = false := by simp [h1]
      have h4 : (M % 18446744073709551616 != N % 18446744073709551616) = true := by simp [h2]
      have hMe : ¬ M = N := by omega
      rw [if_neg hMe] at hun
      have HU := Lib.hid hun.out
      clear hun hMN hNN hMe h1 h2
      go_wp2_with (first | (go_at_call_of 126 b; refine (cn.out _).mono ?_; rintro e w'' ⟨rfl, rfl⟩) | (go_at_call_of 126 q; refine (cm.out _).mono ?_; rintro e w'' ⟨rfl, rfl⟩))
      refine (CA.out _).mono ?_
      rintro e w2 ⟨rfl, hb2⟩
      replace bw : Below w.heap.size w w2 := below_next bw hb2
      replace HA := HA.call hb2
      replace HC := HC.call hb2
      have lw2 : w.heap.size ≤ w2.heap.size := bw.size
      clear hb2
      go_wp2_with fail
      refine (span_any _ _ _).mono ?_
      intro e w3 hp
      obtain ⟨hb3, hcase⟩ := hp.cases
      replace bw : Below w.heap.size w w3 := below_next bw hb3
      replace HA := HA.call hb3
      replace HC := HC.call hb3
      have lw3 : w.heap.size ≤ w3.heap.size := bw.size
      clear hb3
      rcases hcase with ⟨s, hs, rfl⟩ | ⟨c, hs, rfl⟩
      · obtain ⟨hcC, hfC⟩ := HC.facts
        go_wp2
        refine bodyPost_ret (run_results1 rfl rfl (by (show Hd _ (w.heap.size + 1) 23 #[.int .i64 s.lo, .int .i64 s.hi]); exact hdx) Try.underlying23 rfl (by kernel_rfl)) rfl (post_ok (HU.out.trans hs) (by go_grown))
      · exact ⟨rfl, post_err (HU.out.trans hs) (by go_grown)⟩
  · have h3 : (M / 18446744073709551616 != N / 18446744073709551616) = true := by simp [h1]
    have hMe : ¬ M = N := by omega
    rw [if_neg hMe] at hun
    have HU := Lib.hid hun.out
    clear hun hMN hNN hMe h1
    go_wp2_with (first | (go_at_call_of 126 b; refine (cn.out _).mono ?_; rintro e w'' ⟨rfl, rfl⟩) | (go_at_call_of 126 q; refine (cm.out _).mono ?_; rintro e w'' ⟨rfl, rfl⟩))
    refine (CA.out _).mono ?_
    rintro e w2 ⟨rfl, hb2⟩
    replace bw : Below w.heap.size w w2 := below_next bw hb2
    replace HA := HA.call hb2
    replace HC := HC.call hb2
    have lw2 : w.heap.size ≤ w2.heap.size := bw.size
    clear hb2
    go_wp2_with fail
    refine (span_any _ _ _).mono ?_
    intro e w3 hp
    obtain ⟨hb3, hcase⟩ := hp.cases
    replace bw : Below w.heap.size w w3 := below_next bw hb3
    replace HA := HA.call hb3
    replace HC := HC.call hb3
    have lw3 : w.heap.size ≤ w3.heap.size := bw.size
    clear hb3
    rcases hcase with ⟨s, hs, rfl⟩ | ⟨c, hs, rfl⟩
    · obtain ⟨hcC, hfC⟩ := HC.facts
      go_wp2
      refine bodyPost_ret (run_results1 rfl rfl (by (show Hd _ (w.heap.size + 1) 23 #[.int .i64 s.lo, .int .i64 s.hi]); exact hdx) Try.underlying23 rfl (by kernel_rfl)) rfl (post_ok (HU.out.trans hs) (by go_grown))
    · exact ⟨rfl, post_err (HU.out.trans hs) (by go_grown)⟩

end Go.Proofs.Ytpbbbfglecbceaa
