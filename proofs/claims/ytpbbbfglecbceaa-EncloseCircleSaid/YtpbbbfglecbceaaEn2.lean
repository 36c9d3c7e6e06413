/- Package enclose: fractions. -/
import Derived.Test.YtpbbbfglecbceaaEn1
namespace Go.Proofs.Ytpbbbfglecbceaa
set_option linter.all false
open Go.RowKit

theorem size_abs (n : Int) (h1 : -9223372036854775807 ≤ n) (h2 : n ≤ 9223372036854775807) (w : World) :
    Calls Try.prog 136 #[.int .i64 n] w fun e w' => e = .returned (.int .u64 (En.abs n)) ∧ w = w' := size_any n h1 h2 w

theorem or_zero (x : Int) (h0 : 0 ≤ x) (h1 : x < 340282366920938463463374607431768211456) :
    (bits .or .u64 (x / 18446744073709551616) (x % 18446744073709551616) == 0) = decide (x = 0) := by
  obtain ⟨n, rfl⟩ := Int.eq_ofNat_of_zero_le h0
  have e1 : (n : Int) / 18446744073709551616 = ((n / 18446744073709551616 : Nat) : Int) := by omega
  have e2 : (n : Int) % 18446744073709551616 = ((n % 18446744073709551616 : Nat) : Int) := by omega
  rw [e1, e2, bits_or_u64_nat _ _ (by omega) (by omega)]
  by_cases hz : n = 0
  · subst hz; decide
  · have hne : n / 18446744073709551616 ||| n % 18446744073709551616 ≠ 0 := by
      intro h
      have h2 := Nat.or_eq_zero_iff.1 h
      omega
    have : ((n / 18446744073709551616 ||| n % 18446744073709551616 : Nat) : Int) ≠ 0 := by omega
    rw [beq_eq_false_iff_ne.2 this]
    symm
    simp; omega

set_option maxHeartbeats 1000000 in
theorem over_any (a b c : Int) (ha : -9223372036854775807 ≤ a) (ha' : a ≤ 9223372036854775807) (hb : -9223372036854775807 ≤ b) (hb' : b ≤ 9223372036854775807)
    (hc1 : -9223372036854775807 ≤ c) (hc2 : c ≤ 9223372036854775807) (w : World) :
    Calls Try.prog 115 #[.int .i64 a, .int .i64 b, .int .i64 c] w fun e w' => e = .returned (frV (En.over a b c)) ∧ Below w.heap.size w w' := by
  have a0 := En.abs_nonneg a
  have b0 := En.abs_nonneg b
  have c0 := En.abs_nonneg c
  have a1 : En.abs a ≤ 9223372036854775807 := by unfold En.abs; split <;> omega
  have b1 : En.abs b ≤ 9223372036854775807 := by unfold En.abs; split <;> omega
  have x1 : En.abs a * En.abs b ≤ 9223372036854775807 * 9223372036854775807 := Int.mul_le_mul a1 b1 b0 (by omega)
  have x0 : 0 ≤ En.abs a * En.abs b := Int.mul_nonneg a0 b0
  have HO := or_zero (En.abs a * En.abs b) x0 (by omega)
  have ho : Hid (En.over a b c = { neg := ((decide (a < 0) != decide (b < 0)) != decide (c < 0)) && decide (En.abs a * En.abs b ≠ 0), hi := En.abs a * En.abs b / 18446744073709551616, lo := En.abs a * En.abs b % 18446744073709551616, c := En.abs c }) := rfl
  have ca := size_abs a ha ha'
  have cb := size_abs b hb hb'
  have cc := size_abs c hc1 hc2
  generalize hA : En.abs a = A at *
  generalize hB : En.abs b = B at *
  generalize hC : En.abs c = C at *
  have cm := mul64_any A B a0 (by omega) b0 (by omega)
  have CA := Lib.hid ca
  have CB := Lib.hid cb
  have CC := Lib.hid cc
  have CM := Lib.hid cm
  generalize A * B = X at *
  clear ca cb cc cm hA hB hC
  have hx0 : 0 ≤ X / 18446744073709551616 := by omega
  have hx1 : X / 18446744073709551616 ≤ 18446744073709551615 := by omega
  have hor0 : bits .or .u64 0 0 = 0 := by decide
  have HOR : X ≠ 0 → ¬ bits .or .u64 (X / 18446744073709551616) (X % 18446744073709551616) = 0 := fun hz h => by
    rw [h] at HO
    simp [hz] at HO
  have HOR' := Lib.hid HOR
  clear HOR
  obtain ⟨sa, hsa⟩ : ∃ s, decide (a < 0) = s := ⟨_, rfl⟩
  obtain ⟨sb, hsb⟩ : ∃ s, decide (b < 0) = s := ⟨_, rfl⟩
  obtain ⟨sc, hsc⟩ : ∃ s, decide (c < 0) = s := ⟨_, rfl⟩
  by_cases hz : X = 0
  case' pos => have hor1 : (bits .or .u64 0 0 == 0) = true := by decide
  case' neg => have hor1 : (bits .or .u64 (X / 18446744073709551616) (X % 18446744073709551616) == 0) = false := by rw [HO]; simpa using hz
  case' neg => have hor2 := HOR'.out hz
  all_goals
    rw [hsa, hsb, hsc] at ho
    clear HO HOR'
    cases sa <;> cases sb <;> cases sc
    all_goals
      go_enter Try.func115, Try.ntmps115
      go_wp2_with (first | (go_at_call_of 136 a; refine (CA.out _).mono ?_; rintro e w' ⟨rfl, rfl⟩) | (go_at_call_of 136 b; refine (CB.out _).mono ?_; rintro e w' ⟨rfl, rfl⟩) | (go_at_call_of 136 c; refine (CC.out _).mono ?_; rintro e w' ⟨rfl, rfl⟩) | (go_at_call 126; refine (CM.out _).mono ?_; rintro e w' ⟨rfl, rfl⟩))
      refine bodyPost_ret (run_results1 rfl rfl (by (show Hd _ (w.heap.size) 111 _); (repeat' (first | (with_reducible assumption) | (with_reducible refine Hd.new ?_; (try simp only [World.size_alloc, World.size_setCell, World.size_drew]); done) | with_reducible refine Hd.alloc ?_ _ | with_reducible refine Hd.drew ?_ | with_reducible refine Hd.drewN ?_ _ | with_reducible apply Hd.set' | (with_reducible refine Hd.far ?_ ?_ _; rotate_left; (simp; try omega; done)) | exact (rfl : Array.setIfInBounds _ _ _ = _)))) Try.underlying111 rfl (by kernel_rfl)) rfl ⟨by rw [ho.out]; simp [frV, *], by go_grown⟩

theorem whole_any (n : Bool) (h l c : Int) (h0 : 0 ≤ h) (h1 : h ≤ 18446744073709551615) (l0 : 0 ≤ l) (l1 : l ≤ 18446744073709551615) (c0 : 0 < c) (c1 : c ≤ 18446744073709551615) (w : World) :
    Calls Try.prog 145 #[.agg #[.bool n, .int .u64 h, .int .u64 l, .int .u64 c]] w fun e w' =>
      e = .returned (.tuple #[.int .i64 (⟨n, h, l, c⟩ : En.Fr).q, .bool (⟨n, h, l, c⟩ : En.Fr).exact]) ∧ Below w.heap.size w w' := by
  by_cases hc : c ≤ h
  · have hq : (⟨n, h, l, c⟩ : En.Fr).q = 4611686018427387904 := by simp [En.Fr.q, hc]
    have hx : (⟨n, h, l, c⟩ : En.Fr).exact = true := by simp [En.Fr.exact, hc]
    rw [hq, hx]
    clear hq hx
    go_enter Try.func145, Try.ntmps145
    go_wp2
    go_ret2
    exact ⟨rfl, by go_grown⟩
  · have hq : (⟨n, h, l, c⟩ : En.Fr).q = min ((h * 18446744073709551616 + l) / c) 4611686018427387904 := by simp [En.Fr.q, hc]
    have hx : (⟨n, h, l, c⟩ : En.Fr).exact = decide ((h * 18446744073709551616 + l) % c = 0) := by simp [En.Fr.exact, hc]
    rw [hq, hx]
    clear hq hx
    have D := Lib.hid (div64_any h l c h0 (by omega) c1 l0 l1)
    have q0 : 0 ≤ (h * 18446744073709551616 + l) / c := Int.ediv_nonneg (by omega) (by omega)
    have q1 : (h * 18446744073709551616 + l) / c ≤ 18446744073709551615 := by
      have : (h * 18446744073709551616 + l) / c < 18446744073709551616 := by
        rw [Int.ediv_lt_iff_lt_mul c0]
        have : (h + 1) * 18446744073709551616 ≤ c * 18446744073709551616 := Int.mul_le_mul_of_nonneg_right (by omega) (by omega)
        omega
      omega
    have r0 : 0 ≤ (h * 18446744073709551616 + l) % c := Int.emod_nonneg _ (by omega)
    have r1 : (h * 18446744073709551616 + l) % c < c := Int.emod_lt_of_pos _ c0
    generalize (h * 18446744073709551616 + l) / c = q at *
    generalize (h * 18446744073709551616 + l) % c = r at *
    go_enter Try.func145, Try.ntmps145
    go_wp2_with (go_at_call 148; refine (D.out _).mono ?_; rintro e w1 ⟨rfl, hb⟩; have bw1 : Below w.heap.size w w1 := below_next (by go_grown) hb)
    go_ret2
    exact ⟨rfl, bw1⟩

theorem floor_any (n : Bool) (h l c : Int) (h0 : 0 ≤ h) (h1 : h ≤ 18446744073709551615) (l0 : 0 ≤ l) (l1 : l ≤ 18446744073709551615) (c0 : 0 < c) (c1 : c ≤ 18446744073709551615) (w : World) :
    Calls Try.prog 134 #[.agg #[.bool n, .int .u64 h, .int .u64 l, .int .u64 c]] w fun e w' =>
      e = .returned (.int .i64 (⟨n, h, l, c⟩ : En.Fr).floor) ∧ Below w.heap.size w w' := by
  have W := Lib.hid (whole_any n h l c h0 h1 l0 l1 c0 c1)
  have hq := En.Fr.q_range (f := ⟨n, h, l, c⟩) ⟨h0, h1, l0, l1, c0, c1⟩
  have hf : Hid ((⟨n, h, l, c⟩ : En.Fr).floor = if n then (if (⟨n, h, l, c⟩ : En.Fr).exact then -(⟨n, h, l, c⟩ : En.Fr).q else -(⟨n, h, l, c⟩ : En.Fr).q - 1) else (⟨n, h, l, c⟩ : En.Fr).q) := rfl
  generalize (⟨n, h, l, c⟩ : En.Fr).floor = f at *
  generalize (⟨n, h, l, c⟩ : En.Fr).q = q at *
  generalize (⟨n, h, l, c⟩ : En.Fr).exact = x at *
  cases n <;> cases x
  all_goals
    go_enter Try.func134, Try.ntmps134
    go_wp2_with (go_at_call 145; refine (W.out _).mono ?_; rintro e w1 ⟨rfl, hb⟩; obtain ⟨hc, hf'⟩ := bcell hb; have bw1 : Below w.heap.size w w1 := below_next (by go_grown) hb)
    go_ret
    exact ⟨by rw [hf.out]; simp, bw1⟩

theorem ceil_any (n : Bool) (h l c : Int) (h0 : 0 ≤ h) (h1 : h ≤ 18446744073709551615) (l0 : 0 ≤ l) (l1 : l ≤ 18446744073709551615) (c0 : 0 < c) (c1 : c ≤ 18446744073709551615) (w : World) :
    Calls Try.prog 135 #[.agg #[.bool n, .int .u64 h, .int .u64 l, .int .u64 c]] w fun e w' =>
      e = .returned (.int .i64 (⟨n, h, l, c⟩ : En.Fr).ceil) ∧ Below w.heap.size w w' := by
  have W := Lib.hid (floor_any (!n) h l c h0 h1 l0 l1 c0 c1)
  have hq := En.Fr.floor_range (f := ⟨!n, h, l, c⟩) ⟨h0, h1, l0, l1, c0, c1⟩
  have hf : Hid ((⟨n, h, l, c⟩ : En.Fr).ceil = -(⟨!n, h, l, c⟩ : En.Fr).floor) := rfl
  generalize (⟨n, h, l, c⟩ : En.Fr).ceil = f at *
  generalize (⟨!n, h, l, c⟩ : En.Fr).floor = q at *
  go_enter Try.func135, Try.ntmps135
  go_wp2_with (go_at_call 134; refine (W.out _).mono ?_; rintro e w1 ⟨rfl, hb⟩; have bw1 : Below w.heap.size w w1 := below_next (by go_grown) hb)
  go_ret
  exact ⟨by rw [hf.out]; rfl, bw1⟩
end Go.Proofs.Ytpbbbfglecbceaa
