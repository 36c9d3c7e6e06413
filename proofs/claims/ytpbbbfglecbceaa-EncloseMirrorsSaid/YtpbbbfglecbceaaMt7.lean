/- Several texts in one. -/
import Derived.Test.YtpbbbfglecbceaaMt6
import Derived.Test.YtpbbbfglecbceaaMt4
import Derived.Test.YtpbbbfglecbceaaMt5
import Derived.DeepKeys
/- The document's quotients. -/
namespace Go.Proofs.Ytpbbbfglecbceaa
set_option linter.all false
open Go.RowKit

theorem overDown_any (a b : Int) (hb : 0 < b) (hb' : b ≤ 1099511627776) (ha : -1099511627776 ≤ a) (ha' : a ≤ 1099511627776) (w : World) :
    Calls Try.prog 137 #[.int .i64 a, .int .i64 b] w fun e w' => e = .returned (.int .i64 (En.ovr a b)) ∧ w' = w := by
  have CB := below_any a b hb (by omega) (by omega) (by omega)
  have hnb : ¬ b < 0 := by omega
  have hm := Int.mul_ediv_add_emod a b
  have r0 := Int.emod_nonneg a (b := b) (by omega)
  have r1 := Int.emod_lt_of_pos a hb
  rw [Int.mul_comm] at hm
  have hov : En.ovr a b = if 2048 < a / b then 35184372088832 else if a / b < -2048 then -35184372088832 else a * 1073741824 / b := rfl
  have HR := fun K : Int => En.ovr_round (a := K) hb
  replace HR := Lib.hid HR
  obtain ⟨q, hq⟩ : ∃ q, a / b = q := ⟨_, rfl⟩
  obtain ⟨r, hr⟩ : ∃ r, a % b = r := ⟨_, rfl⟩
  rw [hq] at CB hov hm
  rw [hr] at hm r0 r1
  replace CB := Lib.hid CB
  have m1 : -1099511627776 - 1099511627776 ≤ q * b := by omega
  have m2 : q * b ≤ 1099511627776 := by omega
  have hsub : a - q * b = r := by omega
  have HQ := Lib.hid hq
  have HRR := Lib.hid hr
  clear hq hr hm
  by_cases h1 : 2048 < q
  · rw [if_pos h1] at hov
    have hmm : max (min q 1) (-1) * 35184372088832 = 35184372088832 := by omega
    replace hmm := Lib.hid hmm
    rw [hov]
    clear hov
    go_enter Try.func137, Try.ntmps137
    go_wp2_with (go_at_call 97; refine (CB.out _).mono ?_; rintro e w'' ⟨rfl, rfl⟩)
    go_ret
    exact ⟨congrArg (fun z => Ending.returned (.int .i64 z)) hmm.out, rfl⟩
  · rw [if_neg h1] at hov
    by_cases h2 : q < -2048
    · rw [if_pos h2] at hov
      have hmm : max (min q 1) (-1) * 35184372088832 = -35184372088832 := by omega
      replace hmm := Lib.hid hmm
      rw [hov]
      clear hov
      go_enter Try.func137, Try.ntmps137
      go_wp2_with (go_at_call 97; refine (CB.out _).mono ?_; rintro e w'' ⟨rfl, rfl⟩)
      go_ret
      exact ⟨congrArg (fun z => Ending.returned (.int .i64 z)) hmm.out, rfl⟩
    · rw [if_neg h2] at hov
      rw [hov]
      clear hov
      go_enter Try.func137, Try.ntmps137
      go_wp2_with (go_at_call 97; refine (CB.out _).mono ?_; rintro e w'' ⟨rfl, rfl⟩)
      go_loopw [5, 6, 31] (fun x y c wx => ∃ (i K P q r : Int), (i = 0 ∧ P = 1 ∨ i = 1 ∧ P = 32768 ∨ i = 2 ∧ P = 1073741824) ∧ RowKit.Hid (K = a * P) ∧ RowKit.Hid (K / b = q) ∧ RowKit.Hid (K % b = r) ∧ x = .int .i64 q ∧ y = .int .i64 r ∧ c = .int .i64 i ∧
        -(4096 * P) ≤ q ∧ q ≤ 4096 * P - 1 ∧ 0 ≤ r ∧ r < b ∧ wx = w'') (fun _ _ c _ => (2 - intOf c).toNat)
      case atStart => exact ⟨0, a, 1, q, r, by omega, Lib.hid (by omega), HQ, HRR, rfl, rfl, rfl, by omega, by omega, r0, r1, rfl⟩
      case round =>
        clear HQ HRR h1 h2 r0 r1 hsub m1 m2
        obtain ⟨i, K, P, q, r, hi, HK, HQ, HRR, rfl, rfl, rfl, b1, b2, r0, r1, rfl⟩ := hrel
        by_cases hi2 : i < 2
        · have hP : P ≤ 32768 := by omega
          have hP0 : 1 ≤ P := by omega
          have hi0 : 0 ≤ i := by omega
          have hround := HR.out K
          rw [HQ.out, HRR.out] at hround
          obtain ⟨k1, k2⟩ := hround
          have d0 : (r * 32768).tdiv b = r * 32768 / b := Int.tdiv_eq_ediv_of_nonneg (by omega)
          have d1 : (r * 32768).tmod b = r * 32768 % b := Int.tmod_eq_emod_of_nonneg (by omega)
          have d2 : 0 ≤ r * 32768 / b := Int.ediv_nonneg (by omega) (by omega)
          have d3 : r * 32768 / b < 32768 := (Int.ediv_lt_iff_lt_mul hb).2 (by omega)
          have d4 := Int.emod_nonneg (r * 32768) (b := b) (by omega)
          have d5 := Int.emod_lt_of_pos (r * 32768) hb
          have hne : b ≠ 0 := by omega
          obtain ⟨D, hD⟩ : ∃ D, r * 32768 / b = D := ⟨_, rfl⟩
          obtain ⟨E, hE⟩ : ∃ E, r * 32768 % b = E := ⟨_, rfl⟩
          rw [hD] at d0 d2 d3 k1
          rw [hE] at d1 d4 d5 k2
          clear hD hE
          have K1 := Lib.hid k1
          have K2 := Lib.hid k2
          have HI := Lib.hid hi
          clear k1 k2 hi
          go_wp2_with fail
          refine ⟨⟨i + 1, K * 32768, P * 32768, q * 32768 + D, E, by have := HI.out; omega, Lib.hid (by rw [HK.out, Int.mul_assoc]), Lib.hid K1.out.symm, Lib.hid K2.out.symm, rfl, rfl, rfl, by omega, by omega, d4, d5, by first | rfl | trivial⟩, ?_⟩
          simp only [intOf]
          omega
        · have hP : P = 1073741824 := by omega
          obtain rfl : i = 2 := by omega
          subst hP
          have hq : a * 1073741824 / b = q := by rw [← HK.out]; exact HQ.out
          have HQF := Lib.hid hq.symm
          clear hq
          go_wp2_with fail
          go_ret
          exact ⟨congrArg (fun z => Ending.returned (.int .i64 z)) HQF.out, rfl⟩

theorem overUp_any (a b : Int) (hb : 0 < b) (hb' : b ≤ 1099511627776) (ha : -1099511627776 ≤ a) (ha' : a ≤ 1099511627776) (w : World) :
    Calls Try.prog 138 #[.int .i64 a, .int .i64 b] w fun e w' => e = .returned (.int .i64 (En.ovu a b)) ∧ w' = w := by
  have C := overDown_any (-a) b hb hb' (by omega) (by omega)
  have hd : -(En.ovr (-a) b) = En.ovu a b := rfl
  have k := En.ovr_le (a := -a) hb (by omega) (by omega)
  obtain ⟨k1, k2⟩ := k
  obtain ⟨d, hdd⟩ : ∃ d, En.ovr (-a) b = d := ⟨_, rfl⟩
  rw [hdd] at C hd k1 k2
  clear hdd
  replace C := Lib.hid C
  rw [← hd]
  clear hd
  go_enter Try.func138, Try.ntmps138
  go_wp2_with (go_at_call 137; refine (C.out _).mono ?_; rintro e w'' ⟨rfl, rfl⟩)
  go_ret
  exact ⟨rfl, rfl⟩
set_option maxHeartbeats 1000000 in
theorem wover_any (x y : En.Sp) (hx : x.fit) (hy : y.fit) (e0 : Int) (hyy : e0 = 0 → 0 < y.lo ∧ y.lo ≤ y.hi) (g : Nat) (w : World) (HG : Hd w g 83 #[.int .i64 e0]) :
    Calls Try.prog 120 #[ptr g, spV x, spV y] w (PostW (En.div x y) g e0 w) := by
  have hlt := HG.lt
  have bw := But.refl g w
  obtain ⟨x1, x2, x3, x4⟩ := hx
  obtain ⟨y1, y2, y3, y4⟩ := hy
  obtain ⟨hcG, hfG⟩ := HG.facts
  by_cases h0 : e0 = 0
  · subst h0
    obtain ⟨hy1, hy2⟩ := hyy rfl
    clear hyy
    have hlt1 : g < w.heap.size + 1 := by omega
    have hlt2 : g < w.heap.size + 1 + 1 := by omega
    go_enter Try.func120, Try.ntmps120
    go_upto_region 3 with fail
    replace HG : Hd ((((w.alloc (.cells #[.int .i64 x.lo, .int .i64 x.hi] 23)).alloc (.cells #[.int .i64 y.lo, .int .i64 y.hi] 23)).alloc (.cells #[.int .i64 0, .int .i64 0] 23)).drew) g 83 #[.int .i64 0] := hdx
    have HA : Hd ((((w.alloc (.cells #[.int .i64 x.lo, .int .i64 x.hi] 23)).alloc (.cells #[.int .i64 y.lo, .int .i64 y.hi] 23)).alloc (.cells #[.int .i64 0, .int .i64 0] 23)).drew) w.heap.size 23 #[.int .i64 x.lo, .int .i64 x.hi] := hdx
    have HB : Hd ((((w.alloc (.cells #[.int .i64 x.lo, .int .i64 x.hi] 23)).alloc (.cells #[.int .i64 y.lo, .int .i64 y.hi] 23)).alloc (.cells #[.int .i64 0, .int .i64 0] 23)).drew) (w.heap.size + 1) 23 #[.int .i64 y.lo, .int .i64 y.hi] := hdx
    have HO : Hd ((((w.alloc (.cells #[.int .i64 x.lo, .int .i64 x.hi] 23)).alloc (.cells #[.int .i64 y.lo, .int .i64 y.hi] 23)).alloc (.cells #[.int .i64 0, .int .i64 0] 23)).drew) (w.heap.size + 2) 23 #[.int .i64 0, .int .i64 0] := hdx
    replace bw : But g w ((((w.alloc (.cells #[.int .i64 x.lo, .int .i64 x.hi] 23)).alloc (.cells #[.int .i64 y.lo, .int .i64 y.hi] 23)).alloc (.cells #[.int .i64 0, .int .i64 0] 23)).drew) := butx
    (refine wp_region_eag (fun w' => Hd w' w.heap.size 23 #[.int .i64 x.lo, .int .i64 x.hi] ∧ Hd w' (w.heap.size + 1) 23 #[.int .i64 y.lo, .int .i64 y.hi] ∧ But g w w') [(0, true), (1, true), (2, true), (3, true), (5, true), (6, true), (7, true), (8, true), (10, true), (11, true), (12, true), (13, true), (15, true), (16, true), (17, true), (18, true), (4, false), (9, false), (14, false), (19, false), (20, false), (21, true)] (by kernel_rfl) (by kernel_rfl) (fun c d v a w h => by cases d <;> exact h) ⟨HA, HB, bw⟩ ?_; simp only [List.map_cons, List.map_nil, List.getD_cons_zero, List.getD_cons_succ, flMark, Nat.reduceEqDiff, ↓reduceIte])
    repeat ((first | with_reducible apply eag_move | with_reducible apply eag_assign | ((with_reducible refine eag_soft (v := ?_) (fun w' hw' => ?_) ?_); rotate_left 1; (focus (obtain ⟨hA, hB, hBw⟩ := hw'; obtain ⟨hcA, hfA⟩ := hA.facts; obtain ⟨hcB, hfB⟩ := hB.facts; go_simp; (try with_reducible rfl); done)))); simp only [Act.put, Act.eval, qs])
    refine eag_hard ?_
    go_wp2_with fail
    refine (overDown_any x.lo y.lo (by omega) (by omega) (by omega) (by omega) _).mono ?_
    rintro e w'' ⟨rfl, rfl⟩
    go_wp2_with fail
    (try refine ⟨⟨HA, HB, bw⟩, ?_⟩)
    repeat ((first | with_reducible apply eag_move | with_reducible apply eag_assign | ((with_reducible refine eag_soft (v := ?_) (fun w' hw' => ?_) ?_); rotate_left 1; (focus (obtain ⟨hA, hB, hBw⟩ := hw'; obtain ⟨hcA, hfA⟩ := hA.facts; obtain ⟨hcB, hfB⟩ := hB.facts; go_simp; (try with_reducible rfl); done)))); simp only [Act.put, Act.eval, qs])
    refine eag_hard ?_
    go_wp2_with fail
    refine (overDown_any x.lo y.hi (by omega) (by omega) (by omega) (by omega) _).mono ?_
    rintro e w'' ⟨rfl, rfl⟩
    go_wp2_with fail
    (try refine ⟨⟨HA, HB, bw⟩, ?_⟩)
    repeat ((first | with_reducible apply eag_move | with_reducible apply eag_assign | ((with_reducible refine eag_soft (v := ?_) (fun w' hw' => ?_) ?_); rotate_left 1; (focus (obtain ⟨hA, hB, hBw⟩ := hw'; obtain ⟨hcA, hfA⟩ := hA.facts; obtain ⟨hcB, hfB⟩ := hB.facts; go_simp; (try with_reducible rfl); done)))); simp only [Act.put, Act.eval, qs])
    refine eag_hard ?_
    go_wp2_with fail
    refine (overDown_any x.hi y.lo (by omega) (by omega) (by omega) (by omega) _).mono ?_
    rintro e w'' ⟨rfl, rfl⟩
    go_wp2_with fail
    (try refine ⟨⟨HA, HB, bw⟩, ?_⟩)
    repeat ((first | with_reducible apply eag_move | with_reducible apply eag_assign | ((with_reducible refine eag_soft (v := ?_) (fun w' hw' => ?_) ?_); rotate_left 1; (focus (obtain ⟨hA, hB, hBw⟩ := hw'; obtain ⟨hcA, hfA⟩ := hA.facts; obtain ⟨hcB, hfB⟩ := hB.facts; go_simp; (try with_reducible rfl); done)))); simp only [Act.put, Act.eval, qs])
    refine eag_hard ?_
    go_wp2_with fail
    refine (overDown_any x.hi y.hi (by omega) (by omega) (by omega) (by omega) _).mono ?_
    rintro e w'' ⟨rfl, rfl⟩
    go_wp2_with fail
    (try refine ⟨⟨HA, HB, bw⟩, ?_⟩)
    repeat ((first | with_reducible apply eag_move | with_reducible apply eag_assign | ((with_reducible refine eag_soft (v := ?_) (fun w' hw' => ?_) ?_); rotate_left 1; (focus (obtain ⟨hA, hB, hBw⟩ := hw'; obtain ⟨hcA, hfA⟩ := hA.facts; obtain ⟨hcB, hfB⟩ := hB.facts; go_simp; (try with_reducible rfl); done)))); simp only [Act.put, Act.eval, qs])
    refine eag_hard ?_
    go_wp2_with fail
    (try refine ⟨⟨HA, HB, bw⟩, ?_⟩)
    repeat ((first | with_reducible apply eag_move | with_reducible apply eag_assign | ((with_reducible refine eag_soft (v := ?_) (fun w' hw' => ?_) ?_); rotate_left 1; (focus (obtain ⟨hA, hB, hBw⟩ := hw'; obtain ⟨hcA, hfA⟩ := hA.facts; obtain ⟨hcB, hfB⟩ := hB.facts; go_simp; (try with_reducible rfl); done)))); simp only [Act.put, Act.eval, qs])
    refine eag_nil ?_
    obtain ⟨hcA, hfA⟩ := HA.facts
    obtain ⟨hcB, hfB⟩ := HB.facts
    go_upto_region 4 with fail
    replace HG : Hd (((((w.alloc (.cells #[.int .i64 x.lo, .int .i64 x.hi] 23)).alloc (.cells #[.int .i64 y.lo, .int .i64 y.hi] 23)).alloc (.cells #[.int .i64 0, .int .i64 0] 23)).drew).drew) g 83 #[.int .i64 0] := hdx
    replace HA : Hd (((((w.alloc (.cells #[.int .i64 x.lo, .int .i64 x.hi] 23)).alloc (.cells #[.int .i64 y.lo, .int .i64 y.hi] 23)).alloc (.cells #[.int .i64 0, .int .i64 0] 23)).drew).drew) w.heap.size 23 #[.int .i64 x.lo, .int .i64 x.hi] := hdx
    replace HB : Hd (((((w.alloc (.cells #[.int .i64 x.lo, .int .i64 x.hi] 23)).alloc (.cells #[.int .i64 y.lo, .int .i64 y.hi] 23)).alloc (.cells #[.int .i64 0, .int .i64 0] 23)).drew).drew) (w.heap.size + 1) 23 #[.int .i64 y.lo, .int .i64 y.hi] := hdx
    replace HO : Hd (((((w.alloc (.cells #[.int .i64 x.lo, .int .i64 x.hi] 23)).alloc (.cells #[.int .i64 y.lo, .int .i64 y.hi] 23)).alloc (.cells #[.int .i64 0, .int .i64 0] 23)).drew).drew) (w.heap.size + 2) 23 #[.int .i64 0, .int .i64 0] := hdx
    replace bw : But g w (((((w.alloc (.cells #[.int .i64 x.lo, .int .i64 x.hi] 23)).alloc (.cells #[.int .i64 y.lo, .int .i64 y.hi] 23)).alloc (.cells #[.int .i64 0, .int .i64 0] 23)).drew).drew) := butx
    (refine wp_region_eag (fun w' => Hd w' w.heap.size 23 #[.int .i64 x.lo, .int .i64 x.hi] ∧ Hd w' (w.heap.size + 1) 23 #[.int .i64 y.lo, .int .i64 y.hi] ∧ But g w w') [(0, true), (1, true), (2, true), (3, true), (5, true), (6, true), (7, true), (8, true), (10, true), (11, true), (12, true), (13, true), (15, true), (16, true), (17, true), (18, true), (4, false), (9, false), (14, false), (19, false), (20, false), (21, true)] (by kernel_rfl) (by kernel_rfl) (fun c d v a w h => by cases d <;> exact h) ⟨HA, HB, bw⟩ ?_; simp only [List.map_cons, List.map_nil, List.getD_cons_zero, List.getD_cons_succ, flMark, Nat.reduceEqDiff, ↓reduceIte])
    repeat ((first | with_reducible apply eag_move | with_reducible apply eag_assign | ((with_reducible refine eag_soft (v := ?_) (fun w' hw' => ?_) ?_); rotate_left 1; (focus (obtain ⟨hA, hB, hBw⟩ := hw'; obtain ⟨hcA, hfA⟩ := hA.facts; obtain ⟨hcB, hfB⟩ := hB.facts; go_simp; (try with_reducible rfl); done)))); simp only [Act.put, Act.eval, qs])
    refine eag_hard ?_
    go_wp2_with fail
    refine (overUp_any x.lo y.lo (by omega) (by omega) (by omega) (by omega) _).mono ?_
    rintro e w'' ⟨rfl, rfl⟩
    go_wp2_with fail
    (try refine ⟨⟨HA, HB, bw⟩, ?_⟩)
    repeat ((first | with_reducible apply eag_move | with_reducible apply eag_assign | ((with_reducible refine eag_soft (v := ?_) (fun w' hw' => ?_) ?_); rotate_left 1; (focus (obtain ⟨hA, hB, hBw⟩ := hw'; obtain ⟨hcA, hfA⟩ := hA.facts; obtain ⟨hcB, hfB⟩ := hB.facts; go_simp; (try with_reducible rfl); done)))); simp only [Act.put, Act.eval, qs])
    refine eag_hard ?_
    go_wp2_with fail
    refine (overUp_any x.lo y.hi (by omega) (by omega) (by omega) (by omega) _).mono ?_
    rintro e w'' ⟨rfl, rfl⟩
    go_wp2_with fail
    (try refine ⟨⟨HA, HB, bw⟩, ?_⟩)
    repeat ((first | with_reducible apply eag_move | with_reducible apply eag_assign | ((with_reducible refine eag_soft (v := ?_) (fun w' hw' => ?_) ?_); rotate_left 1; (focus (obtain ⟨hA, hB, hBw⟩ := hw'; obtain ⟨hcA, hfA⟩ := hA.facts; obtain ⟨hcB, hfB⟩ := hB.facts; go_simp; (try with_reducible rfl); done)))); simp only [Act.put, Act.eval, qs])
    refine eag_hard ?_
    go_wp2_with fail
    refine (overUp_any x.hi y.lo (by omega) (by omega) (by omega) (by omega) _).mono ?_
    rintro e w'' ⟨rfl, rfl⟩
    go_wp2_with fail
    (try refine ⟨⟨HA, HB, bw⟩, ?_⟩)
    repeat ((first | with_reducible apply eag_move | with_reducible apply eag_assign | ((with_reducible refine eag_soft (v := ?_) (fun w' hw' => ?_) ?_); rotate_left 1; (focus (obtain ⟨hA, hB, hBw⟩ := hw'; obtain ⟨hcA, hfA⟩ := hA.facts; obtain ⟨hcB, hfB⟩ := hB.facts; go_simp; (try with_reducible rfl); done)))); simp only [Act.put, Act.eval, qs])
    refine eag_hard ?_
    go_wp2_with fail
    refine (overUp_any x.hi y.hi (by omega) (by omega) (by omega) (by omega) _).mono ?_
    rintro e w'' ⟨rfl, rfl⟩
    go_wp2_with fail
    (try refine ⟨⟨HA, HB, bw⟩, ?_⟩)
    repeat ((first | with_reducible apply eag_move | with_reducible apply eag_assign | ((with_reducible refine eag_soft (v := ?_) (fun w' hw' => ?_) ?_); rotate_left 1; (focus (obtain ⟨hA, hB, hBw⟩ := hw'; obtain ⟨hcA, hfA⟩ := hA.facts; obtain ⟨hcB, hfB⟩ := hB.facts; go_simp; (try with_reducible rfl); done)))); simp only [Act.put, Act.eval, qs])
    refine eag_hard ?_
    go_wp2_with fail
    (try refine ⟨⟨HA, HB, bw⟩, ?_⟩)
    repeat ((first | with_reducible apply eag_move | with_reducible apply eag_assign | ((with_reducible refine eag_soft (v := ?_) (fun w' hw' => ?_) ?_); rotate_left 1; (focus (obtain ⟨hA, hB, hBw⟩ := hw'; obtain ⟨hcA, hfA⟩ := hA.facts; obtain ⟨hcB, hfB⟩ := hB.facts; go_simp; (try with_reducible rfl); done)))); simp only [Act.put, Act.eval, qs])
    refine eag_nil ?_
    go_wp2_with fail
    refine (wspan_any _ _ 0 g _ HG).mono ?_
    rintro e w1 ⟨z1, e1, rfl, ok1, zz1, qq1, HG1, hb1⟩
    replace bw : But g w w1 := bw.trans hb1
    replace HA := HA.but hb1 (by omega)
    replace HB := HB.but hb1 (by omega)
    replace HO := HO.but hb1 (by omega)
    replace HG := HG1
    clear HG1
    replace qq1 := Lib.hid qq1
    replace zz1 := Lib.hid zz1
    have lw1 : w.heap.size ≤ w1.heap.size := bw.size
    clear hb1
    obtain ⟨hcO, hfO⟩ := HO.facts
    go_wp2
    refine bodyPost_ret (run_results1 rfl rfl (by (show Hd _ ((w.heap.size + 2)) 23 #[.int .i64 z1.lo, .int .i64 z1.hi]); exact hdx) Try.underlying23 rfl (by kernel_rfl)) rfl ⟨z1, e1, rfl, ok1, zz1.out, (by rw [En.div_eq hy1 hy2, min4, max4]; exact qq1.out), by exact hdx, by exact butx⟩
  · clear hyy
    have hlt1 : g < w.heap.size + 1 := by omega
    have hlt2 : g < w.heap.size + 1 + 1 := by omega
    go_enter Try.func120, Try.ntmps120
    go_wp2
    refine bodyPost_ret (run_results1 rfl rfl (by (show Hd _ (w.heap.size + 2) 23 #[.int .i64 0, .int .i64 0]); exact hdx) Try.underlying23 rfl (by kernel_rfl)) rfl ⟨⟨0, 0⟩, e0, rfl, rfl, fun _ => rfl, .inr ⟨h0, rfl⟩, by exact hdx, by exact butx⟩

theorem En.Stk.stays {α : Type} {r : En.R α} {e e' : Int} {z : α} (h : En.Stk r e z e') (he : e ≠ 0) : e' = e := by
  rcases h with ⟨h1, _⟩ | ⟨_, h2⟩
  · exact absurd h1 he
  · exact h2
theorem En.conj_ok {y : En.Rc} (h : y.ok = true) : (En.conj y).ok = true := by
  have h1 : (En.okS y.re.lo y.re.hi && En.okS y.im.lo y.im.hi) = true := h
  rw [Bool.and_eq_true] at h1
  obtain ⟨h1, h2⟩ := h1
  show (En.okS y.re.lo y.re.hi && En.okS (-y.im.hi) (-y.im.lo)) = true
  rw [h1]
  simp only [En.okS, Bool.and_eq_true, decide_eq_true_eq, Bool.true_and] at h2 ⊢
  omega

set_option maxHeartbeats 2000000 in
theorem rdiv_any (x y : En.Rc) (hx : x.ok = true) (hy : y.ok = true) (e0 : Int) (g : Nat) (w : World) (HG : Hd w g 83 #[.int .i64 e0]) :
    Calls Try.prog 79 #[ptr g, rcV x, rcV y] w (PostR (En.quotient x y) g e0 w) := by
  have hlt := HG.lt
  have bw := But.refl g w
  obtain ⟨xr, xi⟩ := En.Rc.fit_of_ok hx
  obtain ⟨yr, yi⟩ := En.Rc.fit_of_ok hy
  obtain ⟨hcG, hfG⟩ := HG.facts
  go_enter Try.func79, Try.ntmps79
  go_wp2_with fail
  replace HG : Hd (((w.alloc (.cells #[.int .i64 x.re.lo, .int .i64 x.re.hi, .int .i64 x.im.lo, .int .i64 x.im.hi] 25)).alloc (.cells #[.int .i64 y.re.lo, .int .i64 y.re.hi, .int .i64 y.im.lo, .int .i64 y.im.hi] 25)).alloc (.cells #[.int .i64 0, .int .i64 0, .int .i64 0, .int .i64 0] 25)) g 83 #[.int .i64 e0] := hdx
  have HA : Hd (((w.alloc (.cells #[.int .i64 x.re.lo, .int .i64 x.re.hi, .int .i64 x.im.lo, .int .i64 x.im.hi] 25)).alloc (.cells #[.int .i64 y.re.lo, .int .i64 y.re.hi, .int .i64 y.im.lo, .int .i64 y.im.hi] 25)).alloc (.cells #[.int .i64 0, .int .i64 0, .int .i64 0, .int .i64 0] 25)) w.heap.size 25 #[.int .i64 x.re.lo, .int .i64 x.re.hi, .int .i64 x.im.lo, .int .i64 x.im.hi] := hdx
  have HB : Hd (((w.alloc (.cells #[.int .i64 x.re.lo, .int .i64 x.re.hi, .int .i64 x.im.lo, .int .i64 x.im.hi] 25)).alloc (.cells #[.int .i64 y.re.lo, .int .i64 y.re.hi, .int .i64 y.im.lo, .int .i64 y.im.hi] 25)).alloc (.cells #[.int .i64 0, .int .i64 0, .int .i64 0, .int .i64 0] 25)) (w.heap.size + 1) 25 #[.int .i64 y.re.lo, .int .i64 y.re.hi, .int .i64 y.im.lo, .int .i64 y.im.hi] := hdx
  have HO : Hd (((w.alloc (.cells #[.int .i64 x.re.lo, .int .i64 x.re.hi, .int .i64 x.im.lo, .int .i64 x.im.hi] 25)).alloc (.cells #[.int .i64 y.re.lo, .int .i64 y.re.hi, .int .i64 y.im.lo, .int .i64 y.im.hi] 25)).alloc (.cells #[.int .i64 0, .int .i64 0, .int .i64 0, .int .i64 0] 25)) (w.heap.size + 2) 25 #[.int .i64 0, .int .i64 0, .int .i64 0, .int .i64 0] := hdx
  replace bw : But g w (((w.alloc (.cells #[.int .i64 x.re.lo, .int .i64 x.re.hi, .int .i64 x.im.lo, .int .i64 x.im.hi] 25)).alloc (.cells #[.int .i64 y.re.lo, .int .i64 y.re.hi, .int .i64 y.im.lo, .int .i64 y.im.hi] 25)).alloc (.cells #[.int .i64 0, .int .i64 0, .int .i64 0, .int .i64 0] 25)) := butx
  have okc : (En.conj y).ok = true := En.conj_ok hy
  refine (wpower_any y hy e0 g _ HG).mono ?_
  rintro e w1 ⟨z1, e1, rfl, ok1, zz1, qq1, HG1, hb1⟩
  replace bw : But g w w1 := bw.trans hb1
  replace HA := HA.but hb1 (by omega)
  replace HB := HB.but hb1 (by omega)
  replace HO := HO.but hb1 (by omega)
  replace HG := HG1
  clear HG1
  replace qq1 := Lib.hid qq1
  replace zz1 := Lib.hid zz1
  have lw1 : w.heap.size ≤ w1.heap.size := bw.size
  clear hb1
  obtain ⟨hcG, hfG⟩ := HG.facts
  obtain ⟨hcA, hfA⟩ := HA.facts
  obtain ⟨hcB, hfB⟩ := HB.facts
  obtain ⟨hcO, hfO⟩ := HO.facts
  have ltG := HG.lt
  have ltA := HA.lt
  have ltB := HB.lt
  have ltO := HO.lt
  have hpl := En.Sp.le_of_ok ok1
  obtain ⟨yi1, yi2, yi3, yi4⟩ := yi
  by_cases he : e1 = 0
  · subst he
    by_cases hp : z1.lo ≤ 0
    · have hp0 := Lib.hid hp
      go_wp2_with fail
      replace HG : Hd ((((w1.setCell ⟨g, 0, none⟩ (.int .i64 51)).setCell ⟨(w.heap.size + 1), 2, none⟩ (.int .i64 (-y.im.hi))).setCell ⟨(w.heap.size + 1), 3, none⟩ (.int .i64 (-y.im.lo))).alloc (.cells #[.int .i64 z1.lo, .int .i64 z1.hi] 23)) g 83 #[.int .i64 51] := hdx
      replace HA : Hd ((((w1.setCell ⟨g, 0, none⟩ (.int .i64 51)).setCell ⟨(w.heap.size + 1), 2, none⟩ (.int .i64 (-y.im.hi))).setCell ⟨(w.heap.size + 1), 3, none⟩ (.int .i64 (-y.im.lo))).alloc (.cells #[.int .i64 z1.lo, .int .i64 z1.hi] 23)) w.heap.size 25 #[.int .i64 x.re.lo, .int .i64 x.re.hi, .int .i64 x.im.lo, .int .i64 x.im.hi] := hdx
      replace HB : Hd ((((w1.setCell ⟨g, 0, none⟩ (.int .i64 51)).setCell ⟨(w.heap.size + 1), 2, none⟩ (.int .i64 (-y.im.hi))).setCell ⟨(w.heap.size + 1), 3, none⟩ (.int .i64 (-y.im.lo))).alloc (.cells #[.int .i64 z1.lo, .int .i64 z1.hi] 23)) (w.heap.size + 1) 25 #[.int .i64 y.re.lo, .int .i64 y.re.hi, .int .i64 (-y.im.hi), .int .i64 (-y.im.lo)] := hdx
      replace HO : Hd ((((w1.setCell ⟨g, 0, none⟩ (.int .i64 51)).setCell ⟨(w.heap.size + 1), 2, none⟩ (.int .i64 (-y.im.hi))).setCell ⟨(w.heap.size + 1), 3, none⟩ (.int .i64 (-y.im.lo))).alloc (.cells #[.int .i64 z1.lo, .int .i64 z1.hi] 23)) (w.heap.size + 2) 25 #[.int .i64 0, .int .i64 0, .int .i64 0, .int .i64 0] := hdx
      replace bw : But g w ((((w1.setCell ⟨g, 0, none⟩ (.int .i64 51)).setCell ⟨(w.heap.size + 1), 2, none⟩ (.int .i64 (-y.im.hi))).setCell ⟨(w.heap.size + 1), 3, none⟩ (.int .i64 (-y.im.lo))).alloc (.cells #[.int .i64 z1.lo, .int .i64 z1.hi] 23)) := butx
      have HP : Hd ((((w1.setCell ⟨g, 0, none⟩ (.int .i64 51)).setCell ⟨(w.heap.size + 1), 2, none⟩ (.int .i64 (-y.im.hi))).setCell ⟨(w.heap.size + 1), 3, none⟩ (.int .i64 (-y.im.lo))).alloc (.cells #[.int .i64 z1.lo, .int .i64 z1.hi] 23)) w1.heap.size 23 #[.int .i64 z1.lo, .int .i64 z1.hi] := hdx
      have ltP := HP.lt
      refine (rmul_any x (En.conj y) hx okc 51 g _ HG).mono ?_
      rintro e w2 ⟨z2, e2, rfl, ok2, qq2, HG2, hb2⟩
      replace bw : But g w w2 := bw.trans hb2
      replace HA := HA.but hb2 (by omega)
      replace HB := HB.but hb2 (by omega)
      replace HO := HO.but hb2 (by omega)
      replace HP := HP.but hb2 (by omega)
      replace HG := HG2
      clear HG2
      replace qq2 := Lib.hid qq2
      have lw2 : w.heap.size ≤ w2.heap.size := bw.size
      clear hb2
      obtain ⟨hcG, hfG⟩ := HG.facts
      obtain ⟨hcA, hfA⟩ := HA.facts
      obtain ⟨hcB, hfB⟩ := HB.facts
      obtain ⟨hcO, hfO⟩ := HO.facts
      obtain ⟨hcP, hfP⟩ := HP.facts
      have ltG2 := HG.lt
      have ltA2 := HA.lt
      have ltB2 := HB.lt
      have ltO2 := HO.lt
      have ltP2 := HP.lt
      go_upto_region 6 with fail
      replace HG : Hd ((w2.alloc (.cells #[.int .i64 z2.re.lo, .int .i64 z2.re.hi, .int .i64 z2.im.lo, .int .i64 z2.im.hi] 25)).drew) g 83 #[.int .i64 e2] := hdx
      replace HA : Hd ((w2.alloc (.cells #[.int .i64 z2.re.lo, .int .i64 z2.re.hi, .int .i64 z2.im.lo, .int .i64 z2.im.hi] 25)).drew) w.heap.size 25 #[.int .i64 x.re.lo, .int .i64 x.re.hi, .int .i64 x.im.lo, .int .i64 x.im.hi] := hdx
      replace HB : Hd ((w2.alloc (.cells #[.int .i64 z2.re.lo, .int .i64 z2.re.hi, .int .i64 z2.im.lo, .int .i64 z2.im.hi] 25)).drew) (w.heap.size + 1) 25 #[.int .i64 y.re.lo, .int .i64 y.re.hi, .int .i64 (-y.im.hi), .int .i64 (-y.im.lo)] := hdx
      replace HO : Hd ((w2.alloc (.cells #[.int .i64 z2.re.lo, .int .i64 z2.re.hi, .int .i64 z2.im.lo, .int .i64 z2.im.hi] 25)).drew) (w.heap.size + 2) 25 #[.int .i64 0, .int .i64 0, .int .i64 0, .int .i64 0] := hdx
      replace HP : Hd ((w2.alloc (.cells #[.int .i64 z2.re.lo, .int .i64 z2.re.hi, .int .i64 z2.im.lo, .int .i64 z2.im.hi] 25)).drew) w1.heap.size 23 #[.int .i64 z1.lo, .int .i64 z1.hi] := hdx
      replace bw : But g w ((w2.alloc (.cells #[.int .i64 z2.re.lo, .int .i64 z2.re.hi, .int .i64 z2.im.lo, .int .i64 z2.im.hi] 25)).drew) := butx
      have HZ : Hd ((w2.alloc (.cells #[.int .i64 z2.re.lo, .int .i64 z2.re.hi, .int .i64 z2.im.lo, .int .i64 z2.im.hi] 25)).drew) w2.heap.size 25 #[.int .i64 z2.re.lo, .int .i64 z2.re.hi, .int .i64 z2.im.lo, .int .i64 z2.im.hi] := hdx
      obtain ⟨okr, oki⟩ : z2.re.ok = true ∧ z2.im.ok = true := by have h := ok2; simp only [En.Rc.ok, Bool.and_eq_true] at h; exact h
      (refine wp_region_eag (fun w' => Hd w' w2.heap.size 25 #[.int .i64 z2.re.lo, .int .i64 z2.re.hi, .int .i64 z2.im.lo, .int .i64 z2.im.hi] ∧ Hd w' w1.heap.size 23 #[.int .i64 z1.lo, .int .i64 z1.hi] ∧ But g w w') [(0, true), (1, true), (2, true), (3, true), (5, true), (6, true), (7, true), (8, true), (4, false), (9, false), (10, true), (11, false)] (by kernel_rfl) (by kernel_rfl) (fun c d v a w h => by cases d <;> exact h) ⟨HZ, HP, bw⟩ ?_; simp only [List.map_cons, List.map_nil, List.getD_cons_zero, List.getD_cons_succ, flMark, Nat.reduceEqDiff, ↓reduceIte])
      repeat ((first | with_reducible apply eag_move | with_reducible apply eag_assign | ((with_reducible refine eag_soft (v := ?_) (fun w' hw' => ?_) ?_); rotate_left 1; (focus (obtain ⟨hZ, hP, hBw⟩ := hw'; obtain ⟨hcZ, hfZ⟩ := hZ.facts; obtain ⟨hcP, hfP⟩ := hP.facts; go_simp; (try with_reducible rfl); done)))); simp only [Act.put, Act.eval, qs])
      refine eag_hard ?_
      go_wp2_with fail
      refine (wover_any z2.re z1 (En.Sp.fit_of_ok okr) (En.Sp.fit_of_ok ok1) e2 (fun h => absurd h (by rw [En.Stk.stays qq2.out (by decide)]; decide)) g _ HG).mono ?_
      rintro e w3 ⟨z3, e3, rfl, ok3, zz3, qq3, HG3, hb3⟩
      replace bw : But g w w3 := bw.trans hb3
      replace HA := HA.but hb3 (by omega)
      replace HB := HB.but hb3 (by omega)
      replace HO := HO.but hb3 (by omega)
      replace HP := HP.but hb3 (by omega)
      replace HZ := HZ.but hb3 (by omega)
      replace HG := HG3
      clear HG3
      replace qq3 := Lib.hid qq3
      replace zz3 := Lib.hid zz3
      have lw3 : w.heap.size ≤ w3.heap.size := bw.size
      clear hb3
      go_wp2_with fail
      (try refine ⟨⟨HZ, HP, bw⟩, ?_⟩)
      repeat ((first | with_reducible apply eag_move | with_reducible apply eag_assign | ((with_reducible refine eag_soft (v := ?_) (fun w' hw' => ?_) ?_); rotate_left 1; (focus (obtain ⟨hZ, hP, hBw⟩ := hw'; obtain ⟨hcZ, hfZ⟩ := hZ.facts; obtain ⟨hcP, hfP⟩ := hP.facts; go_simp; (try with_reducible rfl); done)))); simp only [Act.put, Act.eval, qs])
      refine eag_hard ?_
      go_wp2_with fail
      refine (wover_any z2.im z1 (En.Sp.fit_of_ok oki) (En.Sp.fit_of_ok ok1) e3 (fun h => absurd h (by rw [En.Stk.stays qq3.out (by rw [En.Stk.stays qq2.out (by decide)]; decide), En.Stk.stays qq2.out (by decide)]; decide)) g _ HG).mono ?_
      rintro e w4 ⟨z4, e4, rfl, ok4, zz4, qq4, HG4, hb4⟩
      replace bw : But g w w4 := bw.trans hb4
      replace HA := HA.but hb4 (by omega)
      replace HB := HB.but hb4 (by omega)
      replace HO := HO.but hb4 (by omega)
      replace HP := HP.but hb4 (by omega)
      replace HZ := HZ.but hb4 (by omega)
      replace HG := HG4
      clear HG4
      replace qq4 := Lib.hid qq4
      replace zz4 := Lib.hid zz4
      have lw4 : w.heap.size ≤ w4.heap.size := bw.size
      clear hb4
      go_wp2_with fail
      (try refine ⟨⟨HZ, HP, bw⟩, ?_⟩)
      repeat ((first | with_reducible apply eag_move | with_reducible apply eag_assign | ((with_reducible refine eag_soft (v := ?_) (fun w' hw' => ?_) ?_); rotate_left 1; (focus (obtain ⟨hZ, hP, hBw⟩ := hw'; obtain ⟨hcZ, hfZ⟩ := hZ.facts; obtain ⟨hcP, hfP⟩ := hP.facts; go_simp; (try with_reducible rfl); done)))); simp only [Act.put, Act.eval, qs])
      obtain ⟨hcO, hfO⟩ := HO.facts
      refine eag_hard ?_
      go_wp2_with fail
      replace HG : Hd ((((w4.setCell ⟨(w.heap.size + 2), 0, none⟩ (.int .i64 z3.lo)).setCell ⟨(w.heap.size + 2), 1, none⟩ (.int .i64 z3.hi)).setCell ⟨(w.heap.size + 2), 2, none⟩ (.int .i64 z4.lo)).setCell ⟨(w.heap.size + 2), 3, none⟩ (.int .i64 z4.hi)) g 83 #[.int .i64 e4] := hdx
      replace HA : Hd ((((w4.setCell ⟨(w.heap.size + 2), 0, none⟩ (.int .i64 z3.lo)).setCell ⟨(w.heap.size + 2), 1, none⟩ (.int .i64 z3.hi)).setCell ⟨(w.heap.size + 2), 2, none⟩ (.int .i64 z4.lo)).setCell ⟨(w.heap.size + 2), 3, none⟩ (.int .i64 z4.hi)) w.heap.size 25 #[.int .i64 x.re.lo, .int .i64 x.re.hi, .int .i64 x.im.lo, .int .i64 x.im.hi] := hdx
      replace HB : Hd ((((w4.setCell ⟨(w.heap.size + 2), 0, none⟩ (.int .i64 z3.lo)).setCell ⟨(w.heap.size + 2), 1, none⟩ (.int .i64 z3.hi)).setCell ⟨(w.heap.size + 2), 2, none⟩ (.int .i64 z4.lo)).setCell ⟨(w.heap.size + 2), 3, none⟩ (.int .i64 z4.hi)) (w.heap.size + 1) 25 #[.int .i64 y.re.lo, .int .i64 y.re.hi, .int .i64 (-y.im.hi), .int .i64 (-y.im.lo)] := hdx
      replace HO : Hd ((((w4.setCell ⟨(w.heap.size + 2), 0, none⟩ (.int .i64 z3.lo)).setCell ⟨(w.heap.size + 2), 1, none⟩ (.int .i64 z3.hi)).setCell ⟨(w.heap.size + 2), 2, none⟩ (.int .i64 z4.lo)).setCell ⟨(w.heap.size + 2), 3, none⟩ (.int .i64 z4.hi)) (w.heap.size + 2) 25 #[.int .i64 z3.lo, .int .i64 z3.hi, .int .i64 z4.lo, .int .i64 z4.hi] := hdx
      replace HP : Hd ((((w4.setCell ⟨(w.heap.size + 2), 0, none⟩ (.int .i64 z3.lo)).setCell ⟨(w.heap.size + 2), 1, none⟩ (.int .i64 z3.hi)).setCell ⟨(w.heap.size + 2), 2, none⟩ (.int .i64 z4.lo)).setCell ⟨(w.heap.size + 2), 3, none⟩ (.int .i64 z4.hi)) w1.heap.size 23 #[.int .i64 z1.lo, .int .i64 z1.hi] := hdx
      replace HZ : Hd ((((w4.setCell ⟨(w.heap.size + 2), 0, none⟩ (.int .i64 z3.lo)).setCell ⟨(w.heap.size + 2), 1, none⟩ (.int .i64 z3.hi)).setCell ⟨(w.heap.size + 2), 2, none⟩ (.int .i64 z4.lo)).setCell ⟨(w.heap.size + 2), 3, none⟩ (.int .i64 z4.hi)) w2.heap.size 25 #[.int .i64 z2.re.lo, .int .i64 z2.re.hi, .int .i64 z2.im.lo, .int .i64 z2.im.hi] := hdx
      replace bw : But g w ((((w4.setCell ⟨(w.heap.size + 2), 0, none⟩ (.int .i64 z3.lo)).setCell ⟨(w.heap.size + 2), 1, none⟩ (.int .i64 z3.hi)).setCell ⟨(w.heap.size + 2), 2, none⟩ (.int .i64 z4.lo)).setCell ⟨(w.heap.size + 2), 3, none⟩ (.int .i64 z4.hi)) := butx
      (try refine ⟨⟨HZ, HP, bw⟩, ?_⟩)
      refine eag_nil ?_
      go_wp2
      refine bodyPost_ret (run_results1 rfl rfl (by (show Hd _ (w.heap.size + 2) 25 #[.int .i64 z3.lo, .int .i64 z3.hi, .int .i64 z4.lo, .int .i64 z4.hi]); exact hdx) Try.underlying25 rfl (by kernel_rfl)) rfl ⟨⟨z3, z4⟩, e4, rfl, En.Rc.ok_mk ok3 ok4, qq1.out.bind (by rw [if_pos hp0.out]; have h2 := En.Stk.stays qq2.out (by decide); subst h2; have h3 := En.Stk.stays qq3.out (by decide); subst h3; have h4 := En.Stk.stays qq4.out (by decide); subst h4; exact .inl ⟨rfl, .inr ⟨rfl, by decide⟩⟩), by exact hdx, by exact butx⟩
    · have hp0 := Lib.hid (show 0 < z1.lo by omega)
      go_wp2_with fail
      replace HG : Hd (((w1.setCell ⟨(w.heap.size + 1), 2, none⟩ (.int .i64 (-y.im.hi))).setCell ⟨(w.heap.size + 1), 3, none⟩ (.int .i64 (-y.im.lo))).alloc (.cells #[.int .i64 z1.lo, .int .i64 z1.hi] 23)) g 83 #[.int .i64 0] := hdx
      replace HA : Hd (((w1.setCell ⟨(w.heap.size + 1), 2, none⟩ (.int .i64 (-y.im.hi))).setCell ⟨(w.heap.size + 1), 3, none⟩ (.int .i64 (-y.im.lo))).alloc (.cells #[.int .i64 z1.lo, .int .i64 z1.hi] 23)) w.heap.size 25 #[.int .i64 x.re.lo, .int .i64 x.re.hi, .int .i64 x.im.lo, .int .i64 x.im.hi] := hdx
      replace HB : Hd (((w1.setCell ⟨(w.heap.size + 1), 2, none⟩ (.int .i64 (-y.im.hi))).setCell ⟨(w.heap.size + 1), 3, none⟩ (.int .i64 (-y.im.lo))).alloc (.cells #[.int .i64 z1.lo, .int .i64 z1.hi] 23)) (w.heap.size + 1) 25 #[.int .i64 y.re.lo, .int .i64 y.re.hi, .int .i64 (-y.im.hi), .int .i64 (-y.im.lo)] := hdx
      replace HO : Hd (((w1.setCell ⟨(w.heap.size + 1), 2, none⟩ (.int .i64 (-y.im.hi))).setCell ⟨(w.heap.size + 1), 3, none⟩ (.int .i64 (-y.im.lo))).alloc (.cells #[.int .i64 z1.lo, .int .i64 z1.hi] 23)) (w.heap.size + 2) 25 #[.int .i64 0, .int .i64 0, .int .i64 0, .int .i64 0] := hdx
      replace bw : But g w (((w1.setCell ⟨(w.heap.size + 1), 2, none⟩ (.int .i64 (-y.im.hi))).setCell ⟨(w.heap.size + 1), 3, none⟩ (.int .i64 (-y.im.lo))).alloc (.cells #[.int .i64 z1.lo, .int .i64 z1.hi] 23)) := butx
      have HP : Hd (((w1.setCell ⟨(w.heap.size + 1), 2, none⟩ (.int .i64 (-y.im.hi))).setCell ⟨(w.heap.size + 1), 3, none⟩ (.int .i64 (-y.im.lo))).alloc (.cells #[.int .i64 z1.lo, .int .i64 z1.hi] 23)) w1.heap.size 23 #[.int .i64 z1.lo, .int .i64 z1.hi] := hdx
      have ltP := HP.lt
      refine (rmul_any x (En.conj y) hx okc 0 g _ HG).mono ?_
      rintro e w2 ⟨z2, e2, rfl, ok2, qq2, HG2, hb2⟩
      replace bw : But g w w2 := bw.trans hb2
      replace HA := HA.but hb2 (by omega)
      replace HB := HB.but hb2 (by omega)
      replace HO := HO.but hb2 (by omega)
      replace HP := HP.but hb2 (by omega)
      replace HG := HG2
      clear HG2
      replace qq2 := Lib.hid qq2
      have lw2 : w.heap.size ≤ w2.heap.size := bw.size
      clear hb2
      obtain ⟨hcG, hfG⟩ := HG.facts
      obtain ⟨hcA, hfA⟩ := HA.facts
      obtain ⟨hcB, hfB⟩ := HB.facts
      obtain ⟨hcO, hfO⟩ := HO.facts
      obtain ⟨hcP, hfP⟩ := HP.facts
      have ltG2 := HG.lt
      have ltA2 := HA.lt
      have ltB2 := HB.lt
      have ltO2 := HO.lt
      have ltP2 := HP.lt
      go_upto_region 6 with fail
      replace HG : Hd ((w2.alloc (.cells #[.int .i64 z2.re.lo, .int .i64 z2.re.hi, .int .i64 z2.im.lo, .int .i64 z2.im.hi] 25)).drew) g 83 #[.int .i64 e2] := hdx
      replace HA : Hd ((w2.alloc (.cells #[.int .i64 z2.re.lo, .int .i64 z2.re.hi, .int .i64 z2.im.lo, .int .i64 z2.im.hi] 25)).drew) w.heap.size 25 #[.int .i64 x.re.lo, .int .i64 x.re.hi, .int .i64 x.im.lo, .int .i64 x.im.hi] := hdx
      replace HB : Hd ((w2.alloc (.cells #[.int .i64 z2.re.lo, .int .i64 z2.re.hi, .int .i64 z2.im.lo, .int .i64 z2.im.hi] 25)).drew) (w.heap.size + 1) 25 #[.int .i64 y.re.lo, .int .i64 y.re.hi, .int .i64 (-y.im.hi), .int .i64 (-y.im.lo)] := hdx
      replace HO : Hd ((w2.alloc (.cells #[.int .i64 z2.re.lo, .int .i64 z2.re.hi, .int .i64 z2.im.lo, .int .i64 z2.im.hi] 25)).drew) (w.heap.size + 2) 25 #[.int .i64 0, .int .i64 0, .int .i64 0, .int .i64 0] := hdx
      replace HP : Hd ((w2.alloc (.cells #[.int .i64 z2.re.lo, .int .i64 z2.re.hi, .int .i64 z2.im.lo, .int .i64 z2.im.hi] 25)).drew) w1.heap.size 23 #[.int .i64 z1.lo, .int .i64 z1.hi] := hdx
      replace bw : But g w ((w2.alloc (.cells #[.int .i64 z2.re.lo, .int .i64 z2.re.hi, .int .i64 z2.im.lo, .int .i64 z2.im.hi] 25)).drew) := butx
      have HZ : Hd ((w2.alloc (.cells #[.int .i64 z2.re.lo, .int .i64 z2.re.hi, .int .i64 z2.im.lo, .int .i64 z2.im.hi] 25)).drew) w2.heap.size 25 #[.int .i64 z2.re.lo, .int .i64 z2.re.hi, .int .i64 z2.im.lo, .int .i64 z2.im.hi] := hdx
      obtain ⟨okr, oki⟩ : z2.re.ok = true ∧ z2.im.ok = true := by have h := ok2; simp only [En.Rc.ok, Bool.and_eq_true] at h; exact h
      (refine wp_region_eag (fun w' => Hd w' w2.heap.size 25 #[.int .i64 z2.re.lo, .int .i64 z2.re.hi, .int .i64 z2.im.lo, .int .i64 z2.im.hi] ∧ Hd w' w1.heap.size 23 #[.int .i64 z1.lo, .int .i64 z1.hi] ∧ But g w w') [(0, true), (1, true), (2, true), (3, true), (5, true), (6, true), (7, true), (8, true), (4, false), (9, false), (10, true), (11, false)] (by kernel_rfl) (by kernel_rfl) (fun c d v a w h => by cases d <;> exact h) ⟨HZ, HP, bw⟩ ?_; simp only [List.map_cons, List.map_nil, List.getD_cons_zero, List.getD_cons_succ, flMark, Nat.reduceEqDiff, ↓reduceIte])
      repeat ((first | with_reducible apply eag_move | with_reducible apply eag_assign | ((with_reducible refine eag_soft (v := ?_) (fun w' hw' => ?_) ?_); rotate_left 1; (focus (obtain ⟨hZ, hP, hBw⟩ := hw'; obtain ⟨hcZ, hfZ⟩ := hZ.facts; obtain ⟨hcP, hfP⟩ := hP.facts; go_simp; (try with_reducible rfl); done)))); simp only [Act.put, Act.eval, qs])
      refine eag_hard ?_
      go_wp2_with fail
      refine (wover_any z2.re z1 (En.Sp.fit_of_ok okr) (En.Sp.fit_of_ok ok1) e2 (fun h => ⟨hp0.out, hpl⟩) g _ HG).mono ?_
      rintro e w3 ⟨z3, e3, rfl, ok3, zz3, qq3, HG3, hb3⟩
      replace bw : But g w w3 := bw.trans hb3
      replace HA := HA.but hb3 (by omega)
      replace HB := HB.but hb3 (by omega)
      replace HO := HO.but hb3 (by omega)
      replace HP := HP.but hb3 (by omega)
      replace HZ := HZ.but hb3 (by omega)
      replace HG := HG3
      clear HG3
      replace qq3 := Lib.hid qq3
      replace zz3 := Lib.hid zz3
      have lw3 : w.heap.size ≤ w3.heap.size := bw.size
      clear hb3
      go_wp2_with fail
      (try refine ⟨⟨HZ, HP, bw⟩, ?_⟩)
      repeat ((first | with_reducible apply eag_move | with_reducible apply eag_assign | ((with_reducible refine eag_soft (v := ?_) (fun w' hw' => ?_) ?_); rotate_left 1; (focus (obtain ⟨hZ, hP, hBw⟩ := hw'; obtain ⟨hcZ, hfZ⟩ := hZ.facts; obtain ⟨hcP, hfP⟩ := hP.facts; go_simp; (try with_reducible rfl); done)))); simp only [Act.put, Act.eval, qs])
      refine eag_hard ?_
      go_wp2_with fail
      refine (wover_any z2.im z1 (En.Sp.fit_of_ok oki) (En.Sp.fit_of_ok ok1) e3 (fun h => ⟨hp0.out, hpl⟩) g _ HG).mono ?_
      rintro e w4 ⟨z4, e4, rfl, ok4, zz4, qq4, HG4, hb4⟩
      replace bw : But g w w4 := bw.trans hb4
      replace HA := HA.but hb4 (by omega)
      replace HB := HB.but hb4 (by omega)
      replace HO := HO.but hb4 (by omega)
      replace HP := HP.but hb4 (by omega)
      replace HZ := HZ.but hb4 (by omega)
      replace HG := HG4
      clear HG4
      replace qq4 := Lib.hid qq4
      replace zz4 := Lib.hid zz4
      have lw4 : w.heap.size ≤ w4.heap.size := bw.size
      clear hb4
      go_wp2_with fail
      (try refine ⟨⟨HZ, HP, bw⟩, ?_⟩)
      repeat ((first | with_reducible apply eag_move | with_reducible apply eag_assign | ((with_reducible refine eag_soft (v := ?_) (fun w' hw' => ?_) ?_); rotate_left 1; (focus (obtain ⟨hZ, hP, hBw⟩ := hw'; obtain ⟨hcZ, hfZ⟩ := hZ.facts; obtain ⟨hcP, hfP⟩ := hP.facts; go_simp; (try with_reducible rfl); done)))); simp only [Act.put, Act.eval, qs])
      obtain ⟨hcO, hfO⟩ := HO.facts
      refine eag_hard ?_
      go_wp2_with fail
      replace HG : Hd ((((w4.setCell ⟨(w.heap.size + 2), 0, none⟩ (.int .i64 z3.lo)).setCell ⟨(w.heap.size + 2), 1, none⟩ (.int .i64 z3.hi)).setCell ⟨(w.heap.size + 2), 2, none⟩ (.int .i64 z4.lo)).setCell ⟨(w.heap.size + 2), 3, none⟩ (.int .i64 z4.hi)) g 83 #[.int .i64 e4] := hdx
      replace HA : Hd ((((w4.setCell ⟨(w.heap.size + 2), 0, none⟩ (.int .i64 z3.lo)).setCell ⟨(w.heap.size + 2), 1, none⟩ (.int .i64 z3.hi)).setCell ⟨(w.heap.size + 2), 2, none⟩ (.int .i64 z4.lo)).setCell ⟨(w.heap.size + 2), 3, none⟩ (.int .i64 z4.hi)) w.heap.size 25 #[.int .i64 x.re.lo, .int .i64 x.re.hi, .int .i64 x.im.lo, .int .i64 x.im.hi] := hdx
      replace HB : Hd ((((w4.setCell ⟨(w.heap.size + 2), 0, none⟩ (.int .i64 z3.lo)).setCell ⟨(w.heap.size + 2), 1, none⟩ (.int .i64 z3.hi)).setCell ⟨(w.heap.size + 2), 2, none⟩ (.int .i64 z4.lo)).setCell ⟨(w.heap.size + 2), 3, none⟩ (.int .i64 z4.hi)) (w.heap.size + 1) 25 #[.int .i64 y.re.lo, .int .i64 y.re.hi, .int .i64 (-y.im.hi), .int .i64 (-y.im.lo)] := hdx
      replace HO : Hd ((((w4.setCell ⟨(w.heap.size + 2), 0, none⟩ (.int .i64 z3.lo)).setCell ⟨(w.heap.size + 2), 1, none⟩ (.int .i64 z3.hi)).setCell ⟨(w.heap.size + 2), 2, none⟩ (.int .i64 z4.lo)).setCell ⟨(w.heap.size + 2), 3, none⟩ (.int .i64 z4.hi)) (w.heap.size + 2) 25 #[.int .i64 z3.lo, .int .i64 z3.hi, .int .i64 z4.lo, .int .i64 z4.hi] := hdx
      replace HP : Hd ((((w4.setCell ⟨(w.heap.size + 2), 0, none⟩ (.int .i64 z3.lo)).setCell ⟨(w.heap.size + 2), 1, none⟩ (.int .i64 z3.hi)).setCell ⟨(w.heap.size + 2), 2, none⟩ (.int .i64 z4.lo)).setCell ⟨(w.heap.size + 2), 3, none⟩ (.int .i64 z4.hi)) w1.heap.size 23 #[.int .i64 z1.lo, .int .i64 z1.hi] := hdx
      replace HZ : Hd ((((w4.setCell ⟨(w.heap.size + 2), 0, none⟩ (.int .i64 z3.lo)).setCell ⟨(w.heap.size + 2), 1, none⟩ (.int .i64 z3.hi)).setCell ⟨(w.heap.size + 2), 2, none⟩ (.int .i64 z4.lo)).setCell ⟨(w.heap.size + 2), 3, none⟩ (.int .i64 z4.hi)) w2.heap.size 25 #[.int .i64 z2.re.lo, .int .i64 z2.re.hi, .int .i64 z2.im.lo, .int .i64 z2.im.hi] := hdx
      replace bw : But g w ((((w4.setCell ⟨(w.heap.size + 2), 0, none⟩ (.int .i64 z3.lo)).setCell ⟨(w.heap.size + 2), 1, none⟩ (.int .i64 z3.hi)).setCell ⟨(w.heap.size + 2), 2, none⟩ (.int .i64 z4.lo)).setCell ⟨(w.heap.size + 2), 3, none⟩ (.int .i64 z4.hi)) := butx
      (try refine ⟨⟨HZ, HP, bw⟩, ?_⟩)
      refine eag_nil ?_
      go_wp2
      refine bodyPost_ret (run_results1 rfl rfl (by (show Hd _ (w.heap.size + 2) 25 #[.int .i64 z3.lo, .int .i64 z3.hi, .int .i64 z4.lo, .int .i64 z4.hi]); exact hdx) Try.underlying25 rfl (by kernel_rfl)) rfl ⟨⟨z3, z4⟩, e4, rfl, En.Rc.ok_mk ok3 ok4, qq1.out.bind (by rw [if_neg (by have := hp0.out; omega)]; exact qq2.out.bind (qq3.out.bind (qq4.out.bind (En.Stk.pure _ _)))), by exact hdx, by exact butx⟩
  · have hne := Lib.hid he
    go_wp2_with fail
    replace HG : Hd (((w1.setCell ⟨(w.heap.size + 1), 2, none⟩ (.int .i64 (-y.im.hi))).setCell ⟨(w.heap.size + 1), 3, none⟩ (.int .i64 (-y.im.lo))).alloc (.cells #[.int .i64 z1.lo, .int .i64 z1.hi] 23)) g 83 #[.int .i64 e1] := hdx
    replace HA : Hd (((w1.setCell ⟨(w.heap.size + 1), 2, none⟩ (.int .i64 (-y.im.hi))).setCell ⟨(w.heap.size + 1), 3, none⟩ (.int .i64 (-y.im.lo))).alloc (.cells #[.int .i64 z1.lo, .int .i64 z1.hi] 23)) w.heap.size 25 #[.int .i64 x.re.lo, .int .i64 x.re.hi, .int .i64 x.im.lo, .int .i64 x.im.hi] := hdx
    replace HB : Hd (((w1.setCell ⟨(w.heap.size + 1), 2, none⟩ (.int .i64 (-y.im.hi))).setCell ⟨(w.heap.size + 1), 3, none⟩ (.int .i64 (-y.im.lo))).alloc (.cells #[.int .i64 z1.lo, .int .i64 z1.hi] 23)) (w.heap.size + 1) 25 #[.int .i64 y.re.lo, .int .i64 y.re.hi, .int .i64 (-y.im.hi), .int .i64 (-y.im.lo)] := hdx
    replace HO : Hd (((w1.setCell ⟨(w.heap.size + 1), 2, none⟩ (.int .i64 (-y.im.hi))).setCell ⟨(w.heap.size + 1), 3, none⟩ (.int .i64 (-y.im.lo))).alloc (.cells #[.int .i64 z1.lo, .int .i64 z1.hi] 23)) (w.heap.size + 2) 25 #[.int .i64 0, .int .i64 0, .int .i64 0, .int .i64 0] := hdx
    replace bw : But g w (((w1.setCell ⟨(w.heap.size + 1), 2, none⟩ (.int .i64 (-y.im.hi))).setCell ⟨(w.heap.size + 1), 3, none⟩ (.int .i64 (-y.im.lo))).alloc (.cells #[.int .i64 z1.lo, .int .i64 z1.hi] 23)) := butx
    have HP : Hd (((w1.setCell ⟨(w.heap.size + 1), 2, none⟩ (.int .i64 (-y.im.hi))).setCell ⟨(w.heap.size + 1), 3, none⟩ (.int .i64 (-y.im.lo))).alloc (.cells #[.int .i64 z1.lo, .int .i64 z1.hi] 23)) w1.heap.size 23 #[.int .i64 z1.lo, .int .i64 z1.hi] := hdx
    have ltP := HP.lt
    refine (rmul_any x (En.conj y) hx okc e1 g _ HG).mono ?_
    rintro e w2 ⟨z2, e2, rfl, ok2, qq2, HG2, hb2⟩
    replace bw : But g w w2 := bw.trans hb2
    replace HA := HA.but hb2 (by omega)
    replace HB := HB.but hb2 (by omega)
    replace HO := HO.but hb2 (by omega)
    replace HP := HP.but hb2 (by omega)
    replace HG := HG2
    clear HG2
    replace qq2 := Lib.hid qq2
    have lw2 : w.heap.size ≤ w2.heap.size := bw.size
    clear hb2
    obtain ⟨hcG, hfG⟩ := HG.facts
    obtain ⟨hcA, hfA⟩ := HA.facts
    obtain ⟨hcB, hfB⟩ := HB.facts
    obtain ⟨hcO, hfO⟩ := HO.facts
    obtain ⟨hcP, hfP⟩ := HP.facts
    have ltG2 := HG.lt
    have ltA2 := HA.lt
    have ltB2 := HB.lt
    have ltO2 := HO.lt
    have ltP2 := HP.lt
    go_upto_region 6 with fail
    replace HG : Hd ((w2.alloc (.cells #[.int .i64 z2.re.lo, .int .i64 z2.re.hi, .int .i64 z2.im.lo, .int .i64 z2.im.hi] 25)).drew) g 83 #[.int .i64 e2] := hdx
    replace HA : Hd ((w2.alloc (.cells #[.int .i64 z2.re.lo, .int .i64 z2.re.hi, .int .i64 z2.im.lo, .int .i64 z2.im.hi] 25)).drew) w.heap.size 25 #[.int .i64 x.re.lo, .int .i64 x.re.hi, .int .i64 x.im.lo, .int .i64 x.im.hi] := hdx
    replace HB : Hd ((w2.alloc (.cells #[.int .i64 z2.re.lo, .int .i64 z2.re.hi, .int .i64 z2.im.lo, .int .i64 z2.im.hi] 25)).drew) (w.heap.size + 1) 25 #[.int .i64 y.re.lo, .int .i64 y.re.hi, .int .i64 (-y.im.hi), .int .i64 (-y.im.lo)] := hdx
    replace HO : Hd ((w2.alloc (.cells #[.int .i64 z2.re.lo, .int .i64 z2.re.hi, .int .i64 z2.im.lo, .int .i64 z2.im.hi] 25)).drew) (w.heap.size + 2) 25 #[.int .i64 0, .int .i64 0, .int .i64 0, .int .i64 0] := hdx
    replace HP : Hd ((w2.alloc (.cells #[.int .i64 z2.re.lo, .int .i64 z2.re.hi, .int .i64 z2.im.lo, .int .i64 z2.im.hi] 25)).drew) w1.heap.size 23 #[.int .i64 z1.lo, .int .i64 z1.hi] := hdx
    replace bw : But g w ((w2.alloc (.cells #[.int .i64 z2.re.lo, .int .i64 z2.re.hi, .int .i64 z2.im.lo, .int .i64 z2.im.hi] 25)).drew) := butx
    have HZ : Hd ((w2.alloc (.cells #[.int .i64 z2.re.lo, .int .i64 z2.re.hi, .int .i64 z2.im.lo, .int .i64 z2.im.hi] 25)).drew) w2.heap.size 25 #[.int .i64 z2.re.lo, .int .i64 z2.re.hi, .int .i64 z2.im.lo, .int .i64 z2.im.hi] := hdx
    obtain ⟨okr, oki⟩ : z2.re.ok = true ∧ z2.im.ok = true := by have h := ok2; simp only [En.Rc.ok, Bool.and_eq_true] at h; exact h
    (refine wp_region_eag (fun w' => Hd w' w2.heap.size 25 #[.int .i64 z2.re.lo, .int .i64 z2.re.hi, .int .i64 z2.im.lo, .int .i64 z2.im.hi] ∧ Hd w' w1.heap.size 23 #[.int .i64 z1.lo, .int .i64 z1.hi] ∧ But g w w') [(0, true), (1, true), (2, true), (3, true), (5, true), (6, true), (7, true), (8, true), (4, false), (9, false), (10, true), (11, false)] (by kernel_rfl) (by kernel_rfl) (fun c d v a w h => by cases d <;> exact h) ⟨HZ, HP, bw⟩ ?_; simp only [List.map_cons, List.map_nil, List.getD_cons_zero, List.getD_cons_succ, flMark, Nat.reduceEqDiff, ↓reduceIte])
    repeat ((first | with_reducible apply eag_move | with_reducible apply eag_assign | ((with_reducible refine eag_soft (v := ?_) (fun w' hw' => ?_) ?_); rotate_left 1; (focus (obtain ⟨hZ, hP, hBw⟩ := hw'; obtain ⟨hcZ, hfZ⟩ := hZ.facts; obtain ⟨hcP, hfP⟩ := hP.facts; go_simp; (try with_reducible rfl); done)))); simp only [Act.put, Act.eval, qs])
    refine eag_hard ?_
    go_wp2_with fail
    refine (wover_any z2.re z1 (En.Sp.fit_of_ok okr) (En.Sp.fit_of_ok ok1) e2 (fun h => absurd h (by rw [En.Stk.stays qq2.out hne.out]; exact hne.out)) g _ HG).mono ?_
    rintro e w3 ⟨z3, e3, rfl, ok3, zz3, qq3, HG3, hb3⟩
    replace bw : But g w w3 := bw.trans hb3
    replace HA := HA.but hb3 (by omega)
    replace HB := HB.but hb3 (by omega)
    replace HO := HO.but hb3 (by omega)
    replace HP := HP.but hb3 (by omega)
    replace HZ := HZ.but hb3 (by omega)
    replace HG := HG3
    clear HG3
    replace qq3 := Lib.hid qq3
    replace zz3 := Lib.hid zz3
    have lw3 : w.heap.size ≤ w3.heap.size := bw.size
    clear hb3
    go_wp2_with fail
    (try refine ⟨⟨HZ, HP, bw⟩, ?_⟩)
    repeat ((first | with_reducible apply eag_move | with_reducible apply eag_assign | ((with_reducible refine eag_soft (v := ?_) (fun w' hw' => ?_) ?_); rotate_left 1; (focus (obtain ⟨hZ, hP, hBw⟩ := hw'; obtain ⟨hcZ, hfZ⟩ := hZ.facts; obtain ⟨hcP, hfP⟩ := hP.facts; go_simp; (try with_reducible rfl); done)))); simp only [Act.put, Act.eval, qs])
    refine eag_hard ?_
    go_wp2_with fail
    refine (wover_any z2.im z1 (En.Sp.fit_of_ok oki) (En.Sp.fit_of_ok ok1) e3 (fun h => absurd h (by rw [En.Stk.stays qq3.out (by rw [En.Stk.stays qq2.out hne.out]; exact hne.out), En.Stk.stays qq2.out hne.out]; exact hne.out)) g _ HG).mono ?_
    rintro e w4 ⟨z4, e4, rfl, ok4, zz4, qq4, HG4, hb4⟩
    replace bw : But g w w4 := bw.trans hb4
    replace HA := HA.but hb4 (by omega)
    replace HB := HB.but hb4 (by omega)
    replace HO := HO.but hb4 (by omega)
    replace HP := HP.but hb4 (by omega)
    replace HZ := HZ.but hb4 (by omega)
    replace HG := HG4
    clear HG4
    replace qq4 := Lib.hid qq4
    replace zz4 := Lib.hid zz4
    have lw4 : w.heap.size ≤ w4.heap.size := bw.size
    clear hb4
    go_wp2_with fail
    (try refine ⟨⟨HZ, HP, bw⟩, ?_⟩)
    repeat ((first | with_reducible apply eag_move | with_reducible apply eag_assign | ((with_reducible refine eag_soft (v := ?_) (fun w' hw' => ?_) ?_); rotate_left 1; (focus (obtain ⟨hZ, hP, hBw⟩ := hw'; obtain ⟨hcZ, hfZ⟩ := hZ.facts; obtain ⟨hcP, hfP⟩ := hP.facts; go_simp; (try with_reducible rfl); done)))); simp only [Act.put, Act.eval, qs])
    obtain ⟨hcO, hfO⟩ := HO.facts
    refine eag_hard ?_
    go_wp2_with fail
    replace HG : Hd ((((w4.setCell ⟨(w.heap.size + 2), 0, none⟩ (.int .i64 z3.lo)).setCell ⟨(w.heap.size + 2), 1, none⟩ (.int .i64 z3.hi)).setCell ⟨(w.heap.size + 2), 2, none⟩ (.int .i64 z4.lo)).setCell ⟨(w.heap.size + 2), 3, none⟩ (.int .i64 z4.hi)) g 83 #[.int .i64 e4] := hdx
    replace HA : Hd ((((w4.setCell ⟨(w.heap.size + 2), 0, none⟩ (.int .i64 z3.lo)).setCell ⟨(w.heap.size + 2), 1, none⟩ (.int .i64 z3.hi)).setCell ⟨(w.heap.size + 2), 2, none⟩ (.int .i64 z4.lo)).setCell ⟨(w.heap.size + 2), 3, none⟩ (.int .i64 z4.hi)) w.heap.size 25 #[.int .i64 x.re.lo, .int .i64 x.re.hi, .int .i64 x.im.lo, .int .i64 x.im.hi] := hdx
    replace HB : Hd ((((w4.setCell ⟨(w.heap.size + 2), 0, none⟩ (.int .i64 z3.lo)).setCell ⟨(w.heap.size + 2), 1, none⟩ (.int .i64 z3.hi)).setCell ⟨(w.heap.size + 2), 2, none⟩ (.int .i64 z4.lo)).setCell ⟨(w.heap.size + 2), 3, none⟩ (.int .i64 z4.hi)) (w.heap.size + 1) 25 #[.int .i64 y.re.lo, .int .i64 y.re.hi, .int .i64 (-y.im.hi), .int .i64 (-y.im.lo)] := hdx
    replace HO : Hd ((((w4.setCell ⟨(w.heap.size + 2), 0, none⟩ (.int .i64 z3.lo)).setCell ⟨(w.heap.size + 2), 1, none⟩ (.int .i64 z3.hi)).setCell ⟨(w.heap.size + 2), 2, none⟩ (.int .i64 z4.lo)).setCell ⟨(w.heap.size + 2), 3, none⟩ (.int .i64 z4.hi)) (w.heap.size + 2) 25 #[.int .i64 z3.lo, .int .i64 z3.hi, .int .i64 z4.lo, .int .i64 z4.hi] := hdx
    replace HP : Hd ((((w4.setCell ⟨(w.heap.size + 2), 0, none⟩ (.int .i64 z3.lo)).setCell ⟨(w.heap.size + 2), 1, none⟩ (.int .i64 z3.hi)).setCell ⟨(w.heap.size + 2), 2, none⟩ (.int .i64 z4.lo)).setCell ⟨(w.heap.size + 2), 3, none⟩ (.int .i64 z4.hi)) w1.heap.size 23 #[.int .i64 z1.lo, .int .i64 z1.hi] := hdx
    replace HZ : Hd ((((w4.setCell ⟨(w.heap.size + 2), 0, none⟩ (.int .i64 z3.lo)).setCell ⟨(w.heap.size + 2), 1, none⟩ (.int .i64 z3.hi)).setCell ⟨(w.heap.size + 2), 2, none⟩ (.int .i64 z4.lo)).setCell ⟨(w.heap.size + 2), 3, none⟩ (.int .i64 z4.hi)) w2.heap.size 25 #[.int .i64 z2.re.lo, .int .i64 z2.re.hi, .int .i64 z2.im.lo, .int .i64 z2.im.hi] := hdx
    replace bw : But g w ((((w4.setCell ⟨(w.heap.size + 2), 0, none⟩ (.int .i64 z3.lo)).setCell ⟨(w.heap.size + 2), 1, none⟩ (.int .i64 z3.hi)).setCell ⟨(w.heap.size + 2), 2, none⟩ (.int .i64 z4.lo)).setCell ⟨(w.heap.size + 2), 3, none⟩ (.int .i64 z4.hi)) := butx
    (try refine ⟨⟨HZ, HP, bw⟩, ?_⟩)
    refine eag_nil ?_
    go_wp2
    refine bodyPost_ret (run_results1 rfl rfl (by (show Hd _ (w.heap.size + 2) 25 #[.int .i64 z3.lo, .int .i64 z3.hi, .int .i64 z4.lo, .int .i64 z4.hi]); exact hdx) Try.underlying25 rfl (by kernel_rfl)) rfl ⟨⟨z3, z4⟩, e4, rfl, En.Rc.ok_mk ok3 ok4, qq1.out.bind (.inr ⟨hne.out, by rw [En.Stk.stays qq4.out (by rw [En.Stk.stays qq3.out (by rw [En.Stk.stays qq2.out hne.out]; exact hne.out), En.Stk.stays qq2.out hne.out]; exact hne.out), En.Stk.stays qq3.out (by rw [En.Stk.stays qq2.out hne.out]; exact hne.out), En.Stk.stays qq2.out hne.out]⟩), by exact hdx, by exact butx⟩

theorem rtwo_div (x y : En.Rc) (w : World) :
    Calls Try.prog 48 #[rcV x, rcV y] w fun e w' => e = .returned (rcE (twoR En.quotient x y)) ∧ Below w.heap.size w w' := by
  have CV := rboth_any x y
  cases hv : (x.ok && y.ok) with
  | false =>
    have ht : twoR En.quotient x y = (⟨⟨0, 0⟩, ⟨0, 0⟩⟩, 50) := by unfold twoR; rw [hv]; rfl
    rw [hv] at CV
    rw [ht]
    replace CV := Lib.hid CV
    clear hv ht
    go_enter Try.func48, Try.ntmps48
    go_wp2_with fail
    have HA : Hd (((w.alloc (.cells #[.int .i64 x.re.lo, .int .i64 x.re.hi, .int .i64 x.im.lo, .int .i64 x.im.hi] 25)).alloc (.cells #[.int .i64 y.re.lo, .int .i64 y.re.hi, .int .i64 y.im.lo, .int .i64 y.im.hi] 25)).alloc (.cells #[.int .i64 0, .int .i64 0, .int .i64 0, .int .i64 0] 25)) w.heap.size 25 #[.int .i64 x.re.lo, .int .i64 x.re.hi, .int .i64 x.im.lo, .int .i64 x.im.hi] := hdx
    have HB : Hd (((w.alloc (.cells #[.int .i64 x.re.lo, .int .i64 x.re.hi, .int .i64 x.im.lo, .int .i64 x.im.hi] 25)).alloc (.cells #[.int .i64 y.re.lo, .int .i64 y.re.hi, .int .i64 y.im.lo, .int .i64 y.im.hi] 25)).alloc (.cells #[.int .i64 0, .int .i64 0, .int .i64 0, .int .i64 0] 25)) (w.heap.size + 1) 25 #[.int .i64 y.re.lo, .int .i64 y.re.hi, .int .i64 y.im.lo, .int .i64 y.im.hi] := hdx
    have HO : Hd (((w.alloc (.cells #[.int .i64 x.re.lo, .int .i64 x.re.hi, .int .i64 x.im.lo, .int .i64 x.im.hi] 25)).alloc (.cells #[.int .i64 y.re.lo, .int .i64 y.re.hi, .int .i64 y.im.lo, .int .i64 y.im.hi] 25)).alloc (.cells #[.int .i64 0, .int .i64 0, .int .i64 0, .int .i64 0] 25)) (w.heap.size + 2) 25 #[.int .i64 0, .int .i64 0, .int .i64 0, .int .i64 0] := hdx
    have bw : Below w.heap.size w (((w.alloc (.cells #[.int .i64 x.re.lo, .int .i64 x.re.hi, .int .i64 x.im.lo, .int .i64 x.im.hi] 25)).alloc (.cells #[.int .i64 y.re.lo, .int .i64 y.re.hi, .int .i64 y.im.lo, .int .i64 y.im.hi] 25)).alloc (.cells #[.int .i64 0, .int .i64 0, .int .i64 0, .int .i64 0] 25)) := by go_grown
    refine (CV.out _).mono ?_
    rintro e w1 ⟨rfl, hb1⟩
    replace bw : Below w.heap.size w w1 := below_next bw hb1
    replace HA := HA.call hb1
    replace HB := HB.call hb1
    replace HO := HO.call hb1
    have lw1 : w.heap.size ≤ w1.heap.size := bw.size
    clear hb1
    obtain ⟨hcA, hfA⟩ := HA.facts
    obtain ⟨hcB, hfB⟩ := HB.facts
    obtain ⟨hcO, hfO⟩ := HO.facts
    go_wp2
    refine bodyPost_ret (run_results2 rfl rfl (by (show Hd _ (w.heap.size + 2) 25 #[.int .i64 0, .int .i64 0, .int .i64 0, .int .i64 0]); exact hdx) Try.underlying25 rfl (by kernel_rfl)) rfl ⟨rfl, by go_grown⟩
  | true =>
    have ht : twoR En.quotient x y = outR (En.quotient x y) := by unfold twoR; rw [hv]; rfl
    rw [hv] at CV
    rw [ht]
    replace CV := Lib.hid CV
    have hop' := Lib.hid (rdiv_any x y (by cases h : x.ok <;> simp_all) (by cases h : y.ok <;> simp_all))
    clear hv ht
    go_enter Try.func48, Try.ntmps48
    go_wp2_with fail
    have HA : Hd (((w.alloc (.cells #[.int .i64 x.re.lo, .int .i64 x.re.hi, .int .i64 x.im.lo, .int .i64 x.im.hi] 25)).alloc (.cells #[.int .i64 y.re.lo, .int .i64 y.re.hi, .int .i64 y.im.lo, .int .i64 y.im.hi] 25)).alloc (.cells #[.int .i64 0, .int .i64 0, .int .i64 0, .int .i64 0] 25)) w.heap.size 25 #[.int .i64 x.re.lo, .int .i64 x.re.hi, .int .i64 x.im.lo, .int .i64 x.im.hi] := hdx
    have HB : Hd (((w.alloc (.cells #[.int .i64 x.re.lo, .int .i64 x.re.hi, .int .i64 x.im.lo, .int .i64 x.im.hi] 25)).alloc (.cells #[.int .i64 y.re.lo, .int .i64 y.re.hi, .int .i64 y.im.lo, .int .i64 y.im.hi] 25)).alloc (.cells #[.int .i64 0, .int .i64 0, .int .i64 0, .int .i64 0] 25)) (w.heap.size + 1) 25 #[.int .i64 y.re.lo, .int .i64 y.re.hi, .int .i64 y.im.lo, .int .i64 y.im.hi] := hdx
    have HO : Hd (((w.alloc (.cells #[.int .i64 x.re.lo, .int .i64 x.re.hi, .int .i64 x.im.lo, .int .i64 x.im.hi] 25)).alloc (.cells #[.int .i64 y.re.lo, .int .i64 y.re.hi, .int .i64 y.im.lo, .int .i64 y.im.hi] 25)).alloc (.cells #[.int .i64 0, .int .i64 0, .int .i64 0, .int .i64 0] 25)) (w.heap.size + 2) 25 #[.int .i64 0, .int .i64 0, .int .i64 0, .int .i64 0] := hdx
    have bw : Below w.heap.size w (((w.alloc (.cells #[.int .i64 x.re.lo, .int .i64 x.re.hi, .int .i64 x.im.lo, .int .i64 x.im.hi] 25)).alloc (.cells #[.int .i64 y.re.lo, .int .i64 y.re.hi, .int .i64 y.im.lo, .int .i64 y.im.hi] 25)).alloc (.cells #[.int .i64 0, .int .i64 0, .int .i64 0, .int .i64 0] 25)) := by go_grown
    refine (CV.out _).mono ?_
    rintro e w1 ⟨rfl, hb1⟩
    replace bw : Below w.heap.size w w1 := below_next bw hb1
    replace HA := HA.call hb1
    replace HB := HB.call hb1
    replace HO := HO.call hb1
    have lw1 : w.heap.size ≤ w1.heap.size := bw.size
    clear hb1
    obtain ⟨hcA, hfA⟩ := HA.facts
    obtain ⟨hcB, hfB⟩ := HB.facts
    obtain ⟨hcO, hfO⟩ := HO.facts
    have ltA := HA.lt
    have ltB := HB.lt
    have ltO := HO.lt
    go_wp2_with fail
    replace HA : Hd (w1.alloc (.cells #[.int .i64 0] 83)) w.heap.size 25 #[.int .i64 x.re.lo, .int .i64 x.re.hi, .int .i64 x.im.lo, .int .i64 x.im.hi] := hdx
    replace HB : Hd (w1.alloc (.cells #[.int .i64 0] 83)) (w.heap.size + 1) 25 #[.int .i64 y.re.lo, .int .i64 y.re.hi, .int .i64 y.im.lo, .int .i64 y.im.hi] := hdx
    replace HO : Hd (w1.alloc (.cells #[.int .i64 0] 83)) (w.heap.size + 2) 25 #[.int .i64 0, .int .i64 0, .int .i64 0, .int .i64 0] := hdx
    replace bw : Below w.heap.size w (w1.alloc (.cells #[.int .i64 0] 83)) := by go_grown
    have HG : Hd (w1.alloc (.cells #[.int .i64 0] 83)) w1.heap.size 83 #[.int .i64 0] := hdx
    refine (hop'.out 0 _ _ HG).mono ?_
    rintro e w2 ⟨z, e1, rfl, okz, qq, HG2, hb2⟩
    replace qq := Lib.hid qq
    replace bw : Below w.heap.size w w2 := But.far bw hb2 (by omega) (by simp only [World.size_alloc]; omega)
    replace HA := HA.but hb2 (by omega)
    replace HB := HB.but hb2 (by omega)
    replace HO := HO.but hb2 (by omega)
    have ltG := HG2.lt
    have lw2 : w.heap.size ≤ w2.heap.size := bw.size
    clear hb2 HG
    have HG := HG2
    clear HG2
    obtain ⟨hcA, hfA⟩ := HA.facts
    obtain ⟨hcB, hfB⟩ := HB.facts
    obtain ⟨hcO, hfO⟩ := HO.facts
    obtain ⟨hcG, hfG⟩ := HG.facts
    have ltA2 := HA.lt
    have ltB2 := HB.lt
    have ltO2 := HO.lt
    go_wp2_with fail
    replace HA : Hd (w2.alloc (.cells #[.int .i64 z.re.lo, .int .i64 z.re.hi, .int .i64 z.im.lo, .int .i64 z.im.hi] 25)) w.heap.size 25 #[.int .i64 x.re.lo, .int .i64 x.re.hi, .int .i64 x.im.lo, .int .i64 x.im.hi] := hdx
    replace HB : Hd (w2.alloc (.cells #[.int .i64 z.re.lo, .int .i64 z.re.hi, .int .i64 z.im.lo, .int .i64 z.im.hi] 25)) (w.heap.size + 1) 25 #[.int .i64 y.re.lo, .int .i64 y.re.hi, .int .i64 y.im.lo, .int .i64 y.im.hi] := hdx
    replace HO : Hd (w2.alloc (.cells #[.int .i64 z.re.lo, .int .i64 z.re.hi, .int .i64 z.im.lo, .int .i64 z.im.hi] 25)) (w.heap.size + 2) 25 #[.int .i64 0, .int .i64 0, .int .i64 0, .int .i64 0] := hdx
    replace HG : Hd (w2.alloc (.cells #[.int .i64 z.re.lo, .int .i64 z.re.hi, .int .i64 z.im.lo, .int .i64 z.im.hi] 25)) w1.heap.size 83 #[.int .i64 e1] := hdx
    replace bw : Below w.heap.size w (w2.alloc (.cells #[.int .i64 z.re.lo, .int .i64 z.re.hi, .int .i64 z.im.lo, .int .i64 z.im.hi] 25)) := by go_grown
    have HZ : Hd (w2.alloc (.cells #[.int .i64 z.re.lo, .int .i64 z.re.hi, .int .i64 z.im.lo, .int .i64 z.im.hi] 25)) w2.heap.size 25 #[.int .i64 z.re.lo, .int .i64 z.re.hi, .int .i64 z.im.lo, .int .i64 z.im.hi] := hdx
    refine (rdone_any z e1 _ _ HG).mono ?_
    rintro e w3 ⟨rfl, hb3⟩
    replace bw : Below w.heap.size w w3 := below_next bw hb3
    replace HA := HA.call hb3
    replace HB := HB.call hb3
    replace HO := HO.call hb3
    replace HG := HG.call hb3
    replace HZ := HZ.call hb3
    have lw3 : w.heap.size ≤ w3.heap.size := bw.size
    clear hb3
    obtain ⟨hcO, hfO⟩ := HO.facts
    rcases qq.out.zero with ⟨hr, rfl⟩ | ⟨hr, hne⟩
    · rw [if_pos rfl]
      go_wp2
      refine bodyPost_ret (run_results2 rfl rfl (by (show Hd _ (w.heap.size + 2) 25 #[.int .i64 z.re.lo, .int .i64 z.re.hi, .int .i64 z.im.lo, .int .i64 z.im.hi]); exact hdx) Try.underlying25 rfl (by kernel_rfl)) rfl ⟨by rw [hr]; rfl, by go_grown⟩
    · rw [if_neg hne]
      go_wp2
      refine bodyPost_ret (run_results2 rfl rfl (by (show Hd _ (w.heap.size + 2) 25 #[.int .i64 0, .int .i64 0, .int .i64 0, .int .i64 0]); exact hdx) Try.underlying25 rfl (by kernel_rfl)) rfl ⟨by rw [hr]; rfl, by go_grown⟩
end Go.Proofs.Ytpbbbfglecbceaa
/- The document's Star. -/
namespace Go.Proofs.Ytpbbbfglecbceaa
set_option linter.all false
open Go.RowKit

section
variable {B : World} {F : List Nat} {Q : Exit → Act → World → Prop} {ops : Array Oper} {l : List (Oper × Nat)} {a : Act} {s : List Blk} {d : Option Tmp} {t : TypeId} {pp : String} {af : Array Edge} {s0 : Option (List Blk × List Blk)} {R : Option Nat}
/-- A method of the document's sticky error. -/
theorem rg_stk {f g : Nat} {e0 : Int} {r : En.R En.Rc} {s' : Int → List Blk} {cargs : Array Operand} {at_ : Array TypeId} {args : Array Value} {gd : Option (Nat × Bool)}
    (hg : Region.wanted ⟨d, .call ⟨.value (.func f), cargs, at_⟩, t, pp, af, gd⟩ (yielded ops a.tmps) = true) (hgo : isGo Try.prog f = true) (hargs : cargs.map a.eval = args)
    (h : ∀ w, Kn B F s w → Calls Try.prog f args w (PostR r g e0 w)) (hr : ∀ e1 : Int, Rep g (.cells #[.int .i64 e0] 83) (.cells #[.int .i64 e1] 83) s (s' e1)) (hz : ∀ e1 : Int, ∀ z ∈ s0, z.1.Sublist (s' e1))
    (k : ∀ (z : En.Rc) (e1 : Int), z.ok = true → En.Stk r e0 z e1 → Rg R Try.prog ops Q B F s0 l (a.put d (rcV z)) (s' e1)) :
    Rg R Try.prog ops Q B F s0 ((⟨d, .call ⟨.value (.func f), cargs, at_⟩, t, pp, af, gd⟩, 1) :: l) a s :=
  rg_but (g := g) (o := .cells #[.int .i64 e0] 83) (T := fun (x : En.Rc × Int) v o' => v = rcV x.1 ∧ x.1.ok = true ∧ En.Stk r e0 x.1 x.2 ∧ o' = .cells #[.int .i64 x.2] 83) hg hgo hargs
    (fun w K => (h w K).mono fun e w' ⟨z, e1, h1, h2, h3, h4, h5⟩ => ⟨(z, e1), rcV z, _, h1, ⟨rfl, h2, h3, rfl⟩, h4, h5⟩)
    (fun x v o' ⟨h1, h2, h3, h4⟩ => by subst h1 h4; exact ⟨s' x.2, hr x.2, hz x.2, k x.1 x.2 h2 h3⟩)
end
theorem star_stk {p q : En.Pt} {vm vd va vb vr vo00 vc vo01 vf vo10 vh vi vs vo11 : En.Rc} {em ed ea eb er eo00 ec eo01 ef eo10 eh ei es eo11 : Int} (hm : En.Stk (En.times p.s11 q.s00) 0 vm em) (hd : En.Stk (En.minus En.oneR vm) em vd ed) (ha : En.Stk (En.times p.s01 q.s00) ed va ea) (hb : En.Stk (En.times va p.s10) ea vb eb) (hr : En.Stk (En.quotient vb vd) eb vr er) (ho00 : En.Stk (En.plus p.s00 vr) er vo00 eo00) (hc : En.Stk (En.times p.s01 q.s01) eo00 vc ec) (ho01 : En.Stk (En.quotient vc vd) ec vo01 eo01) (hf : En.Stk (En.times q.s10 p.s10) eo01 vf ef) (ho10 : En.Stk (En.quotient vf vd) ef vo10 eo10) (hh : En.Stk (En.times q.s10 p.s11) eo10 vh eh) (hi : En.Stk (En.times vh q.s01) eh vi ei) (hs : En.Stk (En.quotient vi vd) ei vs es) (ho11 : En.Stk (En.plus q.s11 vs) es vo11 eo11) : En.Stk (En.star p q) 0 ⟨vo00, vo01, vo10, vo11⟩ eo11 := by
  unfold En.star
  exact hm.bind (hd.bind (ha.bind (hb.bind (hr.bind (ho00.bind (hc.bind (ho01.bind (hf.bind (ho10.bind (hh.bind (hi.bind (hs.bind (ho11.bind (En.Stk.pure _ _))))))))))))))
theorem rstar_fin {p q z : En.Pt} (hok : (portOk p && portOk q) = true) (h : En.Stk (En.star p q) 0 z 0) : starR p q = (z, 0) := by
  rcases h.zero with ⟨h, _⟩ | ⟨_, h⟩
  · unfold starR; rw [if_pos hok, h]; rfl
  · exact absurd rfl h
theorem rstar_err {p q z : En.Pt} {e : Int} (hok : (portOk p && portOk q) = true) (h : En.Stk (En.star p q) 0 z e) (he : e ≠ 0) : starR p q = (zeroP, e) := by
  rcases h.zero with ⟨_, h⟩ | ⟨h, _⟩
  · exact absurd h he
  · unfold starR; rw [if_pos hok, h]; rfl
set_option maxRecDepth 100000 in
set_option maxHeartbeats 4000000 in
theorem rstar_f (p q : En.Pt) (hp : portOk p = false) (w : World) : Calls Try.prog 50 #[ptV p, ptV q] w fun e w' => e = .returned (ptE (starR p q)) ∧ Below w.heap.size w w' := by
  have CP := rvalidPort_any p
  have CQ := rvalidPort_any q
  rw [show ptOk p = portOk p from rfl] at CP
  rw [show ptOk q = portOk q from rfl] at CQ
  rw [hp] at CP
  replace CP := Lib.hid CP
  replace CQ := Lib.hid CQ
  have ht := Lib.hid (show starR p q = (zeroP, 50) by unfold starR; rw [hp]; rfl)
  clear hp
  go_enter Try.func50, Try.ntmps50
  refine wk_start ?_
  refine wk_seq ?_
  refine wk_region [1, 1, 1, 0] rfl (by kernel_rfl) ?_
  simp only [List.zip_cons_cons, List.zip_nil_right]
  refine rg_new (cs := ?_) (ty := ?_) (by rfl) (fun w => ?_) (fun _ h => by cases h) (fun g1 => ?_); rotate_left 2
  focus (go_simp; rfl)
  simp only [Act.put, Act.eval, qn, qv, Nat.reduceAdd]
  refine rg_new (cs := ?_) (ty := ?_) (by rfl) (fun w => ?_) (fun _ h => by cases h) (fun g2 => ?_); rotate_left 2
  focus (go_simp; rfl)
  simp only [Act.put, Act.eval, qn, qv, Nat.reduceAdd]
  refine rg_new (cs := ?_) (ty := ?_) (by rfl) (fun w => ?_) (fun _ h => by cases h) (fun g3 => ?_); rotate_left 2
  focus (go_simp; rfl)
  simp only [Act.put, Act.eval, qn, qv, Nat.reduceAdd]
  refine rg_assign ?_
  simp only [Act.put, Act.eval, qn, qv, Nat.reduceAdd]
  refine rg_nil ?_
  refine ek_next ?_
  refine wk_seq ?_
  refine wk_seq ?_
  refine wk_region [0, 1, 0, 0, 0, 1, 0, 0] rfl (by kernel_rfl) ?_
  simp only [List.zip_cons_cons, List.zip_nil_right]
  refine rf_loadR (n := 16) rfl rfl rfl Try.underlying49 rfl (by kernel_rfl) (fun w hw => Kn.hd0 (Kn.tl (Kn.tl hw))) rfl rfl ?_
  simp only [Act.put, Act.eval, qn, qv, Nat.reduceAdd]
  apply rg_pure (by rfl) (by kernel_rfl)
  case hargs => (simp only [qm, qs, Act.eval]; exact rfl)
  case h => exact fun w hw => CP.out w
  case hz => exact (fun _ h => by cases h)
  simp only [Act.put, Act.eval, qn, qv, Nat.reduceAdd]
  refine rf_not rfl rfl rfl ?_
  simp only [Act.put, Act.eval, qn, qv, Nat.reduceAdd]
  refine rg_move ?_
  simp only [Act.put, Act.eval, qn, qv, Nat.reduceAdd]
  refine rg_skip (by rfl) ?_
  simp only [Act.put, Act.eval, qn, qv, Nat.reduceAdd]
  refine rg_skip_h (by rfl) (fun _ h => by cases h) ?_
  simp only [Act.put, Act.eval, qn, qv, Nat.reduceAdd]
  refine rg_skip (by rfl) ?_
  simp only [Act.put, Act.eval, qn, qv, Nat.reduceAdd]
  refine rf_pick rfl rfl rfl ?_
  simp only [Act.put, Act.eval, qn, qv, Nat.reduceAdd]
  refine rg_nil ?_
  refine ek_next ?_
  refine wk_cond_t rfl ?_
  refine wk_seq ?_
  refine wk_region [0, 1, 0] rfl (by kernel_rfl) ?_
  simp only [List.zip_cons_cons, List.zip_nil_right]
  refine rf_build (cs := fun a => #[.int .i64 0, .int .i64 0, .int .i64 0, .int .i64 0, .int .i64 0, .int .i64 0, .int .i64 0, .int .i64 0, .int .i64 0, .int .i64 0, .int .i64 0, .int .i64 0, .int .i64 0, .int .i64 0, .int .i64 0, .int .i64 0]) rfl rfl (by kernel_rfl) ?_
  simp only [Act.put, Act.eval, qn, qv, Nat.reduceAdd]
  refine rf_storeR (n := 16) rfl rfl (by kernel_rfl) rfl rfl (UpdR.here _ _ _ (Nat.le_of_ble_eq_true rfl)) (fun _ h => by cases h) ?_
  simp only [Act.put, Act.eval, qn, qv, Nat.reduceAdd]
  refine rg_assign ?_
  simp only [Act.put, Act.eval, qn, qv, Nat.reduceAdd]
  refine rg_nil ?_
  refine ek_next ?_
  refine wk_ret ?_
  refine ek_then_ret ?_
  refine ek_ret (fun w hw => ⟨rfl, _, run_results2 rfl rfl (Kn.hd0 hw) Try.underlying49 rfl (by kernel_rfl), ?_⟩)
  (try simp only [Act.put, Act.eval, qn, qv, Nat.reduceAdd])
  exact ⟨by rw [ht.out] <;> rfl, hw.below⟩
set_option maxRecDepth 100000 in
set_option maxHeartbeats 4000000 in
theorem rstar_tf (p q : En.Pt) (hp : portOk p = true) (hq : portOk q = false) (w : World) : Calls Try.prog 50 #[ptV p, ptV q] w fun e w' => e = .returned (ptE (starR p q)) ∧ Below w.heap.size w w' := by
  have CP := rvalidPort_any p
  have CQ := rvalidPort_any q
  rw [show ptOk p = portOk p from rfl] at CP
  rw [show ptOk q = portOk q from rfl] at CQ
  rw [hp] at CP
  rw [hq] at CQ
  replace CP := Lib.hid CP
  replace CQ := Lib.hid CQ
  have ht := Lib.hid (show starR p q = (zeroP, 50) by unfold starR; rw [hp, hq]; rfl)
  clear hp hq
  go_enter Try.func50, Try.ntmps50
  refine wk_start ?_
  refine wk_seq ?_
  refine wk_region [1, 1, 1, 0] rfl (by kernel_rfl) ?_
  simp only [List.zip_cons_cons, List.zip_nil_right]
  refine rg_new (cs := ?_) (ty := ?_) (by rfl) (fun w => ?_) (fun _ h => by cases h) (fun g1 => ?_); rotate_left 2
  focus (go_simp; rfl)
  simp only [Act.put, Act.eval, qn, qv, Nat.reduceAdd]
  refine rg_new (cs := ?_) (ty := ?_) (by rfl) (fun w => ?_) (fun _ h => by cases h) (fun g2 => ?_); rotate_left 2
  focus (go_simp; rfl)
  simp only [Act.put, Act.eval, qn, qv, Nat.reduceAdd]
  refine rg_new (cs := ?_) (ty := ?_) (by rfl) (fun w => ?_) (fun _ h => by cases h) (fun g3 => ?_); rotate_left 2
  focus (go_simp; rfl)
  simp only [Act.put, Act.eval, qn, qv, Nat.reduceAdd]
  refine rg_assign ?_
  simp only [Act.put, Act.eval, qn, qv, Nat.reduceAdd]
  refine rg_nil ?_
  refine ek_next ?_
  refine wk_seq ?_
  refine wk_seq ?_
  refine wk_region [0, 1, 0, 0, 0, 1, 0, 0] rfl (by kernel_rfl) ?_
  simp only [List.zip_cons_cons, List.zip_nil_right]
  refine rf_loadR (n := 16) rfl rfl rfl Try.underlying49 rfl (by kernel_rfl) (fun w hw => Kn.hd0 (Kn.tl (Kn.tl hw))) rfl rfl ?_
  simp only [Act.put, Act.eval, qn, qv, Nat.reduceAdd]
  apply rg_pure (by rfl) (by kernel_rfl)
  case hargs => (simp only [qm, qs, Act.eval]; exact rfl)
  case h => exact fun w hw => CP.out w
  case hz => exact (fun _ h => by cases h)
  simp only [Act.put, Act.eval, qn, qv, Nat.reduceAdd]
  refine rf_not rfl rfl rfl ?_
  simp only [Act.put, Act.eval, qn, qv, Nat.reduceAdd]
  refine rg_move ?_
  simp only [Act.put, Act.eval, qn, qv, Nat.reduceAdd]
  refine rf_loadR (n := 16) rfl rfl rfl Try.underlying49 rfl (by kernel_rfl) (fun w hw => Kn.hd0 (Kn.tl hw)) rfl rfl ?_
  simp only [Act.put, Act.eval, qn, qv, Nat.reduceAdd]
  apply rg_pure (by rfl) (by kernel_rfl)
  case hargs => (simp only [qm, qs, Act.eval]; exact rfl)
  case h => exact fun w hw => CQ.out w
  case hz => exact (fun _ h => by cases h)
  simp only [Act.put, Act.eval, qn, qv, Nat.reduceAdd]
  refine rf_not rfl rfl rfl ?_
  simp only [Act.put, Act.eval, qn, qv, Nat.reduceAdd]
  refine rf_pick rfl rfl rfl ?_
  simp only [Act.put, Act.eval, qn, qv, Nat.reduceAdd]
  refine rg_nil ?_
  refine ek_next ?_
  refine wk_cond_t rfl ?_
  refine wk_seq ?_
  refine wk_region [0, 1, 0] rfl (by kernel_rfl) ?_
  simp only [List.zip_cons_cons, List.zip_nil_right]
  refine rf_build (cs := fun a => #[.int .i64 0, .int .i64 0, .int .i64 0, .int .i64 0, .int .i64 0, .int .i64 0, .int .i64 0, .int .i64 0, .int .i64 0, .int .i64 0, .int .i64 0, .int .i64 0, .int .i64 0, .int .i64 0, .int .i64 0, .int .i64 0]) rfl rfl (by kernel_rfl) ?_
  simp only [Act.put, Act.eval, qn, qv, Nat.reduceAdd]
  refine rf_storeR (n := 16) rfl rfl (by kernel_rfl) rfl rfl (UpdR.here _ _ _ (Nat.le_of_ble_eq_true rfl)) (fun _ h => by cases h) ?_
  simp only [Act.put, Act.eval, qn, qv, Nat.reduceAdd]
  refine rg_assign ?_
  simp only [Act.put, Act.eval, qn, qv, Nat.reduceAdd]
  refine rg_nil ?_
  refine ek_next ?_
  refine wk_ret ?_
  refine ek_then_ret ?_
  refine ek_ret (fun w hw => ⟨rfl, _, run_results2 rfl rfl (Kn.hd0 hw) Try.underlying49 rfl (by kernel_rfl), ?_⟩)
  (try simp only [Act.put, Act.eval, qn, qv, Nat.reduceAdd])
  exact ⟨by rw [ht.out] <;> rfl, hw.below⟩
set_option maxRecDepth 100000 in
set_option maxHeartbeats 4000000 in
theorem rstar_tt (p q : En.Pt) (hp : portOk p = true) (hq : portOk q = true) (w : World) : Calls Try.prog 50 #[ptV p, ptV q] w fun e w' => e = .returned (ptE (starR p q)) ∧ Below w.heap.size w w' := by
  have CP := rvalidPort_any p
  have CQ := rvalidPort_any q
  rw [show ptOk p = portOk p from rfl] at CP
  rw [show ptOk q = portOk q from rfl] at CQ
  rw [hp] at CP
  rw [hq] at CQ
  replace CP := Lib.hid CP
  replace CQ := Lib.hid CQ
  have hok := Lib.hid (show (portOk p && portOk q) = true by rw [hp, hq]; rfl)
  simp only [portOk, Bool.and_eq_true] at hp hq
  obtain ⟨⟨⟨kp00, kp01⟩, kp10⟩, kp11⟩ := hp
  obtain ⟨⟨⟨kq00, kq01⟩, kq10⟩, kq11⟩ := hq
  have kone := Lib.hid (show En.oneR.ok = true by decide)
  replace kp00 := Lib.hid kp00
  replace kp01 := Lib.hid kp01
  replace kp10 := Lib.hid kp10
  replace kp11 := Lib.hid kp11
  replace kq00 := Lib.hid kq00
  replace kq01 := Lib.hid kq01
  replace kq10 := Lib.hid kq10
  replace kq11 := Lib.hid kq11
  go_enter Try.func50, Try.ntmps50
  refine wk_start ?_
  refine wk_seq ?_
  refine wk_region [1, 1, 1, 0] rfl (by kernel_rfl) ?_
  simp only [List.zip_cons_cons, List.zip_nil_right]
  refine rg_new (cs := ?_) (ty := ?_) (by rfl) (fun w => ?_) (fun _ h => by cases h) (fun g1 => ?_); rotate_left 2
  focus (go_simp; rfl)
  simp only [Act.put, Act.eval, qn, qv, Nat.reduceAdd]
  refine rg_new (cs := ?_) (ty := ?_) (by rfl) (fun w => ?_) (fun _ h => by cases h) (fun g2 => ?_); rotate_left 2
  focus (go_simp; rfl)
  simp only [Act.put, Act.eval, qn, qv, Nat.reduceAdd]
  refine rg_new (cs := ?_) (ty := ?_) (by rfl) (fun w => ?_) (fun _ h => by cases h) (fun g3 => ?_); rotate_left 2
  focus (go_simp; rfl)
  simp only [Act.put, Act.eval, qn, qv, Nat.reduceAdd]
  refine rg_assign ?_
  simp only [Act.put, Act.eval, qn, qv, Nat.reduceAdd]
  refine rg_nil ?_
  refine ek_next ?_
  refine wk_seq ?_
  refine wk_seq ?_
  refine wk_region [0, 1, 0, 0, 0, 1, 0, 0] rfl (by kernel_rfl) ?_
  simp only [List.zip_cons_cons, List.zip_nil_right]
  refine rf_loadR (n := 16) rfl rfl rfl Try.underlying49 rfl (by kernel_rfl) (fun w hw => Kn.hd0 (Kn.tl (Kn.tl hw))) rfl rfl ?_
  simp only [Act.put, Act.eval, qn, qv, Nat.reduceAdd]
  apply rg_pure (by rfl) (by kernel_rfl)
  case hargs => (simp only [qm, qs, Act.eval]; exact rfl)
  case h => exact fun w hw => CP.out w
  case hz => exact (fun _ h => by cases h)
  simp only [Act.put, Act.eval, qn, qv, Nat.reduceAdd]
  refine rf_not rfl rfl rfl ?_
  simp only [Act.put, Act.eval, qn, qv, Nat.reduceAdd]
  refine rg_move ?_
  simp only [Act.put, Act.eval, qn, qv, Nat.reduceAdd]
  refine rf_loadR (n := 16) rfl rfl rfl Try.underlying49 rfl (by kernel_rfl) (fun w hw => Kn.hd0 (Kn.tl hw)) rfl rfl ?_
  simp only [Act.put, Act.eval, qn, qv, Nat.reduceAdd]
  apply rg_pure (by rfl) (by kernel_rfl)
  case hargs => (simp only [qm, qs, Act.eval]; exact rfl)
  case h => exact fun w hw => CQ.out w
  case hz => exact (fun _ h => by cases h)
  simp only [Act.put, Act.eval, qn, qv, Nat.reduceAdd]
  refine rf_not rfl rfl rfl ?_
  simp only [Act.put, Act.eval, qn, qv, Nat.reduceAdd]
  refine rf_pick rfl rfl rfl ?_
  simp only [Act.put, Act.eval, qn, qv, Nat.reduceAdd]
  refine rg_nil ?_
  refine ek_next ?_
  refine wk_cond_f rfl ?_
  refine wk_skip ?_
  refine ek_next ?_
  refine wk_seq ?_
  refine wk_region [0, 1, 0] rfl (by kernel_rfl) ?_
  simp only [List.zip_cons_cons, List.zip_nil_right]
  refine rf_build (cs := fun a => #[.int .i64 0]) rfl rfl (by kernel_rfl) ?_
  simp only [Act.put, Act.eval, qn, qv, Nat.reduceAdd]
  refine rg_new (cs := ?_) (ty := ?_) (by rfl) (fun w => ?_) (fun _ h => by cases h) (fun g4 => ?_); rotate_left 2
  focus (go_simp; rfl)
  simp only [Act.put, Act.eval, qn, qv, Nat.reduceAdd]
  refine rg_assign ?_
  simp only [Act.put, Act.eval, qn, qv, Nat.reduceAdd]
  refine rg_nil ?_
  refine ek_next ?_
  refine wk_seq ?_
  refine wk_region [1] rfl (by kernel_rfl) ?_
  simp only [List.zip_cons_cons, List.zip_nil_right]
  refine rg_new (cs := ?_) (ty := ?_) (by rfl) (fun w => ?_) (fun _ h => by cases h) (fun g5 => ?_); rotate_left 2
  focus (go_simp; rfl)
  simp only [Act.put, Act.eval, qn, qv, Nat.reduceAdd]
  refine rg_nil ?_
  refine ek_next ?_
  refine wk_cutF [8, 21, 22, 23, 24, 25, 26, 27, 28, 29, 30, 31, 32, 33] (fun f s => ∃ (gd : Nat) (vm vd : En.Rc) (em ed : Int), f 8 = .pointer (some ⟨gd, 0, none⟩) ∧ s = ((gd, .cells #[.int .i64 vd.re.lo, .int .i64 vd.re.hi, .int .i64 vd.im.lo, .int .i64 vd.im.hi] 25) :: ((g5, .cells #[.int .i64 0, .int .i64 0, .int .i64 0, .int .i64 0, .int .i64 0, .int .i64 0, .int .i64 0, .int .i64 0, .int .i64 0, .int .i64 0, .int .i64 0, .int .i64 0, .int .i64 0, .int .i64 0, .int .i64 0, .int .i64 0] 49) :: ((g4, .cells #[.int .i64 ed] 83) :: ((g3, .cells #[.int .i64 0, .int .i64 0, .int .i64 0, .int .i64 0, .int .i64 0, .int .i64 0, .int .i64 0, .int .i64 0, .int .i64 0, .int .i64 0, .int .i64 0, .int .i64 0, .int .i64 0, .int .i64 0, .int .i64 0, .int .i64 0] 49) :: ((g2, .cells #[.int .i64 q.s00.re.lo, .int .i64 q.s00.re.hi, .int .i64 q.s00.im.lo, .int .i64 q.s00.im.hi, .int .i64 q.s01.re.lo, .int .i64 q.s01.re.hi, .int .i64 q.s01.im.lo, .int .i64 q.s01.im.hi, .int .i64 q.s10.re.lo, .int .i64 q.s10.re.hi, .int .i64 q.s10.im.lo, .int .i64 q.s10.im.hi, .int .i64 q.s11.re.lo, .int .i64 q.s11.re.hi, .int .i64 q.s11.im.lo, .int .i64 q.s11.im.hi] 49) :: ((g1, .cells #[.int .i64 p.s00.re.lo, .int .i64 p.s00.re.hi, .int .i64 p.s00.im.lo, .int .i64 p.s00.im.hi, .int .i64 p.s01.re.lo, .int .i64 p.s01.re.hi, .int .i64 p.s01.im.lo, .int .i64 p.s01.im.hi, .int .i64 p.s10.re.lo, .int .i64 p.s10.re.hi, .int .i64 p.s10.im.lo, .int .i64 p.s10.im.hi, .int .i64 p.s11.re.lo, .int .i64 p.s11.re.hi, .int .i64 p.s11.im.lo, .int .i64 p.s11.im.hi] 49) :: [])))))) ∧ RowKit.Hid (En.Stk (En.times p.s11 q.s00) 0 vm em) ∧ RowKit.Hid (En.Stk (En.minus En.oneR vm) em vd ed) ∧ RowKit.Hid (vm.ok = true) ∧ RowKit.Hid (vd.ok = true)) ?_ ?_
  · refine wk_rt _ (by kernel_rfl) (List.Sublist.cons₂ _ (List.Sublist.cons _ (List.Sublist.cons₂ _ (List.Sublist.cons₂ _ (List.Sublist.cons₂ _ List.Sublist.slnil))))) ?_
    refine rt_soft (i := 0) rfl (by kernel_rfl) (fun c d v a w h => by cases d <;> exact h) (List.Sublist.cons₂ _ (List.Sublist.cons _ (List.Sublist.cons₂ _ (List.Sublist.cons₂ _ (List.Sublist.cons₂ _ List.Sublist.slnil))))) ?_
    refine rg_move ?_
    simp only [Act.put, Act.eval, qn, qv, Nat.reduceAdd]
    refine rg_nil ?_
    refine ek_rt (List.Sublist.cons₂ _ (List.Sublist.cons _ (List.Sublist.cons₂ _ (List.Sublist.cons₂ _ (List.Sublist.cons₂ _ List.Sublist.slnil))))) ?_
    refine rt_soft (i := 2) rfl (by kernel_rfl) (fun c d v a w h => by cases d <;> exact h) (List.Sublist.cons₂ _ (List.Sublist.cons _ (List.Sublist.cons₂ _ (List.Sublist.cons₂ _ (List.Sublist.cons₂ _ List.Sublist.slnil))))) ?_
    refine rg_move ?_
    simp only [Act.put, Act.eval, qn, qv, Nat.reduceAdd]
    refine rg_nil ?_
    refine ek_rt (List.Sublist.cons₂ _ (List.Sublist.cons _ (List.Sublist.cons₂ _ (List.Sublist.cons₂ _ (List.Sublist.cons₂ _ List.Sublist.slnil))))) ?_
    refine rt_soft (i := 3) rfl (by kernel_rfl) (fun c d v a w h => by cases d <;> exact h) (List.Sublist.cons₂ _ (List.Sublist.cons _ (List.Sublist.cons₂ _ (List.Sublist.cons₂ _ (List.Sublist.cons₂ _ List.Sublist.slnil))))) ?_
    refine rf_field (n := 15) (j := 0) rfl rfl rfl Try.underlying49 rfl (by kernel_rfl) rfl ?_
    simp only [Act.put, Act.eval, qn, qv, Nat.reduceAdd]
    refine rg_nil ?_
    refine ek_rt (List.Sublist.cons₂ _ (List.Sublist.cons _ (List.Sublist.cons₂ _ (List.Sublist.cons₂ _ (List.Sublist.cons₂ _ List.Sublist.slnil))))) ?_
    refine rt_soft (i := 4) rfl (by kernel_rfl) (fun c d v a w h => by cases d <;> exact h) (List.Sublist.cons₂ _ (List.Sublist.cons _ (List.Sublist.cons₂ _ (List.Sublist.cons₂ _ (List.Sublist.cons₂ _ List.Sublist.slnil))))) ?_
    refine rf_indexA (n := 1) (sz := 8) (j := 8) rfl rfl rfl rfl Try.underlying47 (by kernel_rfl) (by decide) rfl ?_
    simp only [Act.put, Act.eval, qn, qv, Nat.reduceAdd]
    refine rg_nil ?_
    refine ek_rt (List.Sublist.cons₂ _ (List.Sublist.cons _ (List.Sublist.cons₂ _ (List.Sublist.cons₂ _ (List.Sublist.cons₂ _ List.Sublist.slnil))))) ?_
    refine rt_soft (i := 5) rfl (by kernel_rfl) (fun c d v a w h => by cases d <;> exact h) (List.Sublist.cons₂ _ (List.Sublist.cons _ (List.Sublist.cons₂ _ (List.Sublist.cons₂ _ (List.Sublist.cons₂ _ List.Sublist.slnil))))) ?_
    refine rf_indexA (n := 1) (sz := 4) (j := 12) rfl rfl rfl rfl Try.underlying46 (by kernel_rfl) (by decide) rfl ?_
    simp only [Act.put, Act.eval, qn, qv, Nat.reduceAdd]
    refine rg_nil ?_
    refine ek_rt (List.Sublist.cons₂ _ (List.Sublist.cons _ (List.Sublist.cons₂ _ (List.Sublist.cons₂ _ (List.Sublist.cons₂ _ List.Sublist.slnil))))) ?_
    refine rt_soft (i := 6) rfl (by kernel_rfl) (fun c d v a w h => by cases d <;> exact h) (List.Sublist.cons₂ _ (List.Sublist.cons _ (List.Sublist.cons₂ _ (List.Sublist.cons₂ _ (List.Sublist.cons₂ _ List.Sublist.slnil))))) ?_
    refine rf_loadR (n := 4) rfl rfl rfl Try.underlying25 rfl (by kernel_rfl) (fun w hw => Kn.hd0 (Kn.tl (Kn.tl (Kn.tl hw)))) rfl rfl ?_
    simp only [Act.put, Act.eval, qn, qv, Nat.reduceAdd]
    refine rg_nil ?_
    refine ek_rt (List.Sublist.cons₂ _ (List.Sublist.cons _ (List.Sublist.cons₂ _ (List.Sublist.cons₂ _ (List.Sublist.cons₂ _ List.Sublist.slnil))))) ?_
    refine rt_soft (i := 7) rfl (by kernel_rfl) (fun c d v a w h => by cases d <;> exact h) (List.Sublist.cons₂ _ (List.Sublist.cons _ (List.Sublist.cons₂ _ (List.Sublist.cons₂ _ (List.Sublist.cons₂ _ List.Sublist.slnil))))) ?_
    refine rf_field (n := 15) (j := 0) rfl rfl rfl Try.underlying49 rfl (by kernel_rfl) rfl ?_
    simp only [Act.put, Act.eval, qn, qv, Nat.reduceAdd]
    refine rg_nil ?_
    refine ek_rt (List.Sublist.cons₂ _ (List.Sublist.cons _ (List.Sublist.cons₂ _ (List.Sublist.cons₂ _ (List.Sublist.cons₂ _ List.Sublist.slnil))))) ?_
    refine rt_soft (i := 8) rfl (by kernel_rfl) (fun c d v a w h => by cases d <;> exact h) (List.Sublist.cons₂ _ (List.Sublist.cons _ (List.Sublist.cons₂ _ (List.Sublist.cons₂ _ (List.Sublist.cons₂ _ List.Sublist.slnil))))) ?_
    refine rf_indexA (n := 0) (sz := 8) (j := 0) rfl rfl rfl rfl Try.underlying47 (by kernel_rfl) (by decide) rfl ?_
    simp only [Act.put, Act.eval, qn, qv, Nat.reduceAdd]
    refine rg_nil ?_
    refine ek_rt (List.Sublist.cons₂ _ (List.Sublist.cons _ (List.Sublist.cons₂ _ (List.Sublist.cons₂ _ (List.Sublist.cons₂ _ List.Sublist.slnil))))) ?_
    refine rt_soft (i := 9) rfl (by kernel_rfl) (fun c d v a w h => by cases d <;> exact h) (List.Sublist.cons₂ _ (List.Sublist.cons _ (List.Sublist.cons₂ _ (List.Sublist.cons₂ _ (List.Sublist.cons₂ _ List.Sublist.slnil))))) ?_
    refine rf_indexA (n := 0) (sz := 4) (j := 0) rfl rfl rfl rfl Try.underlying46 (by kernel_rfl) (by decide) rfl ?_
    simp only [Act.put, Act.eval, qn, qv, Nat.reduceAdd]
    refine rg_nil ?_
    refine ek_rt (List.Sublist.cons₂ _ (List.Sublist.cons _ (List.Sublist.cons₂ _ (List.Sublist.cons₂ _ (List.Sublist.cons₂ _ List.Sublist.slnil))))) ?_
    refine rt_soft (i := 10) rfl (by kernel_rfl) (fun c d v a w h => by cases d <;> exact h) (List.Sublist.cons₂ _ (List.Sublist.cons _ (List.Sublist.cons₂ _ (List.Sublist.cons₂ _ (List.Sublist.cons₂ _ List.Sublist.slnil))))) ?_
    refine rf_loadR (n := 4) rfl rfl rfl Try.underlying25 rfl (by kernel_rfl) (fun w hw => Kn.hd0 (Kn.tl (Kn.tl hw))) rfl rfl ?_
    simp only [Act.put, Act.eval, qn, qv, Nat.reduceAdd]
    refine rg_nil ?_
    refine ek_rt (List.Sublist.cons₂ _ (List.Sublist.cons _ (List.Sublist.cons₂ _ (List.Sublist.cons₂ _ (List.Sublist.cons₂ _ List.Sublist.slnil))))) ?_
    refine rt_hard2 (i := 1) (j := 13) (by kernel_rfl) rfl rfl ?_ ?_
    · apply rg_pure (by rfl) (by kernel_rfl)
      case hargs => (simp only [qm, qs, Act.eval]; exact rfl)
      case h => exact fun w hw => whole1 w
      case hz => exact (fun _ h => by cases h; exact (List.Sublist.cons₂ _ (List.Sublist.cons _ (List.Sublist.cons₂ _ (List.Sublist.cons₂ _ (List.Sublist.cons₂ _ List.Sublist.slnil))))))
      simp only [Act.put, Act.eval, qn, qv, Nat.reduceAdd]
      refine rg_nil ?_
      refine ek_rt (List.Sublist.cons₂ _ (List.Sublist.cons _ (List.Sublist.cons₂ _ (List.Sublist.cons₂ _ (List.Sublist.cons₂ _ List.Sublist.slnil))))) ?_
      refine rt_hard2 (i := 11) (j := 13) (by kernel_rfl) rfl rfl ?_ ?_
      · refine rg_stk (by rfl) (by kernel_rfl) (by simp only [qm, qs, Act.eval] <;> exact rfl) (fun w hw => rmul_any p.s11 q.s00 kp11.out kq00.out 0 g4 w (Kn.hd0 (Kn.tl hw))) (fun e1 => (Rep.there _ (Rep.here _))) (fun e1 => fun _ h => by cases h; exact (List.Sublist.cons₂ _ (List.Sublist.cons _ (List.Sublist.cons₂ _ (List.Sublist.cons₂ _ (List.Sublist.cons₂ _ List.Sublist.slnil)))))) (fun vm em km hvm => ?_)
        simp only [Act.put, Act.eval, qn, qv, Nat.reduceAdd]
        replace km := Lib.hid km
        replace hvm := Lib.hid hvm
        refine rg_nil ?_
        refine ek_rt (List.Sublist.cons₂ _ (List.Sublist.cons _ (List.Sublist.cons₂ _ (List.Sublist.cons₂ _ (List.Sublist.cons₂ _ List.Sublist.slnil))))) ?_
        refine rt_hard2 (i := 12) (j := 13) (by kernel_rfl) rfl rfl ?_ ?_
        · refine rg_stk (by rfl) (by kernel_rfl) (by simp only [qm, qs, Act.eval] <;> exact rfl) (fun w hw => rsub_any En.oneR vm kone.out km.out em g4 w (Kn.hd0 (Kn.tl hw))) (fun e1 => (Rep.there _ (Rep.here _))) (fun e1 => fun _ h => by cases h; exact (List.Sublist.cons₂ _ (List.Sublist.cons _ (List.Sublist.cons₂ _ (List.Sublist.cons₂ _ (List.Sublist.cons₂ _ List.Sublist.slnil)))))) (fun vd ed kd hvd => ?_)
          simp only [Act.put, Act.eval, qn, qv, Nat.reduceAdd]
          replace kd := Lib.hid kd
          replace hvd := Lib.hid hvd
          refine rg_nil ?_
          refine ek_rt (List.Sublist.cons₂ _ (List.Sublist.cons _ (List.Sublist.cons₂ _ (List.Sublist.cons₂ _ (List.Sublist.cons₂ _ List.Sublist.slnil))))) ?_
          refine rt_hard1 (i := 13) (by kernel_rfl) rfl ?_
          refine rg_new (cs := ?_) (ty := ?_) (by rfl) (fun w => ?_) (fun _ h => by cases h; exact (List.Sublist.cons₂ _ (List.Sublist.cons _ (List.Sublist.cons₂ _ (List.Sublist.cons₂ _ (List.Sublist.cons₂ _ List.Sublist.slnil)))))) (fun g6 => ?_); rotate_left 2
          focus (go_simp; rfl)
          simp only [Act.put, Act.eval, qn, qv, Nat.reduceAdd]
          refine rg_nil ?_
          refine ek_rt (List.Sublist.cons _ (List.Sublist.cons₂ _ (List.Sublist.cons _ (List.Sublist.cons₂ _ (List.Sublist.cons₂ _ (List.Sublist.cons₂ _ List.Sublist.slnil)))))) ?_
          refine rt_hard1 (i := 14) (by kernel_rfl) rfl ?_
          refine rf_storeR (n := 4) rfl rfl (by kernel_rfl) rfl rfl (UpdR.here _ _ _ (Nat.le_of_ble_eq_true rfl)) (fun _ h => by cases h; exact (List.Sublist.cons _ (List.Sublist.cons₂ _ (List.Sublist.cons _ (List.Sublist.cons₂ _ (List.Sublist.cons₂ _ (List.Sublist.cons₂ _ List.Sublist.slnil))))))) ?_
          simp only [Act.put, Act.eval, qn, qv, Nat.reduceAdd]
          refine rg_nil ?_
          refine ek_rt (List.Sublist.cons _ (List.Sublist.cons₂ _ (List.Sublist.cons _ (List.Sublist.cons₂ _ (List.Sublist.cons₂ _ (List.Sublist.cons₂ _ List.Sublist.slnil)))))) ?_
          refine rt_nil (by kernel_rfl) ?_
          refine ek_midF (by kernel_rfl) ?_
          exact ⟨g6, vm, vd, em, ed, rfl, by rfl, hvm, hvd, km, kd⟩
        · refine rg_new (cs := ?_) (ty := ?_) (by rfl) (fun w => ?_) (fun _ h => by cases h; exact (List.Sublist.cons₂ _ (List.Sublist.cons _ (List.Sublist.cons₂ _ (List.Sublist.cons₂ _ (List.Sublist.cons₂ _ List.Sublist.slnil)))))) (fun g7 => ?_); rotate_left 2
          focus (go_simp; rfl)
          simp only [Act.put, Act.eval, qn, qv, Nat.reduceAdd]
          refine rg_nil ?_
          refine ek_rt (List.Sublist.cons _ (List.Sublist.cons₂ _ (List.Sublist.cons _ (List.Sublist.cons₂ _ (List.Sublist.cons₂ _ (List.Sublist.cons₂ _ List.Sublist.slnil)))))) ?_
          refine rt_hard1 (i := 12) (by kernel_rfl) rfl ?_
          refine rg_stk (by rfl) (by kernel_rfl) (by simp only [qm, qs, Act.eval] <;> exact rfl) (fun w hw => rsub_any En.oneR vm kone.out km.out em g4 w (Kn.hd0 (Kn.tl (Kn.tl hw)))) (fun e1 => (Rep.there _ (Rep.there _ (Rep.here _)))) (fun e1 => fun _ h => by cases h; exact (List.Sublist.cons _ (List.Sublist.cons₂ _ (List.Sublist.cons _ (List.Sublist.cons₂ _ (List.Sublist.cons₂ _ (List.Sublist.cons₂ _ List.Sublist.slnil))))))) (fun vd ed kd hvd => ?_)
          simp only [Act.put, Act.eval, qn, qv, Nat.reduceAdd]
          replace kd := Lib.hid kd
          replace hvd := Lib.hid hvd
          refine rg_nil ?_
          refine ek_rt (List.Sublist.cons _ (List.Sublist.cons₂ _ (List.Sublist.cons _ (List.Sublist.cons₂ _ (List.Sublist.cons₂ _ (List.Sublist.cons₂ _ List.Sublist.slnil)))))) ?_
          refine rt_hard1 (i := 14) (by kernel_rfl) rfl ?_
          refine rf_storeR (n := 4) rfl rfl (by kernel_rfl) rfl rfl (UpdR.here _ _ _ (Nat.le_of_ble_eq_true rfl)) (fun _ h => by cases h; exact (List.Sublist.cons _ (List.Sublist.cons₂ _ (List.Sublist.cons _ (List.Sublist.cons₂ _ (List.Sublist.cons₂ _ (List.Sublist.cons₂ _ List.Sublist.slnil))))))) ?_
          simp only [Act.put, Act.eval, qn, qv, Nat.reduceAdd]
          refine rg_nil ?_
          refine ek_rt (List.Sublist.cons _ (List.Sublist.cons₂ _ (List.Sublist.cons _ (List.Sublist.cons₂ _ (List.Sublist.cons₂ _ (List.Sublist.cons₂ _ List.Sublist.slnil)))))) ?_
          refine rt_nil (by kernel_rfl) ?_
          refine ek_midF (by kernel_rfl) ?_
          exact ⟨g7, vm, vd, em, ed, rfl, by rfl, hvm, hvd, km, kd⟩
      · refine rg_new (cs := ?_) (ty := ?_) (by rfl) (fun w => ?_) (fun _ h => by cases h; exact (List.Sublist.cons₂ _ (List.Sublist.cons _ (List.Sublist.cons₂ _ (List.Sublist.cons₂ _ (List.Sublist.cons₂ _ List.Sublist.slnil)))))) (fun g8 => ?_); rotate_left 2
        focus (go_simp; rfl)
        simp only [Act.put, Act.eval, qn, qv, Nat.reduceAdd]
        refine rg_nil ?_
        refine ek_rt (List.Sublist.cons _ (List.Sublist.cons₂ _ (List.Sublist.cons _ (List.Sublist.cons₂ _ (List.Sublist.cons₂ _ (List.Sublist.cons₂ _ List.Sublist.slnil)))))) ?_
        refine rt_hard1 (i := 11) (by kernel_rfl) rfl ?_
        refine rg_stk (by rfl) (by kernel_rfl) (by simp only [qm, qs, Act.eval] <;> exact rfl) (fun w hw => rmul_any p.s11 q.s00 kp11.out kq00.out 0 g4 w (Kn.hd0 (Kn.tl (Kn.tl hw)))) (fun e1 => (Rep.there _ (Rep.there _ (Rep.here _)))) (fun e1 => fun _ h => by cases h; exact (List.Sublist.cons _ (List.Sublist.cons₂ _ (List.Sublist.cons _ (List.Sublist.cons₂ _ (List.Sublist.cons₂ _ (List.Sublist.cons₂ _ List.Sublist.slnil))))))) (fun vm em km hvm => ?_)
        simp only [Act.put, Act.eval, qn, qv, Nat.reduceAdd]
        replace km := Lib.hid km
        replace hvm := Lib.hid hvm
        refine rg_nil ?_
        refine ek_rt (List.Sublist.cons _ (List.Sublist.cons₂ _ (List.Sublist.cons _ (List.Sublist.cons₂ _ (List.Sublist.cons₂ _ (List.Sublist.cons₂ _ List.Sublist.slnil)))))) ?_
        refine rt_hard1 (i := 12) (by kernel_rfl) rfl ?_
        refine rg_stk (by rfl) (by kernel_rfl) (by simp only [qm, qs, Act.eval] <;> exact rfl) (fun w hw => rsub_any En.oneR vm kone.out km.out em g4 w (Kn.hd0 (Kn.tl (Kn.tl hw)))) (fun e1 => (Rep.there _ (Rep.there _ (Rep.here _)))) (fun e1 => fun _ h => by cases h; exact (List.Sublist.cons _ (List.Sublist.cons₂ _ (List.Sublist.cons _ (List.Sublist.cons₂ _ (List.Sublist.cons₂ _ (List.Sublist.cons₂ _ List.Sublist.slnil))))))) (fun vd ed kd hvd => ?_)
        simp only [Act.put, Act.eval, qn, qv, Nat.reduceAdd]
        replace kd := Lib.hid kd
        replace hvd := Lib.hid hvd
        refine rg_nil ?_
        refine ek_rt (List.Sublist.cons _ (List.Sublist.cons₂ _ (List.Sublist.cons _ (List.Sublist.cons₂ _ (List.Sublist.cons₂ _ (List.Sublist.cons₂ _ List.Sublist.slnil)))))) ?_
        refine rt_hard1 (i := 14) (by kernel_rfl) rfl ?_
        refine rf_storeR (n := 4) rfl rfl (by kernel_rfl) rfl rfl (UpdR.here _ _ _ (Nat.le_of_ble_eq_true rfl)) (fun _ h => by cases h; exact (List.Sublist.cons _ (List.Sublist.cons₂ _ (List.Sublist.cons _ (List.Sublist.cons₂ _ (List.Sublist.cons₂ _ (List.Sublist.cons₂ _ List.Sublist.slnil))))))) ?_
        simp only [Act.put, Act.eval, qn, qv, Nat.reduceAdd]
        refine rg_nil ?_
        refine ek_rt (List.Sublist.cons _ (List.Sublist.cons₂ _ (List.Sublist.cons _ (List.Sublist.cons₂ _ (List.Sublist.cons₂ _ (List.Sublist.cons₂ _ List.Sublist.slnil)))))) ?_
        refine rt_nil (by kernel_rfl) ?_
        refine ek_midF (by kernel_rfl) ?_
        exact ⟨g8, vm, vd, em, ed, rfl, by rfl, hvm, hvd, km, kd⟩
    · refine rg_new (cs := ?_) (ty := ?_) (by rfl) (fun w => ?_) (fun _ h => by cases h; exact (List.Sublist.cons₂ _ (List.Sublist.cons _ (List.Sublist.cons₂ _ (List.Sublist.cons₂ _ (List.Sublist.cons₂ _ List.Sublist.slnil)))))) (fun g9 => ?_); rotate_left 2
      focus (go_simp; rfl)
      simp only [Act.put, Act.eval, qn, qv, Nat.reduceAdd]
      refine rg_nil ?_
      refine ek_rt (List.Sublist.cons _ (List.Sublist.cons₂ _ (List.Sublist.cons _ (List.Sublist.cons₂ _ (List.Sublist.cons₂ _ (List.Sublist.cons₂ _ List.Sublist.slnil)))))) ?_
      refine rt_hard1 (i := 1) (by kernel_rfl) rfl ?_
      apply rg_pure (by rfl) (by kernel_rfl)
      case hargs => (simp only [qm, qs, Act.eval]; exact rfl)
      case h => exact fun w hw => whole1 w
      case hz => exact (fun _ h => by cases h; exact (List.Sublist.cons _ (List.Sublist.cons₂ _ (List.Sublist.cons _ (List.Sublist.cons₂ _ (List.Sublist.cons₂ _ (List.Sublist.cons₂ _ List.Sublist.slnil)))))))
      simp only [Act.put, Act.eval, qn, qv, Nat.reduceAdd]
      refine rg_nil ?_
      refine ek_rt (List.Sublist.cons _ (List.Sublist.cons₂ _ (List.Sublist.cons _ (List.Sublist.cons₂ _ (List.Sublist.cons₂ _ (List.Sublist.cons₂ _ List.Sublist.slnil)))))) ?_
      refine rt_hard1 (i := 11) (by kernel_rfl) rfl ?_
      refine rg_stk (by rfl) (by kernel_rfl) (by simp only [qm, qs, Act.eval] <;> exact rfl) (fun w hw => rmul_any p.s11 q.s00 kp11.out kq00.out 0 g4 w (Kn.hd0 (Kn.tl (Kn.tl hw)))) (fun e1 => (Rep.there _ (Rep.there _ (Rep.here _)))) (fun e1 => fun _ h => by cases h; exact (List.Sublist.cons _ (List.Sublist.cons₂ _ (List.Sublist.cons _ (List.Sublist.cons₂ _ (List.Sublist.cons₂ _ (List.Sublist.cons₂ _ List.Sublist.slnil))))))) (fun vm em km hvm => ?_)
      simp only [Act.put, Act.eval, qn, qv, Nat.reduceAdd]
      replace km := Lib.hid km
      replace hvm := Lib.hid hvm
      refine rg_nil ?_
      refine ek_rt (List.Sublist.cons _ (List.Sublist.cons₂ _ (List.Sublist.cons _ (List.Sublist.cons₂ _ (List.Sublist.cons₂ _ (List.Sublist.cons₂ _ List.Sublist.slnil)))))) ?_
      refine rt_hard1 (i := 12) (by kernel_rfl) rfl ?_
      refine rg_stk (by rfl) (by kernel_rfl) (by simp only [qm, qs, Act.eval] <;> exact rfl) (fun w hw => rsub_any En.oneR vm kone.out km.out em g4 w (Kn.hd0 (Kn.tl (Kn.tl hw)))) (fun e1 => (Rep.there _ (Rep.there _ (Rep.here _)))) (fun e1 => fun _ h => by cases h; exact (List.Sublist.cons _ (List.Sublist.cons₂ _ (List.Sublist.cons _ (List.Sublist.cons₂ _ (List.Sublist.cons₂ _ (List.Sublist.cons₂ _ List.Sublist.slnil))))))) (fun vd ed kd hvd => ?_)
      simp only [Act.put, Act.eval, qn, qv, Nat.reduceAdd]
      replace kd := Lib.hid kd
      replace hvd := Lib.hid hvd
      refine rg_nil ?_
      refine ek_rt (List.Sublist.cons _ (List.Sublist.cons₂ _ (List.Sublist.cons _ (List.Sublist.cons₂ _ (List.Sublist.cons₂ _ (List.Sublist.cons₂ _ List.Sublist.slnil)))))) ?_
      refine rt_hard1 (i := 14) (by kernel_rfl) rfl ?_
      refine rf_storeR (n := 4) rfl rfl (by kernel_rfl) rfl rfl (UpdR.here _ _ _ (Nat.le_of_ble_eq_true rfl)) (fun _ h => by cases h; exact (List.Sublist.cons _ (List.Sublist.cons₂ _ (List.Sublist.cons _ (List.Sublist.cons₂ _ (List.Sublist.cons₂ _ (List.Sublist.cons₂ _ List.Sublist.slnil))))))) ?_
      simp only [Act.put, Act.eval, qn, qv, Nat.reduceAdd]
      refine rg_nil ?_
      refine ek_rt (List.Sublist.cons _ (List.Sublist.cons₂ _ (List.Sublist.cons _ (List.Sublist.cons₂ _ (List.Sublist.cons₂ _ (List.Sublist.cons₂ _ List.Sublist.slnil)))))) ?_
      refine rt_nil (by kernel_rfl) ?_
      refine ek_midF (by kernel_rfl) ?_
      exact ⟨g9, vm, vd, em, ed, rfl, by rfl, hvm, hvd, km, kd⟩
  · rintro f1 s ⟨gd, vm, vd, em, ed, hs1_8, rfl, hvm, hvd, km, kd⟩
    simp only [Act.putF, List.foldl_cons, List.foldl_nil, hs1_8, Act.put, Act.eval, q1, q2, q3, q4, q5, q6, q7, q8, q9, q10, q11, q12, q13, q14, q15, q16, q17, q18, Nat.reduceAdd, Bool.not_true, Bool.not_false]
    clear hs1_8
    refine wk_cutF [9, 34, 35, 36, 37, 38, 39, 40, 41, 42, 43, 44, 45, 46, 47, 48, 49, 50, 51, 52] (fun f s => ∃ (gb : Nat) (va vb vr : En.Rc) (ea eb er : Int), f 9 = .pointer (some ⟨gb, 0, none⟩) ∧ s = ((gb, .cells #[.int .i64 vr.re.lo, .int .i64 vr.re.hi, .int .i64 vr.im.lo, .int .i64 vr.im.hi] 25) :: ((gd, .cells #[.int .i64 vd.re.lo, .int .i64 vd.re.hi, .int .i64 vd.im.lo, .int .i64 vd.im.hi] 25) :: ((g5, .cells #[.int .i64 0, .int .i64 0, .int .i64 0, .int .i64 0, .int .i64 0, .int .i64 0, .int .i64 0, .int .i64 0, .int .i64 0, .int .i64 0, .int .i64 0, .int .i64 0, .int .i64 0, .int .i64 0, .int .i64 0, .int .i64 0] 49) :: ((g4, .cells #[.int .i64 er] 83) :: ((g3, .cells #[.int .i64 0, .int .i64 0, .int .i64 0, .int .i64 0, .int .i64 0, .int .i64 0, .int .i64 0, .int .i64 0, .int .i64 0, .int .i64 0, .int .i64 0, .int .i64 0, .int .i64 0, .int .i64 0, .int .i64 0, .int .i64 0] 49) :: ((g2, .cells #[.int .i64 q.s00.re.lo, .int .i64 q.s00.re.hi, .int .i64 q.s00.im.lo, .int .i64 q.s00.im.hi, .int .i64 q.s01.re.lo, .int .i64 q.s01.re.hi, .int .i64 q.s01.im.lo, .int .i64 q.s01.im.hi, .int .i64 q.s10.re.lo, .int .i64 q.s10.re.hi, .int .i64 q.s10.im.lo, .int .i64 q.s10.im.hi, .int .i64 q.s11.re.lo, .int .i64 q.s11.re.hi, .int .i64 q.s11.im.lo, .int .i64 q.s11.im.hi] 49) :: ((g1, .cells #[.int .i64 p.s00.re.lo, .int .i64 p.s00.re.hi, .int .i64 p.s00.im.lo, .int .i64 p.s00.im.hi, .int .i64 p.s01.re.lo, .int .i64 p.s01.re.hi, .int .i64 p.s01.im.lo, .int .i64 p.s01.im.hi, .int .i64 p.s10.re.lo, .int .i64 p.s10.re.hi, .int .i64 p.s10.im.lo, .int .i64 p.s10.im.hi, .int .i64 p.s11.re.lo, .int .i64 p.s11.re.hi, .int .i64 p.s11.im.lo, .int .i64 p.s11.im.hi] 49) :: []))))))) ∧ RowKit.Hid (En.Stk (En.times p.s01 q.s00) ed va ea) ∧ RowKit.Hid (En.Stk (En.times va p.s10) ea vb eb) ∧ RowKit.Hid (En.Stk (En.quotient vb vd) eb vr er) ∧ RowKit.Hid (va.ok = true) ∧ RowKit.Hid (vb.ok = true) ∧ RowKit.Hid (vr.ok = true)) ?_ ?_
    · refine wk_rt _ (by kernel_rfl) (List.Sublist.cons₂ _ (List.Sublist.cons₂ _ (List.Sublist.cons _ (List.Sublist.cons₂ _ (List.Sublist.cons₂ _ (List.Sublist.cons₂ _ List.Sublist.slnil)))))) ?_
      refine rt_soft (i := 0) rfl (by kernel_rfl) (fun c d v a w h => by cases d <;> exact h) (List.Sublist.cons₂ _ (List.Sublist.cons₂ _ (List.Sublist.cons _ (List.Sublist.cons₂ _ (List.Sublist.cons₂ _ (List.Sublist.cons₂ _ List.Sublist.slnil)))))) ?_
      refine rg_move ?_
      simp only [Act.put, Act.eval, qn, qv, Nat.reduceAdd]
      refine rg_nil ?_
      refine ek_rt (List.Sublist.cons₂ _ (List.Sublist.cons₂ _ (List.Sublist.cons _ (List.Sublist.cons₂ _ (List.Sublist.cons₂ _ (List.Sublist.cons₂ _ List.Sublist.slnil)))))) ?_
      refine rt_soft (i := 1) rfl (by kernel_rfl) (fun c d v a w h => by cases d <;> exact h) (List.Sublist.cons₂ _ (List.Sublist.cons₂ _ (List.Sublist.cons _ (List.Sublist.cons₂ _ (List.Sublist.cons₂ _ (List.Sublist.cons₂ _ List.Sublist.slnil)))))) ?_
      refine rg_move ?_
      simp only [Act.put, Act.eval, qn, qv, Nat.reduceAdd]
      refine rg_nil ?_
      refine ek_rt (List.Sublist.cons₂ _ (List.Sublist.cons₂ _ (List.Sublist.cons _ (List.Sublist.cons₂ _ (List.Sublist.cons₂ _ (List.Sublist.cons₂ _ List.Sublist.slnil)))))) ?_
      refine rt_soft (i := 2) rfl (by kernel_rfl) (fun c d v a w h => by cases d <;> exact h) (List.Sublist.cons₂ _ (List.Sublist.cons₂ _ (List.Sublist.cons _ (List.Sublist.cons₂ _ (List.Sublist.cons₂ _ (List.Sublist.cons₂ _ List.Sublist.slnil)))))) ?_
      refine rg_move ?_
      simp only [Act.put, Act.eval, qn, qv, Nat.reduceAdd]
      refine rg_nil ?_
      refine ek_rt (List.Sublist.cons₂ _ (List.Sublist.cons₂ _ (List.Sublist.cons _ (List.Sublist.cons₂ _ (List.Sublist.cons₂ _ (List.Sublist.cons₂ _ List.Sublist.slnil)))))) ?_
      refine rt_soft (i := 3) rfl (by kernel_rfl) (fun c d v a w h => by cases d <;> exact h) (List.Sublist.cons₂ _ (List.Sublist.cons₂ _ (List.Sublist.cons _ (List.Sublist.cons₂ _ (List.Sublist.cons₂ _ (List.Sublist.cons₂ _ List.Sublist.slnil)))))) ?_
      refine rf_field (n := 15) (j := 0) rfl rfl rfl Try.underlying49 rfl (by kernel_rfl) rfl ?_
      simp only [Act.put, Act.eval, qn, qv, Nat.reduceAdd]
      refine rg_nil ?_
      refine ek_rt (List.Sublist.cons₂ _ (List.Sublist.cons₂ _ (List.Sublist.cons _ (List.Sublist.cons₂ _ (List.Sublist.cons₂ _ (List.Sublist.cons₂ _ List.Sublist.slnil)))))) ?_
      refine rt_soft (i := 4) rfl (by kernel_rfl) (fun c d v a w h => by cases d <;> exact h) (List.Sublist.cons₂ _ (List.Sublist.cons₂ _ (List.Sublist.cons _ (List.Sublist.cons₂ _ (List.Sublist.cons₂ _ (List.Sublist.cons₂ _ List.Sublist.slnil)))))) ?_
      refine rf_indexA (n := 0) (sz := 8) (j := 0) rfl rfl rfl rfl Try.underlying47 (by kernel_rfl) (by decide) rfl ?_
      simp only [Act.put, Act.eval, qn, qv, Nat.reduceAdd]
      refine rg_nil ?_
      refine ek_rt (List.Sublist.cons₂ _ (List.Sublist.cons₂ _ (List.Sublist.cons _ (List.Sublist.cons₂ _ (List.Sublist.cons₂ _ (List.Sublist.cons₂ _ List.Sublist.slnil)))))) ?_
      refine rt_soft (i := 5) rfl (by kernel_rfl) (fun c d v a w h => by cases d <;> exact h) (List.Sublist.cons₂ _ (List.Sublist.cons₂ _ (List.Sublist.cons _ (List.Sublist.cons₂ _ (List.Sublist.cons₂ _ (List.Sublist.cons₂ _ List.Sublist.slnil)))))) ?_
      refine rf_indexA (n := 1) (sz := 4) (j := 4) rfl rfl rfl rfl Try.underlying46 (by kernel_rfl) (by decide) rfl ?_
      simp only [Act.put, Act.eval, qn, qv, Nat.reduceAdd]
      refine rg_nil ?_
      refine ek_rt (List.Sublist.cons₂ _ (List.Sublist.cons₂ _ (List.Sublist.cons _ (List.Sublist.cons₂ _ (List.Sublist.cons₂ _ (List.Sublist.cons₂ _ List.Sublist.slnil)))))) ?_
      refine rt_soft (i := 6) rfl (by kernel_rfl) (fun c d v a w h => by cases d <;> exact h) (List.Sublist.cons₂ _ (List.Sublist.cons₂ _ (List.Sublist.cons _ (List.Sublist.cons₂ _ (List.Sublist.cons₂ _ (List.Sublist.cons₂ _ List.Sublist.slnil)))))) ?_
      refine rf_loadR (n := 4) rfl rfl rfl Try.underlying25 rfl (by kernel_rfl) (fun w hw => Kn.hd0 (Kn.tl (Kn.tl (Kn.tl (Kn.tl hw))))) rfl rfl ?_
      simp only [Act.put, Act.eval, qn, qv, Nat.reduceAdd]
      refine rg_nil ?_
      refine ek_rt (List.Sublist.cons₂ _ (List.Sublist.cons₂ _ (List.Sublist.cons _ (List.Sublist.cons₂ _ (List.Sublist.cons₂ _ (List.Sublist.cons₂ _ List.Sublist.slnil)))))) ?_
      refine rt_soft (i := 7) rfl (by kernel_rfl) (fun c d v a w h => by cases d <;> exact h) (List.Sublist.cons₂ _ (List.Sublist.cons₂ _ (List.Sublist.cons _ (List.Sublist.cons₂ _ (List.Sublist.cons₂ _ (List.Sublist.cons₂ _ List.Sublist.slnil)))))) ?_
      refine rf_field (n := 15) (j := 0) rfl rfl rfl Try.underlying49 rfl (by kernel_rfl) rfl ?_
      simp only [Act.put, Act.eval, qn, qv, Nat.reduceAdd]
      refine rg_nil ?_
      refine ek_rt (List.Sublist.cons₂ _ (List.Sublist.cons₂ _ (List.Sublist.cons _ (List.Sublist.cons₂ _ (List.Sublist.cons₂ _ (List.Sublist.cons₂ _ List.Sublist.slnil)))))) ?_
      refine rt_soft (i := 8) rfl (by kernel_rfl) (fun c d v a w h => by cases d <;> exact h) (List.Sublist.cons₂ _ (List.Sublist.cons₂ _ (List.Sublist.cons _ (List.Sublist.cons₂ _ (List.Sublist.cons₂ _ (List.Sublist.cons₂ _ List.Sublist.slnil)))))) ?_
      refine rf_indexA (n := 0) (sz := 8) (j := 0) rfl rfl rfl rfl Try.underlying47 (by kernel_rfl) (by decide) rfl ?_
      simp only [Act.put, Act.eval, qn, qv, Nat.reduceAdd]
      refine rg_nil ?_
      refine ek_rt (List.Sublist.cons₂ _ (List.Sublist.cons₂ _ (List.Sublist.cons _ (List.Sublist.cons₂ _ (List.Sublist.cons₂ _ (List.Sublist.cons₂ _ List.Sublist.slnil)))))) ?_
      refine rt_soft (i := 9) rfl (by kernel_rfl) (fun c d v a w h => by cases d <;> exact h) (List.Sublist.cons₂ _ (List.Sublist.cons₂ _ (List.Sublist.cons _ (List.Sublist.cons₂ _ (List.Sublist.cons₂ _ (List.Sublist.cons₂ _ List.Sublist.slnil)))))) ?_
      refine rf_indexA (n := 0) (sz := 4) (j := 0) rfl rfl rfl rfl Try.underlying46 (by kernel_rfl) (by decide) rfl ?_
      simp only [Act.put, Act.eval, qn, qv, Nat.reduceAdd]
      refine rg_nil ?_
      refine ek_rt (List.Sublist.cons₂ _ (List.Sublist.cons₂ _ (List.Sublist.cons _ (List.Sublist.cons₂ _ (List.Sublist.cons₂ _ (List.Sublist.cons₂ _ List.Sublist.slnil)))))) ?_
      refine rt_soft (i := 10) rfl (by kernel_rfl) (fun c d v a w h => by cases d <;> exact h) (List.Sublist.cons₂ _ (List.Sublist.cons₂ _ (List.Sublist.cons _ (List.Sublist.cons₂ _ (List.Sublist.cons₂ _ (List.Sublist.cons₂ _ List.Sublist.slnil)))))) ?_
      refine rf_loadR (n := 4) rfl rfl rfl Try.underlying25 rfl (by kernel_rfl) (fun w hw => Kn.hd0 (Kn.tl (Kn.tl (Kn.tl hw)))) rfl rfl ?_
      simp only [Act.put, Act.eval, qn, qv, Nat.reduceAdd]
      refine rg_nil ?_
      refine ek_rt (List.Sublist.cons₂ _ (List.Sublist.cons₂ _ (List.Sublist.cons _ (List.Sublist.cons₂ _ (List.Sublist.cons₂ _ (List.Sublist.cons₂ _ List.Sublist.slnil)))))) ?_
      refine rt_soft (i := 12) rfl (by kernel_rfl) (fun c d v a w h => by cases d <;> exact h) (List.Sublist.cons₂ _ (List.Sublist.cons₂ _ (List.Sublist.cons _ (List.Sublist.cons₂ _ (List.Sublist.cons₂ _ (List.Sublist.cons₂ _ List.Sublist.slnil)))))) ?_
      refine rf_field (n := 15) (j := 0) rfl rfl rfl Try.underlying49 rfl (by kernel_rfl) rfl ?_
      simp only [Act.put, Act.eval, qn, qv, Nat.reduceAdd]
      refine rg_nil ?_
      refine ek_rt (List.Sublist.cons₂ _ (List.Sublist.cons₂ _ (List.Sublist.cons _ (List.Sublist.cons₂ _ (List.Sublist.cons₂ _ (List.Sublist.cons₂ _ List.Sublist.slnil)))))) ?_
      refine rt_soft (i := 13) rfl (by kernel_rfl) (fun c d v a w h => by cases d <;> exact h) (List.Sublist.cons₂ _ (List.Sublist.cons₂ _ (List.Sublist.cons _ (List.Sublist.cons₂ _ (List.Sublist.cons₂ _ (List.Sublist.cons₂ _ List.Sublist.slnil)))))) ?_
      refine rf_indexA (n := 1) (sz := 8) (j := 8) rfl rfl rfl rfl Try.underlying47 (by kernel_rfl) (by decide) rfl ?_
      simp only [Act.put, Act.eval, qn, qv, Nat.reduceAdd]
      refine rg_nil ?_
      refine ek_rt (List.Sublist.cons₂ _ (List.Sublist.cons₂ _ (List.Sublist.cons _ (List.Sublist.cons₂ _ (List.Sublist.cons₂ _ (List.Sublist.cons₂ _ List.Sublist.slnil)))))) ?_
      refine rt_soft (i := 14) rfl (by kernel_rfl) (fun c d v a w h => by cases d <;> exact h) (List.Sublist.cons₂ _ (List.Sublist.cons₂ _ (List.Sublist.cons _ (List.Sublist.cons₂ _ (List.Sublist.cons₂ _ (List.Sublist.cons₂ _ List.Sublist.slnil)))))) ?_
      refine rf_indexA (n := 0) (sz := 4) (j := 8) rfl rfl rfl rfl Try.underlying46 (by kernel_rfl) (by decide) rfl ?_
      simp only [Act.put, Act.eval, qn, qv, Nat.reduceAdd]
      refine rg_nil ?_
      refine ek_rt (List.Sublist.cons₂ _ (List.Sublist.cons₂ _ (List.Sublist.cons _ (List.Sublist.cons₂ _ (List.Sublist.cons₂ _ (List.Sublist.cons₂ _ List.Sublist.slnil)))))) ?_
      refine rt_soft (i := 15) rfl (by kernel_rfl) (fun c d v a w h => by cases d <;> exact h) (List.Sublist.cons₂ _ (List.Sublist.cons₂ _ (List.Sublist.cons _ (List.Sublist.cons₂ _ (List.Sublist.cons₂ _ (List.Sublist.cons₂ _ List.Sublist.slnil)))))) ?_
      refine rf_loadR (n := 4) rfl rfl rfl Try.underlying25 rfl (by kernel_rfl) (fun w hw => Kn.hd0 (Kn.tl (Kn.tl (Kn.tl (Kn.tl hw))))) rfl rfl ?_
      simp only [Act.put, Act.eval, qn, qv, Nat.reduceAdd]
      refine rg_nil ?_
      refine ek_rt (List.Sublist.cons₂ _ (List.Sublist.cons₂ _ (List.Sublist.cons _ (List.Sublist.cons₂ _ (List.Sublist.cons₂ _ (List.Sublist.cons₂ _ List.Sublist.slnil)))))) ?_
      refine rt_soft (i := 17) rfl (by kernel_rfl) (fun c d v a w h => by cases d <;> exact h) (List.Sublist.cons₂ _ (List.Sublist.cons₂ _ (List.Sublist.cons _ (List.Sublist.cons₂ _ (List.Sublist.cons₂ _ (List.Sublist.cons₂ _ List.Sublist.slnil)))))) ?_
      refine rf_loadR (n := 4) rfl rfl rfl Try.underlying25 rfl (by kernel_rfl) (fun w hw => Kn.hd0 hw) rfl rfl ?_
      simp only [Act.put, Act.eval, qn, qv, Nat.reduceAdd]
      refine rg_nil ?_
      refine ek_rt (List.Sublist.cons₂ _ (List.Sublist.cons₂ _ (List.Sublist.cons _ (List.Sublist.cons₂ _ (List.Sublist.cons₂ _ (List.Sublist.cons₂ _ List.Sublist.slnil)))))) ?_
      refine rt_hard2 (i := 11) (j := 19) (by kernel_rfl) rfl rfl ?_ ?_
      · refine rg_stk (by rfl) (by kernel_rfl) (by simp only [qm, qs, Act.eval] <;> exact rfl) (fun w hw => rmul_any p.s01 q.s00 kp01.out kq00.out ed g4 w (Kn.hd0 (Kn.tl (Kn.tl hw)))) (fun e1 => (Rep.there _ (Rep.there _ (Rep.here _)))) (fun e1 => fun _ h => by cases h; exact (List.Sublist.cons₂ _ (List.Sublist.cons₂ _ (List.Sublist.cons _ (List.Sublist.cons₂ _ (List.Sublist.cons₂ _ (List.Sublist.cons₂ _ List.Sublist.slnil))))))) (fun va ea ka hva => ?_)
        simp only [Act.put, Act.eval, qn, qv, Nat.reduceAdd]
        replace ka := Lib.hid ka
        replace hva := Lib.hid hva
        refine rg_nil ?_
        refine ek_rt (List.Sublist.cons₂ _ (List.Sublist.cons₂ _ (List.Sublist.cons _ (List.Sublist.cons₂ _ (List.Sublist.cons₂ _ (List.Sublist.cons₂ _ List.Sublist.slnil)))))) ?_
        refine rt_hard2 (i := 16) (j := 19) (by kernel_rfl) rfl rfl ?_ ?_
        · refine rg_stk (by rfl) (by kernel_rfl) (by simp only [qm, qs, Act.eval] <;> exact rfl) (fun w hw => rmul_any va p.s10 ka.out kp10.out ea g4 w (Kn.hd0 (Kn.tl (Kn.tl hw)))) (fun e1 => (Rep.there _ (Rep.there _ (Rep.here _)))) (fun e1 => fun _ h => by cases h; exact (List.Sublist.cons₂ _ (List.Sublist.cons₂ _ (List.Sublist.cons _ (List.Sublist.cons₂ _ (List.Sublist.cons₂ _ (List.Sublist.cons₂ _ List.Sublist.slnil))))))) (fun vb eb kb hvb => ?_)
          simp only [Act.put, Act.eval, qn, qv, Nat.reduceAdd]
          replace kb := Lib.hid kb
          replace hvb := Lib.hid hvb
          refine rg_nil ?_
          refine ek_rt (List.Sublist.cons₂ _ (List.Sublist.cons₂ _ (List.Sublist.cons _ (List.Sublist.cons₂ _ (List.Sublist.cons₂ _ (List.Sublist.cons₂ _ List.Sublist.slnil)))))) ?_
          refine rt_hard2 (i := 18) (j := 19) (by kernel_rfl) rfl rfl ?_ ?_
          · refine rg_stk (by rfl) (by kernel_rfl) (by simp only [qm, qs, Act.eval] <;> exact rfl) (fun w hw => rdiv_any vb vd kb.out kd.out eb g4 w (Kn.hd0 (Kn.tl (Kn.tl hw)))) (fun e1 => (Rep.there _ (Rep.there _ (Rep.here _)))) (fun e1 => fun _ h => by cases h; exact (List.Sublist.cons₂ _ (List.Sublist.cons₂ _ (List.Sublist.cons _ (List.Sublist.cons₂ _ (List.Sublist.cons₂ _ (List.Sublist.cons₂ _ List.Sublist.slnil))))))) (fun vr er kr hvr => ?_)
            simp only [Act.put, Act.eval, qn, qv, Nat.reduceAdd]
            replace kr := Lib.hid kr
            replace hvr := Lib.hid hvr
            refine rg_nil ?_
            refine ek_rt (List.Sublist.cons₂ _ (List.Sublist.cons₂ _ (List.Sublist.cons _ (List.Sublist.cons₂ _ (List.Sublist.cons₂ _ (List.Sublist.cons₂ _ List.Sublist.slnil)))))) ?_
            refine rt_hard1 (i := 19) (by kernel_rfl) rfl ?_
            refine rg_new (cs := ?_) (ty := ?_) (by rfl) (fun w => ?_) (fun _ h => by cases h; exact (List.Sublist.cons₂ _ (List.Sublist.cons₂ _ (List.Sublist.cons _ (List.Sublist.cons₂ _ (List.Sublist.cons₂ _ (List.Sublist.cons₂ _ List.Sublist.slnil))))))) (fun g10 => ?_); rotate_left 2
            focus (go_simp; rfl)
            simp only [Act.put, Act.eval, qn, qv, Nat.reduceAdd]
            refine rg_nil ?_
            refine ek_rt (List.Sublist.cons _ (List.Sublist.cons₂ _ (List.Sublist.cons₂ _ (List.Sublist.cons _ (List.Sublist.cons₂ _ (List.Sublist.cons₂ _ (List.Sublist.cons₂ _ List.Sublist.slnil))))))) ?_
            refine rt_hard1 (i := 20) (by kernel_rfl) rfl ?_
            refine rf_storeR (n := 4) rfl rfl (by kernel_rfl) rfl rfl (UpdR.here _ _ _ (Nat.le_of_ble_eq_true rfl)) (fun _ h => by cases h; exact (List.Sublist.cons _ (List.Sublist.cons₂ _ (List.Sublist.cons₂ _ (List.Sublist.cons _ (List.Sublist.cons₂ _ (List.Sublist.cons₂ _ (List.Sublist.cons₂ _ List.Sublist.slnil)))))))) ?_
            simp only [Act.put, Act.eval, qn, qv, Nat.reduceAdd]
            refine rg_nil ?_
            refine ek_rt (List.Sublist.cons _ (List.Sublist.cons₂ _ (List.Sublist.cons₂ _ (List.Sublist.cons _ (List.Sublist.cons₂ _ (List.Sublist.cons₂ _ (List.Sublist.cons₂ _ List.Sublist.slnil))))))) ?_
            refine rt_nil (by kernel_rfl) ?_
            refine ek_midF (by kernel_rfl) ?_
            exact ⟨g10, va, vb, vr, ea, eb, er, rfl, by rfl, hva, hvb, hvr, ka, kb, kr⟩
          · refine rg_new (cs := ?_) (ty := ?_) (by rfl) (fun w => ?_) (fun _ h => by cases h; exact (List.Sublist.cons₂ _ (List.Sublist.cons₂ _ (List.Sublist.cons _ (List.Sublist.cons₂ _ (List.Sublist.cons₂ _ (List.Sublist.cons₂ _ List.Sublist.slnil))))))) (fun g11 => ?_); rotate_left 2
            focus (go_simp; rfl)
            simp only [Act.put, Act.eval, qn, qv, Nat.reduceAdd]
            refine rg_nil ?_
            refine ek_rt (List.Sublist.cons _ (List.Sublist.cons₂ _ (List.Sublist.cons₂ _ (List.Sublist.cons _ (List.Sublist.cons₂ _ (List.Sublist.cons₂ _ (List.Sublist.cons₂ _ List.Sublist.slnil))))))) ?_
            refine rt_hard1 (i := 18) (by kernel_rfl) rfl ?_
            refine rg_stk (by rfl) (by kernel_rfl) (by simp only [qm, qs, Act.eval] <;> exact rfl) (fun w hw => rdiv_any vb vd kb.out kd.out eb g4 w (Kn.hd0 (Kn.tl (Kn.tl (Kn.tl hw))))) (fun e1 => (Rep.there _ (Rep.there _ (Rep.there _ (Rep.here _))))) (fun e1 => fun _ h => by cases h; exact (List.Sublist.cons _ (List.Sublist.cons₂ _ (List.Sublist.cons₂ _ (List.Sublist.cons _ (List.Sublist.cons₂ _ (List.Sublist.cons₂ _ (List.Sublist.cons₂ _ List.Sublist.slnil)))))))) (fun vr er kr hvr => ?_)
            simp only [Act.put, Act.eval, qn, qv, Nat.reduceAdd]
            replace kr := Lib.hid kr
            replace hvr := Lib.hid hvr
            refine rg_nil ?_
            refine ek_rt (List.Sublist.cons _ (List.Sublist.cons₂ _ (List.Sublist.cons₂ _ (List.Sublist.cons _ (List.Sublist.cons₂ _ (List.Sublist.cons₂ _ (List.Sublist.cons₂ _ List.Sublist.slnil))))))) ?_
            refine rt_hard1 (i := 20) (by kernel_rfl) rfl ?_
            refine rf_storeR (n := 4) rfl rfl (by kernel_rfl) rfl rfl (UpdR.here _ _ _ (Nat.le_of_ble_eq_true rfl)) (fun _ h => by cases h; exact (List.Sublist.cons _ (List.Sublist.cons₂ _ (List.Sublist.cons₂ _ (List.Sublist.cons _ (List.Sublist.cons₂ _ (List.Sublist.cons₂ _ (List.Sublist.cons₂ _ List.Sublist.slnil)))))))) ?_
            simp only [Act.put, Act.eval, qn, qv, Nat.reduceAdd]
            refine rg_nil ?_
            refine ek_rt (List.Sublist.cons _ (List.Sublist.cons₂ _ (List.Sublist.cons₂ _ (List.Sublist.cons _ (List.Sublist.cons₂ _ (List.Sublist.cons₂ _ (List.Sublist.cons₂ _ List.Sublist.slnil))))))) ?_
            refine rt_nil (by kernel_rfl) ?_
            refine ek_midF (by kernel_rfl) ?_
            exact ⟨g11, va, vb, vr, ea, eb, er, rfl, by rfl, hva, hvb, hvr, ka, kb, kr⟩
        · refine rg_new (cs := ?_) (ty := ?_) (by rfl) (fun w => ?_) (fun _ h => by cases h; exact (List.Sublist.cons₂ _ (List.Sublist.cons₂ _ (List.Sublist.cons _ (List.Sublist.cons₂ _ (List.Sublist.cons₂ _ (List.Sublist.cons₂ _ List.Sublist.slnil))))))) (fun g12 => ?_); rotate_left 2
          focus (go_simp; rfl)
          simp only [Act.put, Act.eval, qn, qv, Nat.reduceAdd]
          refine rg_nil ?_
          refine ek_rt (List.Sublist.cons _ (List.Sublist.cons₂ _ (List.Sublist.cons₂ _ (List.Sublist.cons _ (List.Sublist.cons₂ _ (List.Sublist.cons₂ _ (List.Sublist.cons₂ _ List.Sublist.slnil))))))) ?_
          refine rt_hard1 (i := 16) (by kernel_rfl) rfl ?_
          refine rg_stk (by rfl) (by kernel_rfl) (by simp only [qm, qs, Act.eval] <;> exact rfl) (fun w hw => rmul_any va p.s10 ka.out kp10.out ea g4 w (Kn.hd0 (Kn.tl (Kn.tl (Kn.tl hw))))) (fun e1 => (Rep.there _ (Rep.there _ (Rep.there _ (Rep.here _))))) (fun e1 => fun _ h => by cases h; exact (List.Sublist.cons _ (List.Sublist.cons₂ _ (List.Sublist.cons₂ _ (List.Sublist.cons _ (List.Sublist.cons₂ _ (List.Sublist.cons₂ _ (List.Sublist.cons₂ _ List.Sublist.slnil)))))))) (fun vb eb kb hvb => ?_)
          simp only [Act.put, Act.eval, qn, qv, Nat.reduceAdd]
          replace kb := Lib.hid kb
          replace hvb := Lib.hid hvb
          refine rg_nil ?_
          refine ek_rt (List.Sublist.cons _ (List.Sublist.cons₂ _ (List.Sublist.cons₂ _ (List.Sublist.cons _ (List.Sublist.cons₂ _ (List.Sublist.cons₂ _ (List.Sublist.cons₂ _ List.Sublist.slnil))))))) ?_
          refine rt_hard1 (i := 18) (by kernel_rfl) rfl ?_
          refine rg_stk (by rfl) (by kernel_rfl) (by simp only [qm, qs, Act.eval] <;> exact rfl) (fun w hw => rdiv_any vb vd kb.out kd.out eb g4 w (Kn.hd0 (Kn.tl (Kn.tl (Kn.tl hw))))) (fun e1 => (Rep.there _ (Rep.there _ (Rep.there _ (Rep.here _))))) (fun e1 => fun _ h => by cases h; exact (List.Sublist.cons _ (List.Sublist.cons₂ _ (List.Sublist.cons₂ _ (List.Sublist.cons _ (List.Sublist.cons₂ _ (List.Sublist.cons₂ _ (List.Sublist.cons₂ _ List.Sublist.slnil)))))))) (fun vr er kr hvr => ?_)
          simp only [Act.put, Act.eval, qn, qv, Nat.reduceAdd]
          replace kr := Lib.hid kr
          replace hvr := Lib.hid hvr
          refine rg_nil ?_
          refine ek_rt (List.Sublist.cons _ (List.Sublist.cons₂ _ (List.Sublist.cons₂ _ (List.Sublist.cons _ (List.Sublist.cons₂ _ (List.Sublist.cons₂ _ (List.Sublist.cons₂ _ List.Sublist.slnil))))))) ?_
          refine rt_hard1 (i := 20) (by kernel_rfl) rfl ?_
          refine rf_storeR (n := 4) rfl rfl (by kernel_rfl) rfl rfl (UpdR.here _ _ _ (Nat.le_of_ble_eq_true rfl)) (fun _ h => by cases h; exact (List.Sublist.cons _ (List.Sublist.cons₂ _ (List.Sublist.cons₂ _ (List.Sublist.cons _ (List.Sublist.cons₂ _ (List.Sublist.cons₂ _ (List.Sublist.cons₂ _ List.Sublist.slnil)))))))) ?_
          simp only [Act.put, Act.eval, qn, qv, Nat.reduceAdd]
          refine rg_nil ?_
          refine ek_rt (List.Sublist.cons _ (List.Sublist.cons₂ _ (List.Sublist.cons₂ _ (List.Sublist.cons _ (List.Sublist.cons₂ _ (List.Sublist.cons₂ _ (List.Sublist.cons₂ _ List.Sublist.slnil))))))) ?_
          refine rt_nil (by kernel_rfl) ?_
          refine ek_midF (by kernel_rfl) ?_
          exact ⟨g12, va, vb, vr, ea, eb, er, rfl, by rfl, hva, hvb, hvr, ka, kb, kr⟩
      · refine rg_new (cs := ?_) (ty := ?_) (by rfl) (fun w => ?_) (fun _ h => by cases h; exact (List.Sublist.cons₂ _ (List.Sublist.cons₂ _ (List.Sublist.cons _ (List.Sublist.cons₂ _ (List.Sublist.cons₂ _ (List.Sublist.cons₂ _ List.Sublist.slnil))))))) (fun g13 => ?_); rotate_left 2
        focus (go_simp; rfl)
        simp only [Act.put, Act.eval, qn, qv, Nat.reduceAdd]
        refine rg_nil ?_
        refine ek_rt (List.Sublist.cons _ (List.Sublist.cons₂ _ (List.Sublist.cons₂ _ (List.Sublist.cons _ (List.Sublist.cons₂ _ (List.Sublist.cons₂ _ (List.Sublist.cons₂ _ List.Sublist.slnil))))))) ?_
        refine rt_hard1 (i := 11) (by kernel_rfl) rfl ?_
        refine rg_stk (by rfl) (by kernel_rfl) (by simp only [qm, qs, Act.eval] <;> exact rfl) (fun w hw => rmul_any p.s01 q.s00 kp01.out kq00.out ed g4 w (Kn.hd0 (Kn.tl (Kn.tl (Kn.tl hw))))) (fun e1 => (Rep.there _ (Rep.there _ (Rep.there _ (Rep.here _))))) (fun e1 => fun _ h => by cases h; exact (List.Sublist.cons _ (List.Sublist.cons₂ _ (List.Sublist.cons₂ _ (List.Sublist.cons _ (List.Sublist.cons₂ _ (List.Sublist.cons₂ _ (List.Sublist.cons₂ _ List.Sublist.slnil)))))))) (fun va ea ka hva => ?_)
        simp only [Act.put, Act.eval, qn, qv, Nat.reduceAdd]
        replace ka := Lib.hid ka
        replace hva := Lib.hid hva
        refine rg_nil ?_
        refine ek_rt (List.Sublist.cons _ (List.Sublist.cons₂ _ (List.Sublist.cons₂ _ (List.Sublist.cons _ (List.Sublist.cons₂ _ (List.Sublist.cons₂ _ (List.Sublist.cons₂ _ List.Sublist.slnil))))))) ?_
        refine rt_hard1 (i := 16) (by kernel_rfl) rfl ?_
        refine rg_stk (by rfl) (by kernel_rfl) (by simp only [qm, qs, Act.eval] <;> exact rfl) (fun w hw => rmul_any va p.s10 ka.out kp10.out ea g4 w (Kn.hd0 (Kn.tl (Kn.tl (Kn.tl hw))))) (fun e1 => (Rep.there _ (Rep.there _ (Rep.there _ (Rep.here _))))) (fun e1 => fun _ h => by cases h; exact (List.Sublist.cons _ (List.Sublist.cons₂ _ (List.Sublist.cons₂ _ (List.Sublist.cons _ (List.Sublist.cons₂ _ (List.Sublist.cons₂ _ (List.Sublist.cons₂ _ List.Sublist.slnil)))))))) (fun vb eb kb hvb => ?_)
        simp only [Act.put, Act.eval, qn, qv, Nat.reduceAdd]
        replace kb := Lib.hid kb
        replace hvb := Lib.hid hvb
        refine rg_nil ?_
        refine ek_rt (List.Sublist.cons _ (List.Sublist.cons₂ _ (List.Sublist.cons₂ _ (List.Sublist.cons _ (List.Sublist.cons₂ _ (List.Sublist.cons₂ _ (List.Sublist.cons₂ _ List.Sublist.slnil))))))) ?_
        refine rt_hard1 (i := 18) (by kernel_rfl) rfl ?_
        refine rg_stk (by rfl) (by kernel_rfl) (by simp only [qm, qs, Act.eval] <;> exact rfl) (fun w hw => rdiv_any vb vd kb.out kd.out eb g4 w (Kn.hd0 (Kn.tl (Kn.tl (Kn.tl hw))))) (fun e1 => (Rep.there _ (Rep.there _ (Rep.there _ (Rep.here _))))) (fun e1 => fun _ h => by cases h; exact (List.Sublist.cons _ (List.Sublist.cons₂ _ (List.Sublist.cons₂ _ (List.Sublist.cons _ (List.Sublist.cons₂ _ (List.Sublist.cons₂ _ (List.Sublist.cons₂ _ List.Sublist.slnil)))))))) (fun vr er kr hvr => ?_)
        simp only [Act.put, Act.eval, qn, qv, Nat.reduceAdd]
        replace kr := Lib.hid kr
        replace hvr := Lib.hid hvr
        refine rg_nil ?_
        refine ek_rt (List.Sublist.cons _ (List.Sublist.cons₂ _ (List.Sublist.cons₂ _ (List.Sublist.cons _ (List.Sublist.cons₂ _ (List.Sublist.cons₂ _ (List.Sublist.cons₂ _ List.Sublist.slnil))))))) ?_
        refine rt_hard1 (i := 20) (by kernel_rfl) rfl ?_
        refine rf_storeR (n := 4) rfl rfl (by kernel_rfl) rfl rfl (UpdR.here _ _ _ (Nat.le_of_ble_eq_true rfl)) (fun _ h => by cases h; exact (List.Sublist.cons _ (List.Sublist.cons₂ _ (List.Sublist.cons₂ _ (List.Sublist.cons _ (List.Sublist.cons₂ _ (List.Sublist.cons₂ _ (List.Sublist.cons₂ _ List.Sublist.slnil)))))))) ?_
        simp only [Act.put, Act.eval, qn, qv, Nat.reduceAdd]
        refine rg_nil ?_
        refine ek_rt (List.Sublist.cons _ (List.Sublist.cons₂ _ (List.Sublist.cons₂ _ (List.Sublist.cons _ (List.Sublist.cons₂ _ (List.Sublist.cons₂ _ (List.Sublist.cons₂ _ List.Sublist.slnil))))))) ?_
        refine rt_nil (by kernel_rfl) ?_
        refine ek_midF (by kernel_rfl) ?_
        exact ⟨g13, va, vb, vr, ea, eb, er, rfl, by rfl, hva, hvb, hvr, ka, kb, kr⟩
    · rintro f2 s ⟨gb, va, vb, vr, ea, eb, er, hs2_9, rfl, hva, hvb, hvr, ka, kb, kr⟩
      simp only [Act.putF, List.foldl_cons, List.foldl_nil, hs2_9, Act.put, Act.eval, q1, q2, q3, q4, q5, q6, q7, q8, q9, q10, q11, q12, q13, q14, q15, q16, q17, q18, Nat.reduceAdd, Bool.not_true, Bool.not_false]
      clear hs2_9
      refine wk_seq ?_
      refine wk_region [0, 0, 0, 0, 0, 0, 1, 0, 0, 0, 1] rfl (by kernel_rfl) ?_
      simp only [List.zip_cons_cons, List.zip_nil_right]
      refine rg_move ?_
      simp only [Act.put, Act.eval, qn, qv, Nat.reduceAdd]
      refine rf_field (n := 15) (j := 0) rfl rfl rfl Try.underlying49 rfl (by kernel_rfl) rfl ?_
      simp only [Act.put, Act.eval, qn, qv, Nat.reduceAdd]
      refine rf_indexA (n := 0) (sz := 8) (j := 0) rfl rfl rfl rfl Try.underlying47 (by kernel_rfl) (by decide) rfl ?_
      simp only [Act.put, Act.eval, qn, qv, Nat.reduceAdd]
      refine rf_indexA (n := 0) (sz := 4) (j := 0) rfl rfl rfl rfl Try.underlying46 (by kernel_rfl) (by decide) rfl ?_
      simp only [Act.put, Act.eval, qn, qv, Nat.reduceAdd]
      refine rf_loadR (n := 4) rfl rfl rfl Try.underlying25 rfl (by kernel_rfl) (fun w hw => Kn.hd0 (Kn.tl (Kn.tl (Kn.tl (Kn.tl (Kn.tl (Kn.tl hw))))))) rfl rfl ?_
      simp only [Act.put, Act.eval, qn, qv, Nat.reduceAdd]
      refine rf_loadR (n := 4) rfl rfl rfl Try.underlying25 rfl (by kernel_rfl) (fun w hw => Kn.hd0 hw) rfl rfl ?_
      simp only [Act.put, Act.eval, qn, qv, Nat.reduceAdd]
      refine rg_stk (by rfl) (by kernel_rfl) (by simp only [qm, qs, Act.eval] <;> exact rfl) (fun w hw => radd_any p.s00 vr kp00.out kr.out er g4 w (Kn.hd0 (Kn.tl (Kn.tl (Kn.tl hw))))) (fun e1 => (Rep.there _ (Rep.there _ (Rep.there _ (Rep.here _))))) (fun e1 => fun _ h => by cases h) (fun vo00 eo00 ko00 hvo00 => ?_)
      simp only [Act.put, Act.eval, qn, qv, Nat.reduceAdd]
      replace ko00 := Lib.hid ko00
      replace hvo00 := Lib.hid hvo00
      refine rf_field (n := 15) (j := 0) rfl rfl rfl Try.underlying49 rfl (by kernel_rfl) rfl ?_
      simp only [Act.put, Act.eval, qn, qv, Nat.reduceAdd]
      refine rf_indexA (n := 0) (sz := 8) (j := 0) rfl rfl rfl rfl Try.underlying47 (by kernel_rfl) (by decide) rfl ?_
      simp only [Act.put, Act.eval, qn, qv, Nat.reduceAdd]
      refine rf_indexA (n := 0) (sz := 4) (j := 0) rfl rfl rfl rfl Try.underlying46 (by kernel_rfl) (by decide) rfl ?_
      simp only [Act.put, Act.eval, qn, qv, Nat.reduceAdd]
      refine rf_storeR (n := 4) rfl rfl (by kernel_rfl) rfl rfl (UpdR.there _ (UpdR.there _ (UpdR.here _ _ _ (Nat.le_of_ble_eq_true rfl)))) (fun _ h => by cases h) ?_
      simp only [Act.put, Act.eval, qn, qv, Nat.reduceAdd]
      refine rg_nil ?_
      refine ek_next ?_
      refine wk_seq ?_
      refine wk_rt _ (by kernel_rfl) (List.Sublist.cons₂ _ (List.Sublist.cons₂ _ (List.Sublist.cons _ (List.Sublist.cons _ (List.Sublist.cons₂ _ (List.Sublist.cons₂ _ (List.Sublist.cons₂ _ List.Sublist.slnil))))))) ?_
      refine rt_soft (i := 0) rfl (by kernel_rfl) (fun c d v a w h => by cases d <;> exact h) (List.Sublist.cons₂ _ (List.Sublist.cons₂ _ (List.Sublist.cons _ (List.Sublist.cons _ (List.Sublist.cons₂ _ (List.Sublist.cons₂ _ (List.Sublist.cons₂ _ List.Sublist.slnil))))))) ?_
      refine rg_move ?_
      simp only [Act.put, Act.eval, qn, qv, Nat.reduceAdd]
      refine rg_nil ?_
      refine ek_rt (List.Sublist.cons₂ _ (List.Sublist.cons₂ _ (List.Sublist.cons _ (List.Sublist.cons _ (List.Sublist.cons₂ _ (List.Sublist.cons₂ _ (List.Sublist.cons₂ _ List.Sublist.slnil))))))) ?_
      refine rt_soft (i := 1) rfl (by kernel_rfl) (fun c d v a w h => by cases d <;> exact h) (List.Sublist.cons₂ _ (List.Sublist.cons₂ _ (List.Sublist.cons _ (List.Sublist.cons _ (List.Sublist.cons₂ _ (List.Sublist.cons₂ _ (List.Sublist.cons₂ _ List.Sublist.slnil))))))) ?_
      refine rg_move ?_
      simp only [Act.put, Act.eval, qn, qv, Nat.reduceAdd]
      refine rg_nil ?_
      refine ek_rt (List.Sublist.cons₂ _ (List.Sublist.cons₂ _ (List.Sublist.cons _ (List.Sublist.cons _ (List.Sublist.cons₂ _ (List.Sublist.cons₂ _ (List.Sublist.cons₂ _ List.Sublist.slnil))))))) ?_
      refine rt_soft (i := 2) rfl (by kernel_rfl) (fun c d v a w h => by cases d <;> exact h) (List.Sublist.cons₂ _ (List.Sublist.cons₂ _ (List.Sublist.cons _ (List.Sublist.cons _ (List.Sublist.cons₂ _ (List.Sublist.cons₂ _ (List.Sublist.cons₂ _ List.Sublist.slnil))))))) ?_
      refine rf_field (n := 15) (j := 0) rfl rfl rfl Try.underlying49 rfl (by kernel_rfl) rfl ?_
      simp only [Act.put, Act.eval, qn, qv, Nat.reduceAdd]
      refine rg_nil ?_
      refine ek_rt (List.Sublist.cons₂ _ (List.Sublist.cons₂ _ (List.Sublist.cons _ (List.Sublist.cons _ (List.Sublist.cons₂ _ (List.Sublist.cons₂ _ (List.Sublist.cons₂ _ List.Sublist.slnil))))))) ?_
      refine rt_soft (i := 3) rfl (by kernel_rfl) (fun c d v a w h => by cases d <;> exact h) (List.Sublist.cons₂ _ (List.Sublist.cons₂ _ (List.Sublist.cons _ (List.Sublist.cons _ (List.Sublist.cons₂ _ (List.Sublist.cons₂ _ (List.Sublist.cons₂ _ List.Sublist.slnil))))))) ?_
      refine rf_indexA (n := 0) (sz := 8) (j := 0) rfl rfl rfl rfl Try.underlying47 (by kernel_rfl) (by decide) rfl ?_
      simp only [Act.put, Act.eval, qn, qv, Nat.reduceAdd]
      refine rg_nil ?_
      refine ek_rt (List.Sublist.cons₂ _ (List.Sublist.cons₂ _ (List.Sublist.cons _ (List.Sublist.cons _ (List.Sublist.cons₂ _ (List.Sublist.cons₂ _ (List.Sublist.cons₂ _ List.Sublist.slnil))))))) ?_
      refine rt_soft (i := 4) rfl (by kernel_rfl) (fun c d v a w h => by cases d <;> exact h) (List.Sublist.cons₂ _ (List.Sublist.cons₂ _ (List.Sublist.cons _ (List.Sublist.cons _ (List.Sublist.cons₂ _ (List.Sublist.cons₂ _ (List.Sublist.cons₂ _ List.Sublist.slnil))))))) ?_
      refine rf_indexA (n := 1) (sz := 4) (j := 4) rfl rfl rfl rfl Try.underlying46 (by kernel_rfl) (by decide) rfl ?_
      simp only [Act.put, Act.eval, qn, qv, Nat.reduceAdd]
      refine rg_nil ?_
      refine ek_rt (List.Sublist.cons₂ _ (List.Sublist.cons₂ _ (List.Sublist.cons _ (List.Sublist.cons _ (List.Sublist.cons₂ _ (List.Sublist.cons₂ _ (List.Sublist.cons₂ _ List.Sublist.slnil))))))) ?_
      refine rt_soft (i := 5) rfl (by kernel_rfl) (fun c d v a w h => by cases d <;> exact h) (List.Sublist.cons₂ _ (List.Sublist.cons₂ _ (List.Sublist.cons _ (List.Sublist.cons _ (List.Sublist.cons₂ _ (List.Sublist.cons₂ _ (List.Sublist.cons₂ _ List.Sublist.slnil))))))) ?_
      refine rf_loadR (n := 4) rfl rfl rfl Try.underlying25 rfl (by kernel_rfl) (fun w hw => Kn.hd0 (Kn.tl (Kn.tl (Kn.tl (Kn.tl hw))))) rfl rfl ?_
      simp only [Act.put, Act.eval, qn, qv, Nat.reduceAdd]
      refine rg_nil ?_
      refine ek_rt (List.Sublist.cons₂ _ (List.Sublist.cons₂ _ (List.Sublist.cons _ (List.Sublist.cons _ (List.Sublist.cons₂ _ (List.Sublist.cons₂ _ (List.Sublist.cons₂ _ List.Sublist.slnil))))))) ?_
      refine rt_soft (i := 6) rfl (by kernel_rfl) (fun c d v a w h => by cases d <;> exact h) (List.Sublist.cons₂ _ (List.Sublist.cons₂ _ (List.Sublist.cons _ (List.Sublist.cons _ (List.Sublist.cons₂ _ (List.Sublist.cons₂ _ (List.Sublist.cons₂ _ List.Sublist.slnil))))))) ?_
      refine rf_field (n := 15) (j := 0) rfl rfl rfl Try.underlying49 rfl (by kernel_rfl) rfl ?_
      simp only [Act.put, Act.eval, qn, qv, Nat.reduceAdd]
      refine rg_nil ?_
      refine ek_rt (List.Sublist.cons₂ _ (List.Sublist.cons₂ _ (List.Sublist.cons _ (List.Sublist.cons _ (List.Sublist.cons₂ _ (List.Sublist.cons₂ _ (List.Sublist.cons₂ _ List.Sublist.slnil))))))) ?_
      refine rt_soft (i := 7) rfl (by kernel_rfl) (fun c d v a w h => by cases d <;> exact h) (List.Sublist.cons₂ _ (List.Sublist.cons₂ _ (List.Sublist.cons _ (List.Sublist.cons _ (List.Sublist.cons₂ _ (List.Sublist.cons₂ _ (List.Sublist.cons₂ _ List.Sublist.slnil))))))) ?_
      refine rf_indexA (n := 0) (sz := 8) (j := 0) rfl rfl rfl rfl Try.underlying47 (by kernel_rfl) (by decide) rfl ?_
      simp only [Act.put, Act.eval, qn, qv, Nat.reduceAdd]
      refine rg_nil ?_
      refine ek_rt (List.Sublist.cons₂ _ (List.Sublist.cons₂ _ (List.Sublist.cons _ (List.Sublist.cons _ (List.Sublist.cons₂ _ (List.Sublist.cons₂ _ (List.Sublist.cons₂ _ List.Sublist.slnil))))))) ?_
      refine rt_soft (i := 8) rfl (by kernel_rfl) (fun c d v a w h => by cases d <;> exact h) (List.Sublist.cons₂ _ (List.Sublist.cons₂ _ (List.Sublist.cons _ (List.Sublist.cons _ (List.Sublist.cons₂ _ (List.Sublist.cons₂ _ (List.Sublist.cons₂ _ List.Sublist.slnil))))))) ?_
      refine rf_indexA (n := 1) (sz := 4) (j := 4) rfl rfl rfl rfl Try.underlying46 (by kernel_rfl) (by decide) rfl ?_
      simp only [Act.put, Act.eval, qn, qv, Nat.reduceAdd]
      refine rg_nil ?_
      refine ek_rt (List.Sublist.cons₂ _ (List.Sublist.cons₂ _ (List.Sublist.cons _ (List.Sublist.cons _ (List.Sublist.cons₂ _ (List.Sublist.cons₂ _ (List.Sublist.cons₂ _ List.Sublist.slnil))))))) ?_
      refine rt_soft (i := 9) rfl (by kernel_rfl) (fun c d v a w h => by cases d <;> exact h) (List.Sublist.cons₂ _ (List.Sublist.cons₂ _ (List.Sublist.cons _ (List.Sublist.cons _ (List.Sublist.cons₂ _ (List.Sublist.cons₂ _ (List.Sublist.cons₂ _ List.Sublist.slnil))))))) ?_
      refine rf_loadR (n := 4) rfl rfl rfl Try.underlying25 rfl (by kernel_rfl) (fun w hw => Kn.hd0 (Kn.tl (Kn.tl (Kn.tl hw)))) rfl rfl ?_
      simp only [Act.put, Act.eval, qn, qv, Nat.reduceAdd]
      refine rg_nil ?_
      refine ek_rt (List.Sublist.cons₂ _ (List.Sublist.cons₂ _ (List.Sublist.cons _ (List.Sublist.cons _ (List.Sublist.cons₂ _ (List.Sublist.cons₂ _ (List.Sublist.cons₂ _ List.Sublist.slnil))))))) ?_
      refine rt_soft (i := 11) rfl (by kernel_rfl) (fun c d v a w h => by cases d <;> exact h) (List.Sublist.cons₂ _ (List.Sublist.cons₂ _ (List.Sublist.cons _ (List.Sublist.cons _ (List.Sublist.cons₂ _ (List.Sublist.cons₂ _ (List.Sublist.cons₂ _ List.Sublist.slnil))))))) ?_
      refine rf_loadR (n := 4) rfl rfl rfl Try.underlying25 rfl (by kernel_rfl) (fun w hw => Kn.hd0 (Kn.tl hw)) rfl rfl ?_
      simp only [Act.put, Act.eval, qn, qv, Nat.reduceAdd]
      refine rg_nil ?_
      refine ek_rt (List.Sublist.cons₂ _ (List.Sublist.cons₂ _ (List.Sublist.cons _ (List.Sublist.cons _ (List.Sublist.cons₂ _ (List.Sublist.cons₂ _ (List.Sublist.cons₂ _ List.Sublist.slnil))))))) ?_
      refine rt_soft (i := 13) rfl (by kernel_rfl) (fun c d v a w h => by cases d <;> exact h) (List.Sublist.cons₂ _ (List.Sublist.cons₂ _ (List.Sublist.cons _ (List.Sublist.cons _ (List.Sublist.cons₂ _ (List.Sublist.cons₂ _ (List.Sublist.cons₂ _ List.Sublist.slnil))))))) ?_
      refine rf_field (n := 15) (j := 0) rfl rfl rfl Try.underlying49 rfl (by kernel_rfl) rfl ?_
      simp only [Act.put, Act.eval, qn, qv, Nat.reduceAdd]
      refine rg_nil ?_
      refine ek_rt (List.Sublist.cons₂ _ (List.Sublist.cons₂ _ (List.Sublist.cons _ (List.Sublist.cons _ (List.Sublist.cons₂ _ (List.Sublist.cons₂ _ (List.Sublist.cons₂ _ List.Sublist.slnil))))))) ?_
      refine rt_soft (i := 14) rfl (by kernel_rfl) (fun c d v a w h => by cases d <;> exact h) (List.Sublist.cons₂ _ (List.Sublist.cons₂ _ (List.Sublist.cons _ (List.Sublist.cons _ (List.Sublist.cons₂ _ (List.Sublist.cons₂ _ (List.Sublist.cons₂ _ List.Sublist.slnil))))))) ?_
      refine rf_indexA (n := 0) (sz := 8) (j := 0) rfl rfl rfl rfl Try.underlying47 (by kernel_rfl) (by decide) rfl ?_
      simp only [Act.put, Act.eval, qn, qv, Nat.reduceAdd]
      refine rg_nil ?_
      refine ek_rt (List.Sublist.cons₂ _ (List.Sublist.cons₂ _ (List.Sublist.cons _ (List.Sublist.cons _ (List.Sublist.cons₂ _ (List.Sublist.cons₂ _ (List.Sublist.cons₂ _ List.Sublist.slnil))))))) ?_
      refine rt_hard1 (i := 10) (by kernel_rfl) rfl ?_
      refine rg_stk (by rfl) (by kernel_rfl) (by simp only [qm, qs, Act.eval] <;> exact rfl) (fun w hw => rmul_any p.s01 q.s01 kp01.out kq01.out eo00 g4 w (Kn.hd0 (Kn.tl (Kn.tl (Kn.tl hw))))) (fun e1 => (Rep.there _ (Rep.there _ (Rep.there _ (Rep.here _))))) (fun e1 => fun _ h => by cases h; exact (List.Sublist.cons₂ _ (List.Sublist.cons₂ _ (List.Sublist.cons _ (List.Sublist.cons _ (List.Sublist.cons₂ _ (List.Sublist.cons₂ _ (List.Sublist.cons₂ _ List.Sublist.slnil)))))))) (fun vc ec kc hvc => ?_)
      simp only [Act.put, Act.eval, qn, qv, Nat.reduceAdd]
      replace kc := Lib.hid kc
      replace hvc := Lib.hid hvc
      refine rg_nil ?_
      refine ek_rt (List.Sublist.cons₂ _ (List.Sublist.cons₂ _ (List.Sublist.cons _ (List.Sublist.cons _ (List.Sublist.cons₂ _ (List.Sublist.cons₂ _ (List.Sublist.cons₂ _ List.Sublist.slnil))))))) ?_
      refine rt_hard1 (i := 12) (by kernel_rfl) rfl ?_
      refine rg_stk (by rfl) (by kernel_rfl) (by simp only [qm, qs, Act.eval] <;> exact rfl) (fun w hw => rdiv_any vc vd kc.out kd.out ec g4 w (Kn.hd0 (Kn.tl (Kn.tl (Kn.tl hw))))) (fun e1 => (Rep.there _ (Rep.there _ (Rep.there _ (Rep.here _))))) (fun e1 => fun _ h => by cases h; exact (List.Sublist.cons₂ _ (List.Sublist.cons₂ _ (List.Sublist.cons _ (List.Sublist.cons _ (List.Sublist.cons₂ _ (List.Sublist.cons₂ _ (List.Sublist.cons₂ _ List.Sublist.slnil)))))))) (fun vo01 eo01 ko01 hvo01 => ?_)
      simp only [Act.put, Act.eval, qn, qv, Nat.reduceAdd]
      replace ko01 := Lib.hid ko01
      replace hvo01 := Lib.hid hvo01
      refine rg_nil ?_
      refine ek_rt (List.Sublist.cons₂ _ (List.Sublist.cons₂ _ (List.Sublist.cons _ (List.Sublist.cons _ (List.Sublist.cons₂ _ (List.Sublist.cons₂ _ (List.Sublist.cons₂ _ List.Sublist.slnil))))))) ?_
      refine rt_soft (i := 15) rfl (by kernel_rfl) (fun c d v a w h => by cases d <;> exact h) (List.Sublist.cons₂ _ (List.Sublist.cons₂ _ (List.Sublist.cons _ (List.Sublist.cons _ (List.Sublist.cons₂ _ (List.Sublist.cons₂ _ (List.Sublist.cons₂ _ List.Sublist.slnil))))))) ?_
      refine rf_indexA (n := 1) (sz := 4) (j := 4) rfl rfl rfl rfl Try.underlying46 (by kernel_rfl) (by decide) rfl ?_
      simp only [Act.put, Act.eval, qn, qv, Nat.reduceAdd]
      refine rg_nil ?_
      refine ek_rt (List.Sublist.cons₂ _ (List.Sublist.cons₂ _ (List.Sublist.cons _ (List.Sublist.cons _ (List.Sublist.cons₂ _ (List.Sublist.cons₂ _ (List.Sublist.cons₂ _ List.Sublist.slnil))))))) ?_
      refine rt_hard1 (i := 16) (by kernel_rfl) rfl ?_
      refine rf_storeR (n := 4) rfl rfl (by kernel_rfl) rfl rfl (UpdR.there _ (UpdR.there _ (UpdR.here _ _ _ (Nat.le_of_ble_eq_true rfl)))) (fun _ h => by cases h; exact (List.Sublist.cons₂ _ (List.Sublist.cons₂ _ (List.Sublist.cons _ (List.Sublist.cons _ (List.Sublist.cons₂ _ (List.Sublist.cons₂ _ (List.Sublist.cons₂ _ List.Sublist.slnil)))))))) ?_
      simp only [Act.put, Act.eval, qn, qv, Nat.reduceAdd]
      refine rg_nil ?_
      refine ek_rt (List.Sublist.cons₂ _ (List.Sublist.cons₂ _ (List.Sublist.cons _ (List.Sublist.cons _ (List.Sublist.cons₂ _ (List.Sublist.cons₂ _ (List.Sublist.cons₂ _ List.Sublist.slnil))))))) ?_
      refine rt_nil (by kernel_rfl) ?_
      refine ek_next ?_
      refine wk_seq ?_
      refine wk_rt _ (by kernel_rfl) (List.Sublist.cons₂ _ (List.Sublist.cons₂ _ (List.Sublist.cons _ (List.Sublist.cons _ (List.Sublist.cons₂ _ (List.Sublist.cons₂ _ (List.Sublist.cons₂ _ List.Sublist.slnil))))))) ?_
      refine rt_soft (i := 0) rfl (by kernel_rfl) (fun c d v a w h => by cases d <;> exact h) (List.Sublist.cons₂ _ (List.Sublist.cons₂ _ (List.Sublist.cons _ (List.Sublist.cons _ (List.Sublist.cons₂ _ (List.Sublist.cons₂ _ (List.Sublist.cons₂ _ List.Sublist.slnil))))))) ?_
      refine rg_move ?_
      simp only [Act.put, Act.eval, qn, qv, Nat.reduceAdd]
      refine rg_nil ?_
      refine ek_rt (List.Sublist.cons₂ _ (List.Sublist.cons₂ _ (List.Sublist.cons _ (List.Sublist.cons _ (List.Sublist.cons₂ _ (List.Sublist.cons₂ _ (List.Sublist.cons₂ _ List.Sublist.slnil))))))) ?_
      refine rt_soft (i := 1) rfl (by kernel_rfl) (fun c d v a w h => by cases d <;> exact h) (List.Sublist.cons₂ _ (List.Sublist.cons₂ _ (List.Sublist.cons _ (List.Sublist.cons _ (List.Sublist.cons₂ _ (List.Sublist.cons₂ _ (List.Sublist.cons₂ _ List.Sublist.slnil))))))) ?_
      refine rg_move ?_
      simp only [Act.put, Act.eval, qn, qv, Nat.reduceAdd]
      refine rg_nil ?_
      refine ek_rt (List.Sublist.cons₂ _ (List.Sublist.cons₂ _ (List.Sublist.cons _ (List.Sublist.cons _ (List.Sublist.cons₂ _ (List.Sublist.cons₂ _ (List.Sublist.cons₂ _ List.Sublist.slnil))))))) ?_
      refine rt_soft (i := 2) rfl (by kernel_rfl) (fun c d v a w h => by cases d <;> exact h) (List.Sublist.cons₂ _ (List.Sublist.cons₂ _ (List.Sublist.cons _ (List.Sublist.cons _ (List.Sublist.cons₂ _ (List.Sublist.cons₂ _ (List.Sublist.cons₂ _ List.Sublist.slnil))))))) ?_
      refine rf_field (n := 15) (j := 0) rfl rfl rfl Try.underlying49 rfl (by kernel_rfl) rfl ?_
      simp only [Act.put, Act.eval, qn, qv, Nat.reduceAdd]
      refine rg_nil ?_
      refine ek_rt (List.Sublist.cons₂ _ (List.Sublist.cons₂ _ (List.Sublist.cons _ (List.Sublist.cons _ (List.Sublist.cons₂ _ (List.Sublist.cons₂ _ (List.Sublist.cons₂ _ List.Sublist.slnil))))))) ?_
      refine rt_soft (i := 3) rfl (by kernel_rfl) (fun c d v a w h => by cases d <;> exact h) (List.Sublist.cons₂ _ (List.Sublist.cons₂ _ (List.Sublist.cons _ (List.Sublist.cons _ (List.Sublist.cons₂ _ (List.Sublist.cons₂ _ (List.Sublist.cons₂ _ List.Sublist.slnil))))))) ?_
      refine rf_indexA (n := 1) (sz := 8) (j := 8) rfl rfl rfl rfl Try.underlying47 (by kernel_rfl) (by decide) rfl ?_
      simp only [Act.put, Act.eval, qn, qv, Nat.reduceAdd]
      refine rg_nil ?_
      refine ek_rt (List.Sublist.cons₂ _ (List.Sublist.cons₂ _ (List.Sublist.cons _ (List.Sublist.cons _ (List.Sublist.cons₂ _ (List.Sublist.cons₂ _ (List.Sublist.cons₂ _ List.Sublist.slnil))))))) ?_
      refine rt_soft (i := 4) rfl (by kernel_rfl) (fun c d v a w h => by cases d <;> exact h) (List.Sublist.cons₂ _ (List.Sublist.cons₂ _ (List.Sublist.cons _ (List.Sublist.cons _ (List.Sublist.cons₂ _ (List.Sublist.cons₂ _ (List.Sublist.cons₂ _ List.Sublist.slnil))))))) ?_
      refine rf_indexA (n := 0) (sz := 4) (j := 8) rfl rfl rfl rfl Try.underlying46 (by kernel_rfl) (by decide) rfl ?_
      simp only [Act.put, Act.eval, qn, qv, Nat.reduceAdd]
      refine rg_nil ?_
      refine ek_rt (List.Sublist.cons₂ _ (List.Sublist.cons₂ _ (List.Sublist.cons _ (List.Sublist.cons _ (List.Sublist.cons₂ _ (List.Sublist.cons₂ _ (List.Sublist.cons₂ _ List.Sublist.slnil))))))) ?_
      refine rt_soft (i := 5) rfl (by kernel_rfl) (fun c d v a w h => by cases d <;> exact h) (List.Sublist.cons₂ _ (List.Sublist.cons₂ _ (List.Sublist.cons _ (List.Sublist.cons _ (List.Sublist.cons₂ _ (List.Sublist.cons₂ _ (List.Sublist.cons₂ _ List.Sublist.slnil))))))) ?_
      refine rf_loadR (n := 4) rfl rfl rfl Try.underlying25 rfl (by kernel_rfl) (fun w hw => Kn.hd0 (Kn.tl (Kn.tl (Kn.tl hw)))) rfl rfl ?_
      simp only [Act.put, Act.eval, qn, qv, Nat.reduceAdd]
      refine rg_nil ?_
      refine ek_rt (List.Sublist.cons₂ _ (List.Sublist.cons₂ _ (List.Sublist.cons _ (List.Sublist.cons _ (List.Sublist.cons₂ _ (List.Sublist.cons₂ _ (List.Sublist.cons₂ _ List.Sublist.slnil))))))) ?_
      refine rt_soft (i := 6) rfl (by kernel_rfl) (fun c d v a w h => by cases d <;> exact h) (List.Sublist.cons₂ _ (List.Sublist.cons₂ _ (List.Sublist.cons _ (List.Sublist.cons _ (List.Sublist.cons₂ _ (List.Sublist.cons₂ _ (List.Sublist.cons₂ _ List.Sublist.slnil))))))) ?_
      refine rf_field (n := 15) (j := 0) rfl rfl rfl Try.underlying49 rfl (by kernel_rfl) rfl ?_
      simp only [Act.put, Act.eval, qn, qv, Nat.reduceAdd]
      refine rg_nil ?_
      refine ek_rt (List.Sublist.cons₂ _ (List.Sublist.cons₂ _ (List.Sublist.cons _ (List.Sublist.cons _ (List.Sublist.cons₂ _ (List.Sublist.cons₂ _ (List.Sublist.cons₂ _ List.Sublist.slnil))))))) ?_
      refine rt_soft (i := 7) rfl (by kernel_rfl) (fun c d v a w h => by cases d <;> exact h) (List.Sublist.cons₂ _ (List.Sublist.cons₂ _ (List.Sublist.cons _ (List.Sublist.cons _ (List.Sublist.cons₂ _ (List.Sublist.cons₂ _ (List.Sublist.cons₂ _ List.Sublist.slnil))))))) ?_
      refine rf_indexA (n := 1) (sz := 8) (j := 8) rfl rfl rfl rfl Try.underlying47 (by kernel_rfl) (by decide) rfl ?_
      simp only [Act.put, Act.eval, qn, qv, Nat.reduceAdd]
      refine rg_nil ?_
      refine ek_rt (List.Sublist.cons₂ _ (List.Sublist.cons₂ _ (List.Sublist.cons _ (List.Sublist.cons _ (List.Sublist.cons₂ _ (List.Sublist.cons₂ _ (List.Sublist.cons₂ _ List.Sublist.slnil))))))) ?_
      refine rt_soft (i := 8) rfl (by kernel_rfl) (fun c d v a w h => by cases d <;> exact h) (List.Sublist.cons₂ _ (List.Sublist.cons₂ _ (List.Sublist.cons _ (List.Sublist.cons _ (List.Sublist.cons₂ _ (List.Sublist.cons₂ _ (List.Sublist.cons₂ _ List.Sublist.slnil))))))) ?_
      refine rf_indexA (n := 0) (sz := 4) (j := 8) rfl rfl rfl rfl Try.underlying46 (by kernel_rfl) (by decide) rfl ?_
      simp only [Act.put, Act.eval, qn, qv, Nat.reduceAdd]
      refine rg_nil ?_
      refine ek_rt (List.Sublist.cons₂ _ (List.Sublist.cons₂ _ (List.Sublist.cons _ (List.Sublist.cons _ (List.Sublist.cons₂ _ (List.Sublist.cons₂ _ (List.Sublist.cons₂ _ List.Sublist.slnil))))))) ?_
      refine rt_soft (i := 9) rfl (by kernel_rfl) (fun c d v a w h => by cases d <;> exact h) (List.Sublist.cons₂ _ (List.Sublist.cons₂ _ (List.Sublist.cons _ (List.Sublist.cons _ (List.Sublist.cons₂ _ (List.Sublist.cons₂ _ (List.Sublist.cons₂ _ List.Sublist.slnil))))))) ?_
      refine rf_loadR (n := 4) rfl rfl rfl Try.underlying25 rfl (by kernel_rfl) (fun w hw => Kn.hd0 (Kn.tl (Kn.tl (Kn.tl (Kn.tl hw))))) rfl rfl ?_
      simp only [Act.put, Act.eval, qn, qv, Nat.reduceAdd]
      refine rg_nil ?_
      refine ek_rt (List.Sublist.cons₂ _ (List.Sublist.cons₂ _ (List.Sublist.cons _ (List.Sublist.cons _ (List.Sublist.cons₂ _ (List.Sublist.cons₂ _ (List.Sublist.cons₂ _ List.Sublist.slnil))))))) ?_
      refine rt_soft (i := 11) rfl (by kernel_rfl) (fun c d v a w h => by cases d <;> exact h) (List.Sublist.cons₂ _ (List.Sublist.cons₂ _ (List.Sublist.cons _ (List.Sublist.cons _ (List.Sublist.cons₂ _ (List.Sublist.cons₂ _ (List.Sublist.cons₂ _ List.Sublist.slnil))))))) ?_
      refine rf_loadR (n := 4) rfl rfl rfl Try.underlying25 rfl (by kernel_rfl) (fun w hw => Kn.hd0 (Kn.tl hw)) rfl rfl ?_
      simp only [Act.put, Act.eval, qn, qv, Nat.reduceAdd]
      refine rg_nil ?_
      refine ek_rt (List.Sublist.cons₂ _ (List.Sublist.cons₂ _ (List.Sublist.cons _ (List.Sublist.cons _ (List.Sublist.cons₂ _ (List.Sublist.cons₂ _ (List.Sublist.cons₂ _ List.Sublist.slnil))))))) ?_
      refine rt_soft (i := 13) rfl (by kernel_rfl) (fun c d v a w h => by cases d <;> exact h) (List.Sublist.cons₂ _ (List.Sublist.cons₂ _ (List.Sublist.cons _ (List.Sublist.cons _ (List.Sublist.cons₂ _ (List.Sublist.cons₂ _ (List.Sublist.cons₂ _ List.Sublist.slnil))))))) ?_
      refine rf_field (n := 15) (j := 0) rfl rfl rfl Try.underlying49 rfl (by kernel_rfl) rfl ?_
      simp only [Act.put, Act.eval, qn, qv, Nat.reduceAdd]
      refine rg_nil ?_
      refine ek_rt (List.Sublist.cons₂ _ (List.Sublist.cons₂ _ (List.Sublist.cons _ (List.Sublist.cons _ (List.Sublist.cons₂ _ (List.Sublist.cons₂ _ (List.Sublist.cons₂ _ List.Sublist.slnil))))))) ?_
      refine rt_soft (i := 14) rfl (by kernel_rfl) (fun c d v a w h => by cases d <;> exact h) (List.Sublist.cons₂ _ (List.Sublist.cons₂ _ (List.Sublist.cons _ (List.Sublist.cons _ (List.Sublist.cons₂ _ (List.Sublist.cons₂ _ (List.Sublist.cons₂ _ List.Sublist.slnil))))))) ?_
      refine rf_indexA (n := 1) (sz := 8) (j := 8) rfl rfl rfl rfl Try.underlying47 (by kernel_rfl) (by decide) rfl ?_
      simp only [Act.put, Act.eval, qn, qv, Nat.reduceAdd]
      refine rg_nil ?_
      refine ek_rt (List.Sublist.cons₂ _ (List.Sublist.cons₂ _ (List.Sublist.cons _ (List.Sublist.cons _ (List.Sublist.cons₂ _ (List.Sublist.cons₂ _ (List.Sublist.cons₂ _ List.Sublist.slnil))))))) ?_
      refine rt_hard1 (i := 10) (by kernel_rfl) rfl ?_
      refine rg_stk (by rfl) (by kernel_rfl) (by simp only [qm, qs, Act.eval] <;> exact rfl) (fun w hw => rmul_any q.s10 p.s10 kq10.out kp10.out eo01 g4 w (Kn.hd0 (Kn.tl (Kn.tl (Kn.tl hw))))) (fun e1 => (Rep.there _ (Rep.there _ (Rep.there _ (Rep.here _))))) (fun e1 => fun _ h => by cases h; exact (List.Sublist.cons₂ _ (List.Sublist.cons₂ _ (List.Sublist.cons _ (List.Sublist.cons _ (List.Sublist.cons₂ _ (List.Sublist.cons₂ _ (List.Sublist.cons₂ _ List.Sublist.slnil)))))))) (fun vf ef kf hvf => ?_)
      simp only [Act.put, Act.eval, qn, qv, Nat.reduceAdd]
      replace kf := Lib.hid kf
      replace hvf := Lib.hid hvf
      refine rg_nil ?_
      refine ek_rt (List.Sublist.cons₂ _ (List.Sublist.cons₂ _ (List.Sublist.cons _ (List.Sublist.cons _ (List.Sublist.cons₂ _ (List.Sublist.cons₂ _ (List.Sublist.cons₂ _ List.Sublist.slnil))))))) ?_
      refine rt_hard1 (i := 12) (by kernel_rfl) rfl ?_
      refine rg_stk (by rfl) (by kernel_rfl) (by simp only [qm, qs, Act.eval] <;> exact rfl) (fun w hw => rdiv_any vf vd kf.out kd.out ef g4 w (Kn.hd0 (Kn.tl (Kn.tl (Kn.tl hw))))) (fun e1 => (Rep.there _ (Rep.there _ (Rep.there _ (Rep.here _))))) (fun e1 => fun _ h => by cases h; exact (List.Sublist.cons₂ _ (List.Sublist.cons₂ _ (List.Sublist.cons _ (List.Sublist.cons _ (List.Sublist.cons₂ _ (List.Sublist.cons₂ _ (List.Sublist.cons₂ _ List.Sublist.slnil)))))))) (fun vo10 eo10 ko10 hvo10 => ?_)
      simp only [Act.put, Act.eval, qn, qv, Nat.reduceAdd]
      replace ko10 := Lib.hid ko10
      replace hvo10 := Lib.hid hvo10
      refine rg_nil ?_
      refine ek_rt (List.Sublist.cons₂ _ (List.Sublist.cons₂ _ (List.Sublist.cons _ (List.Sublist.cons _ (List.Sublist.cons₂ _ (List.Sublist.cons₂ _ (List.Sublist.cons₂ _ List.Sublist.slnil))))))) ?_
      refine rt_soft (i := 15) rfl (by kernel_rfl) (fun c d v a w h => by cases d <;> exact h) (List.Sublist.cons₂ _ (List.Sublist.cons₂ _ (List.Sublist.cons _ (List.Sublist.cons _ (List.Sublist.cons₂ _ (List.Sublist.cons₂ _ (List.Sublist.cons₂ _ List.Sublist.slnil))))))) ?_
      refine rf_indexA (n := 0) (sz := 4) (j := 8) rfl rfl rfl rfl Try.underlying46 (by kernel_rfl) (by decide) rfl ?_
      simp only [Act.put, Act.eval, qn, qv, Nat.reduceAdd]
      refine rg_nil ?_
      refine ek_rt (List.Sublist.cons₂ _ (List.Sublist.cons₂ _ (List.Sublist.cons _ (List.Sublist.cons _ (List.Sublist.cons₂ _ (List.Sublist.cons₂ _ (List.Sublist.cons₂ _ List.Sublist.slnil))))))) ?_
      refine rt_hard1 (i := 16) (by kernel_rfl) rfl ?_
      refine rf_storeR (n := 4) rfl rfl (by kernel_rfl) rfl rfl (UpdR.there _ (UpdR.there _ (UpdR.here _ _ _ (Nat.le_of_ble_eq_true rfl)))) (fun _ h => by cases h; exact (List.Sublist.cons₂ _ (List.Sublist.cons₂ _ (List.Sublist.cons _ (List.Sublist.cons _ (List.Sublist.cons₂ _ (List.Sublist.cons₂ _ (List.Sublist.cons₂ _ List.Sublist.slnil)))))))) ?_
      simp only [Act.put, Act.eval, qn, qv, Nat.reduceAdd]
      refine rg_nil ?_
      refine ek_rt (List.Sublist.cons₂ _ (List.Sublist.cons₂ _ (List.Sublist.cons _ (List.Sublist.cons _ (List.Sublist.cons₂ _ (List.Sublist.cons₂ _ (List.Sublist.cons₂ _ List.Sublist.slnil))))))) ?_
      refine rt_nil (by kernel_rfl) ?_
      refine ek_next ?_
      refine wk_seq ?_
      refine wk_rt _ (by kernel_rfl) (List.Sublist.cons _ (List.Sublist.cons₂ _ (List.Sublist.cons₂ _ (List.Sublist.cons _ (List.Sublist.cons₂ _ (List.Sublist.cons₂ _ (List.Sublist.cons₂ _ List.Sublist.slnil))))))) ?_
      refine rt_soft (i := 0) rfl (by kernel_rfl) (fun c d v a w h => by cases d <;> exact h) (List.Sublist.cons _ (List.Sublist.cons₂ _ (List.Sublist.cons₂ _ (List.Sublist.cons _ (List.Sublist.cons₂ _ (List.Sublist.cons₂ _ (List.Sublist.cons₂ _ List.Sublist.slnil))))))) ?_
      refine rg_move ?_
      simp only [Act.put, Act.eval, qn, qv, Nat.reduceAdd]
      refine rg_nil ?_
      refine ek_rt (List.Sublist.cons _ (List.Sublist.cons₂ _ (List.Sublist.cons₂ _ (List.Sublist.cons _ (List.Sublist.cons₂ _ (List.Sublist.cons₂ _ (List.Sublist.cons₂ _ List.Sublist.slnil))))))) ?_
      refine rt_soft (i := 1) rfl (by kernel_rfl) (fun c d v a w h => by cases d <;> exact h) (List.Sublist.cons _ (List.Sublist.cons₂ _ (List.Sublist.cons₂ _ (List.Sublist.cons _ (List.Sublist.cons₂ _ (List.Sublist.cons₂ _ (List.Sublist.cons₂ _ List.Sublist.slnil))))))) ?_
      refine rg_move ?_
      simp only [Act.put, Act.eval, qn, qv, Nat.reduceAdd]
      refine rg_nil ?_
      refine ek_rt (List.Sublist.cons _ (List.Sublist.cons₂ _ (List.Sublist.cons₂ _ (List.Sublist.cons _ (List.Sublist.cons₂ _ (List.Sublist.cons₂ _ (List.Sublist.cons₂ _ List.Sublist.slnil))))))) ?_
      refine rt_soft (i := 2) rfl (by kernel_rfl) (fun c d v a w h => by cases d <;> exact h) (List.Sublist.cons _ (List.Sublist.cons₂ _ (List.Sublist.cons₂ _ (List.Sublist.cons _ (List.Sublist.cons₂ _ (List.Sublist.cons₂ _ (List.Sublist.cons₂ _ List.Sublist.slnil))))))) ?_
      refine rg_move ?_
      simp only [Act.put, Act.eval, qn, qv, Nat.reduceAdd]
      refine rg_nil ?_
      refine ek_rt (List.Sublist.cons _ (List.Sublist.cons₂ _ (List.Sublist.cons₂ _ (List.Sublist.cons _ (List.Sublist.cons₂ _ (List.Sublist.cons₂ _ (List.Sublist.cons₂ _ List.Sublist.slnil))))))) ?_
      refine rt_soft (i := 3) rfl (by kernel_rfl) (fun c d v a w h => by cases d <;> exact h) (List.Sublist.cons _ (List.Sublist.cons₂ _ (List.Sublist.cons₂ _ (List.Sublist.cons _ (List.Sublist.cons₂ _ (List.Sublist.cons₂ _ (List.Sublist.cons₂ _ List.Sublist.slnil))))))) ?_
      refine rf_field (n := 15) (j := 0) rfl rfl rfl Try.underlying49 rfl (by kernel_rfl) rfl ?_
      simp only [Act.put, Act.eval, qn, qv, Nat.reduceAdd]
      refine rg_nil ?_
      refine ek_rt (List.Sublist.cons _ (List.Sublist.cons₂ _ (List.Sublist.cons₂ _ (List.Sublist.cons _ (List.Sublist.cons₂ _ (List.Sublist.cons₂ _ (List.Sublist.cons₂ _ List.Sublist.slnil))))))) ?_
      refine rt_soft (i := 4) rfl (by kernel_rfl) (fun c d v a w h => by cases d <;> exact h) (List.Sublist.cons _ (List.Sublist.cons₂ _ (List.Sublist.cons₂ _ (List.Sublist.cons _ (List.Sublist.cons₂ _ (List.Sublist.cons₂ _ (List.Sublist.cons₂ _ List.Sublist.slnil))))))) ?_
      refine rf_indexA (n := 1) (sz := 8) (j := 8) rfl rfl rfl rfl Try.underlying47 (by kernel_rfl) (by decide) rfl ?_
      simp only [Act.put, Act.eval, qn, qv, Nat.reduceAdd]
      refine rg_nil ?_
      refine ek_rt (List.Sublist.cons _ (List.Sublist.cons₂ _ (List.Sublist.cons₂ _ (List.Sublist.cons _ (List.Sublist.cons₂ _ (List.Sublist.cons₂ _ (List.Sublist.cons₂ _ List.Sublist.slnil))))))) ?_
      refine rt_soft (i := 5) rfl (by kernel_rfl) (fun c d v a w h => by cases d <;> exact h) (List.Sublist.cons _ (List.Sublist.cons₂ _ (List.Sublist.cons₂ _ (List.Sublist.cons _ (List.Sublist.cons₂ _ (List.Sublist.cons₂ _ (List.Sublist.cons₂ _ List.Sublist.slnil))))))) ?_
      refine rf_indexA (n := 0) (sz := 4) (j := 8) rfl rfl rfl rfl Try.underlying46 (by kernel_rfl) (by decide) rfl ?_
      simp only [Act.put, Act.eval, qn, qv, Nat.reduceAdd]
      refine rg_nil ?_
      refine ek_rt (List.Sublist.cons _ (List.Sublist.cons₂ _ (List.Sublist.cons₂ _ (List.Sublist.cons _ (List.Sublist.cons₂ _ (List.Sublist.cons₂ _ (List.Sublist.cons₂ _ List.Sublist.slnil))))))) ?_
      refine rt_soft (i := 6) rfl (by kernel_rfl) (fun c d v a w h => by cases d <;> exact h) (List.Sublist.cons _ (List.Sublist.cons₂ _ (List.Sublist.cons₂ _ (List.Sublist.cons _ (List.Sublist.cons₂ _ (List.Sublist.cons₂ _ (List.Sublist.cons₂ _ List.Sublist.slnil))))))) ?_
      refine rf_loadR (n := 4) rfl rfl rfl Try.underlying25 rfl (by kernel_rfl) (fun w hw => Kn.hd0 (Kn.tl (Kn.tl (Kn.tl hw)))) rfl rfl ?_
      simp only [Act.put, Act.eval, qn, qv, Nat.reduceAdd]
      refine rg_nil ?_
      refine ek_rt (List.Sublist.cons _ (List.Sublist.cons₂ _ (List.Sublist.cons₂ _ (List.Sublist.cons _ (List.Sublist.cons₂ _ (List.Sublist.cons₂ _ (List.Sublist.cons₂ _ List.Sublist.slnil))))))) ?_
      refine rt_soft (i := 7) rfl (by kernel_rfl) (fun c d v a w h => by cases d <;> exact h) (List.Sublist.cons _ (List.Sublist.cons₂ _ (List.Sublist.cons₂ _ (List.Sublist.cons _ (List.Sublist.cons₂ _ (List.Sublist.cons₂ _ (List.Sublist.cons₂ _ List.Sublist.slnil))))))) ?_
      refine rf_field (n := 15) (j := 0) rfl rfl rfl Try.underlying49 rfl (by kernel_rfl) rfl ?_
      simp only [Act.put, Act.eval, qn, qv, Nat.reduceAdd]
      refine rg_nil ?_
      refine ek_rt (List.Sublist.cons _ (List.Sublist.cons₂ _ (List.Sublist.cons₂ _ (List.Sublist.cons _ (List.Sublist.cons₂ _ (List.Sublist.cons₂ _ (List.Sublist.cons₂ _ List.Sublist.slnil))))))) ?_
      refine rt_soft (i := 8) rfl (by kernel_rfl) (fun c d v a w h => by cases d <;> exact h) (List.Sublist.cons _ (List.Sublist.cons₂ _ (List.Sublist.cons₂ _ (List.Sublist.cons _ (List.Sublist.cons₂ _ (List.Sublist.cons₂ _ (List.Sublist.cons₂ _ List.Sublist.slnil))))))) ?_
      refine rf_indexA (n := 1) (sz := 8) (j := 8) rfl rfl rfl rfl Try.underlying47 (by kernel_rfl) (by decide) rfl ?_
      simp only [Act.put, Act.eval, qn, qv, Nat.reduceAdd]
      refine rg_nil ?_
      refine ek_rt (List.Sublist.cons _ (List.Sublist.cons₂ _ (List.Sublist.cons₂ _ (List.Sublist.cons _ (List.Sublist.cons₂ _ (List.Sublist.cons₂ _ (List.Sublist.cons₂ _ List.Sublist.slnil))))))) ?_
      refine rt_soft (i := 9) rfl (by kernel_rfl) (fun c d v a w h => by cases d <;> exact h) (List.Sublist.cons _ (List.Sublist.cons₂ _ (List.Sublist.cons₂ _ (List.Sublist.cons _ (List.Sublist.cons₂ _ (List.Sublist.cons₂ _ (List.Sublist.cons₂ _ List.Sublist.slnil))))))) ?_
      refine rf_indexA (n := 1) (sz := 4) (j := 12) rfl rfl rfl rfl Try.underlying46 (by kernel_rfl) (by decide) rfl ?_
      simp only [Act.put, Act.eval, qn, qv, Nat.reduceAdd]
      refine rg_nil ?_
      refine ek_rt (List.Sublist.cons _ (List.Sublist.cons₂ _ (List.Sublist.cons₂ _ (List.Sublist.cons _ (List.Sublist.cons₂ _ (List.Sublist.cons₂ _ (List.Sublist.cons₂ _ List.Sublist.slnil))))))) ?_
      refine rt_soft (i := 10) rfl (by kernel_rfl) (fun c d v a w h => by cases d <;> exact h) (List.Sublist.cons _ (List.Sublist.cons₂ _ (List.Sublist.cons₂ _ (List.Sublist.cons _ (List.Sublist.cons₂ _ (List.Sublist.cons₂ _ (List.Sublist.cons₂ _ List.Sublist.slnil))))))) ?_
      refine rf_loadR (n := 4) rfl rfl rfl Try.underlying25 rfl (by kernel_rfl) (fun w hw => Kn.hd0 (Kn.tl (Kn.tl (Kn.tl (Kn.tl hw))))) rfl rfl ?_
      simp only [Act.put, Act.eval, qn, qv, Nat.reduceAdd]
      refine rg_nil ?_
      refine ek_rt (List.Sublist.cons _ (List.Sublist.cons₂ _ (List.Sublist.cons₂ _ (List.Sublist.cons _ (List.Sublist.cons₂ _ (List.Sublist.cons₂ _ (List.Sublist.cons₂ _ List.Sublist.slnil))))))) ?_
      refine rt_soft (i := 12) rfl (by kernel_rfl) (fun c d v a w h => by cases d <;> exact h) (List.Sublist.cons _ (List.Sublist.cons₂ _ (List.Sublist.cons₂ _ (List.Sublist.cons _ (List.Sublist.cons₂ _ (List.Sublist.cons₂ _ (List.Sublist.cons₂ _ List.Sublist.slnil))))))) ?_
      refine rf_field (n := 15) (j := 0) rfl rfl rfl Try.underlying49 rfl (by kernel_rfl) rfl ?_
      simp only [Act.put, Act.eval, qn, qv, Nat.reduceAdd]
      refine rg_nil ?_
      refine ek_rt (List.Sublist.cons _ (List.Sublist.cons₂ _ (List.Sublist.cons₂ _ (List.Sublist.cons _ (List.Sublist.cons₂ _ (List.Sublist.cons₂ _ (List.Sublist.cons₂ _ List.Sublist.slnil))))))) ?_
      refine rt_soft (i := 13) rfl (by kernel_rfl) (fun c d v a w h => by cases d <;> exact h) (List.Sublist.cons _ (List.Sublist.cons₂ _ (List.Sublist.cons₂ _ (List.Sublist.cons _ (List.Sublist.cons₂ _ (List.Sublist.cons₂ _ (List.Sublist.cons₂ _ List.Sublist.slnil))))))) ?_
      refine rf_indexA (n := 0) (sz := 8) (j := 0) rfl rfl rfl rfl Try.underlying47 (by kernel_rfl) (by decide) rfl ?_
      simp only [Act.put, Act.eval, qn, qv, Nat.reduceAdd]
      refine rg_nil ?_
      refine ek_rt (List.Sublist.cons _ (List.Sublist.cons₂ _ (List.Sublist.cons₂ _ (List.Sublist.cons _ (List.Sublist.cons₂ _ (List.Sublist.cons₂ _ (List.Sublist.cons₂ _ List.Sublist.slnil))))))) ?_
      refine rt_soft (i := 14) rfl (by kernel_rfl) (fun c d v a w h => by cases d <;> exact h) (List.Sublist.cons _ (List.Sublist.cons₂ _ (List.Sublist.cons₂ _ (List.Sublist.cons _ (List.Sublist.cons₂ _ (List.Sublist.cons₂ _ (List.Sublist.cons₂ _ List.Sublist.slnil))))))) ?_
      refine rf_indexA (n := 1) (sz := 4) (j := 4) rfl rfl rfl rfl Try.underlying46 (by kernel_rfl) (by decide) rfl ?_
      simp only [Act.put, Act.eval, qn, qv, Nat.reduceAdd]
      refine rg_nil ?_
      refine ek_rt (List.Sublist.cons _ (List.Sublist.cons₂ _ (List.Sublist.cons₂ _ (List.Sublist.cons _ (List.Sublist.cons₂ _ (List.Sublist.cons₂ _ (List.Sublist.cons₂ _ List.Sublist.slnil))))))) ?_
      refine rt_soft (i := 15) rfl (by kernel_rfl) (fun c d v a w h => by cases d <;> exact h) (List.Sublist.cons _ (List.Sublist.cons₂ _ (List.Sublist.cons₂ _ (List.Sublist.cons _ (List.Sublist.cons₂ _ (List.Sublist.cons₂ _ (List.Sublist.cons₂ _ List.Sublist.slnil))))))) ?_
      refine rf_loadR (n := 4) rfl rfl rfl Try.underlying25 rfl (by kernel_rfl) (fun w hw => Kn.hd0 (Kn.tl (Kn.tl (Kn.tl hw)))) rfl rfl ?_
      simp only [Act.put, Act.eval, qn, qv, Nat.reduceAdd]
      refine rg_nil ?_
      refine ek_rt (List.Sublist.cons _ (List.Sublist.cons₂ _ (List.Sublist.cons₂ _ (List.Sublist.cons _ (List.Sublist.cons₂ _ (List.Sublist.cons₂ _ (List.Sublist.cons₂ _ List.Sublist.slnil))))))) ?_
      refine rt_soft (i := 17) rfl (by kernel_rfl) (fun c d v a w h => by cases d <;> exact h) (List.Sublist.cons _ (List.Sublist.cons₂ _ (List.Sublist.cons₂ _ (List.Sublist.cons _ (List.Sublist.cons₂ _ (List.Sublist.cons₂ _ (List.Sublist.cons₂ _ List.Sublist.slnil))))))) ?_
      refine rf_loadR (n := 4) rfl rfl rfl Try.underlying25 rfl (by kernel_rfl) (fun w hw => Kn.hd0 hw) rfl rfl ?_
      simp only [Act.put, Act.eval, qn, qv, Nat.reduceAdd]
      refine rg_nil ?_
      refine ek_rt (List.Sublist.cons _ (List.Sublist.cons₂ _ (List.Sublist.cons₂ _ (List.Sublist.cons _ (List.Sublist.cons₂ _ (List.Sublist.cons₂ _ (List.Sublist.cons₂ _ List.Sublist.slnil))))))) ?_
      refine rt_hard1 (i := 11) (by kernel_rfl) rfl ?_
      refine rg_stk (by rfl) (by kernel_rfl) (by simp only [qm, qs, Act.eval] <;> exact rfl) (fun w hw => rmul_any q.s10 p.s11 kq10.out kp11.out eo10 g4 w (Kn.hd0 (Kn.tl (Kn.tl (Kn.tl hw))))) (fun e1 => (Rep.there _ (Rep.there _ (Rep.there _ (Rep.here _))))) (fun e1 => fun _ h => by cases h; exact (List.Sublist.cons _ (List.Sublist.cons₂ _ (List.Sublist.cons₂ _ (List.Sublist.cons _ (List.Sublist.cons₂ _ (List.Sublist.cons₂ _ (List.Sublist.cons₂ _ List.Sublist.slnil)))))))) (fun vh eh kh hvh => ?_)
      simp only [Act.put, Act.eval, qn, qv, Nat.reduceAdd]
      replace kh := Lib.hid kh
      replace hvh := Lib.hid hvh
      refine rg_nil ?_
      refine ek_rt (List.Sublist.cons _ (List.Sublist.cons₂ _ (List.Sublist.cons₂ _ (List.Sublist.cons _ (List.Sublist.cons₂ _ (List.Sublist.cons₂ _ (List.Sublist.cons₂ _ List.Sublist.slnil))))))) ?_
      refine rt_hard1 (i := 16) (by kernel_rfl) rfl ?_
      refine rg_stk (by rfl) (by kernel_rfl) (by simp only [qm, qs, Act.eval] <;> exact rfl) (fun w hw => rmul_any vh q.s01 kh.out kq01.out eh g4 w (Kn.hd0 (Kn.tl (Kn.tl (Kn.tl hw))))) (fun e1 => (Rep.there _ (Rep.there _ (Rep.there _ (Rep.here _))))) (fun e1 => fun _ h => by cases h; exact (List.Sublist.cons _ (List.Sublist.cons₂ _ (List.Sublist.cons₂ _ (List.Sublist.cons _ (List.Sublist.cons₂ _ (List.Sublist.cons₂ _ (List.Sublist.cons₂ _ List.Sublist.slnil)))))))) (fun vi ei ki hvi => ?_)
      simp only [Act.put, Act.eval, qn, qv, Nat.reduceAdd]
      replace ki := Lib.hid ki
      replace hvi := Lib.hid hvi
      refine rg_nil ?_
      refine ek_rt (List.Sublist.cons _ (List.Sublist.cons₂ _ (List.Sublist.cons₂ _ (List.Sublist.cons _ (List.Sublist.cons₂ _ (List.Sublist.cons₂ _ (List.Sublist.cons₂ _ List.Sublist.slnil))))))) ?_
      refine rt_hard1 (i := 18) (by kernel_rfl) rfl ?_
      refine rg_stk (by rfl) (by kernel_rfl) (by simp only [qm, qs, Act.eval] <;> exact rfl) (fun w hw => rdiv_any vi vd ki.out kd.out ei g4 w (Kn.hd0 (Kn.tl (Kn.tl (Kn.tl hw))))) (fun e1 => (Rep.there _ (Rep.there _ (Rep.there _ (Rep.here _))))) (fun e1 => fun _ h => by cases h; exact (List.Sublist.cons _ (List.Sublist.cons₂ _ (List.Sublist.cons₂ _ (List.Sublist.cons _ (List.Sublist.cons₂ _ (List.Sublist.cons₂ _ (List.Sublist.cons₂ _ List.Sublist.slnil)))))))) (fun vs es ks hvs => ?_)
      simp only [Act.put, Act.eval, qn, qv, Nat.reduceAdd]
      replace ks := Lib.hid ks
      replace hvs := Lib.hid hvs
      refine rg_nil ?_
      refine ek_rt (List.Sublist.cons _ (List.Sublist.cons₂ _ (List.Sublist.cons₂ _ (List.Sublist.cons _ (List.Sublist.cons₂ _ (List.Sublist.cons₂ _ (List.Sublist.cons₂ _ List.Sublist.slnil))))))) ?_
      refine rt_hard1 (i := 19) (by kernel_rfl) rfl ?_
      refine rf_storeR (n := 4) rfl rfl (by kernel_rfl) rfl rfl (UpdR.here _ _ _ (Nat.le_of_ble_eq_true rfl)) (fun _ h => by cases h; exact (List.Sublist.cons _ (List.Sublist.cons₂ _ (List.Sublist.cons₂ _ (List.Sublist.cons _ (List.Sublist.cons₂ _ (List.Sublist.cons₂ _ (List.Sublist.cons₂ _ List.Sublist.slnil)))))))) ?_
      simp only [Act.put, Act.eval, qn, qv, Nat.reduceAdd]
      refine rg_nil ?_
      refine ek_rt (List.Sublist.cons _ (List.Sublist.cons₂ _ (List.Sublist.cons₂ _ (List.Sublist.cons _ (List.Sublist.cons₂ _ (List.Sublist.cons₂ _ (List.Sublist.cons₂ _ List.Sublist.slnil))))))) ?_
      refine rt_nil (by kernel_rfl) ?_
      refine ek_next ?_
      refine wk_seq ?_
      refine wk_region [0, 0, 0, 0, 0, 0, 1, 0, 0, 0, 1] rfl (by kernel_rfl) ?_
      simp only [List.zip_cons_cons, List.zip_nil_right]
      refine rg_move ?_
      simp only [Act.put, Act.eval, qn, qv, Nat.reduceAdd]
      refine rf_field (n := 15) (j := 0) rfl rfl rfl Try.underlying49 rfl (by kernel_rfl) rfl ?_
      simp only [Act.put, Act.eval, qn, qv, Nat.reduceAdd]
      refine rf_indexA (n := 1) (sz := 8) (j := 8) rfl rfl rfl rfl Try.underlying47 (by kernel_rfl) (by decide) rfl ?_
      simp only [Act.put, Act.eval, qn, qv, Nat.reduceAdd]
      refine rf_indexA (n := 1) (sz := 4) (j := 12) rfl rfl rfl rfl Try.underlying46 (by kernel_rfl) (by decide) rfl ?_
      simp only [Act.put, Act.eval, qn, qv, Nat.reduceAdd]
      refine rf_loadR (n := 4) rfl rfl rfl Try.underlying25 rfl (by kernel_rfl) (fun w hw => Kn.hd0 (Kn.tl (Kn.tl (Kn.tl (Kn.tl (Kn.tl hw)))))) rfl rfl ?_
      simp only [Act.put, Act.eval, qn, qv, Nat.reduceAdd]
      refine rf_loadR (n := 4) rfl rfl rfl Try.underlying25 rfl (by kernel_rfl) (fun w hw => Kn.hd0 hw) rfl rfl ?_
      simp only [Act.put, Act.eval, qn, qv, Nat.reduceAdd]
      refine rg_stk (by rfl) (by kernel_rfl) (by simp only [qm, qs, Act.eval] <;> exact rfl) (fun w hw => radd_any q.s11 vs kq11.out ks.out es g4 w (Kn.hd0 (Kn.tl (Kn.tl (Kn.tl hw))))) (fun e1 => (Rep.there _ (Rep.there _ (Rep.there _ (Rep.here _))))) (fun e1 => fun _ h => by cases h) (fun vo11 eo11 ko11 hvo11 => ?_)
      simp only [Act.put, Act.eval, qn, qv, Nat.reduceAdd]
      replace ko11 := Lib.hid ko11
      replace hvo11 := Lib.hid hvo11
      refine rf_field (n := 15) (j := 0) rfl rfl rfl Try.underlying49 rfl (by kernel_rfl) rfl ?_
      simp only [Act.put, Act.eval, qn, qv, Nat.reduceAdd]
      refine rf_indexA (n := 1) (sz := 8) (j := 8) rfl rfl rfl rfl Try.underlying47 (by kernel_rfl) (by decide) rfl ?_
      simp only [Act.put, Act.eval, qn, qv, Nat.reduceAdd]
      refine rf_indexA (n := 1) (sz := 4) (j := 12) rfl rfl rfl rfl Try.underlying46 (by kernel_rfl) (by decide) rfl ?_
      simp only [Act.put, Act.eval, qn, qv, Nat.reduceAdd]
      refine rf_storeR (n := 4) rfl rfl (by kernel_rfl) rfl rfl (UpdR.there _ (UpdR.there _ (UpdR.here _ _ _ (Nat.le_of_ble_eq_true rfl)))) (fun _ h => by cases h) ?_
      simp only [Act.put, Act.eval, qn, qv, Nat.reduceAdd]
      refine rg_nil ?_
      refine ek_next ?_
      refine wk_seq ?_
      refine wk_seq ?_
      have hst := Lib.hid (star_stk hvm.out hvd.out hva.out hvb.out hvr.out hvo00.out hvc.out hvo01.out hvf.out hvo10.out hvh.out hvi.out hvs.out hvo11.out)
      clear hvm hvd hva hvb hvr hvo00 hvc hvo01 hvf hvo10 hvh hvi hvs hvo11
      refine wk_region [0, 0, 0, 0, 0] rfl (by kernel_rfl) ?_
      simp only [List.zip_cons_cons, List.zip_nil_right]
      refine rg_move ?_
      simp only [Act.put, Act.eval, qn, qv, Nat.reduceAdd]
      apply rg_soft
      case hy => (intro w hw; go_simp; (try go_bits); exact Yld.mk _ _)
      simp only [Act.put, Act.eval, qn, qv, Nat.reduceAdd]
      refine rf_field (n := 0) (j := 0) rfl rfl rfl Try.underlying83 rfl (by kernel_rfl) rfl ?_
      simp only [Act.put, Act.eval, qn, qv, Nat.reduceAdd]
      refine rf_load rfl rfl rfl Try.underlying26 rfl (fun w hw => (Kn.hd0 (Kn.tl (Kn.tl (Kn.tl hw)))).at rfl) ?_
      simp only [Act.put, Act.eval, qn, qv, Nat.reduceAdd]
      refine rfb_neq rfl rfl rfl rfl ?_
      intro x h1
      cases x
      · (try simp only [decide_eq_true_eq, decide_eq_false_iff_not, Int.not_lt, Int.not_le, beq_iff_eq, beq_eq_false_iff_ne, bne_iff_ne, bne_eq_false_iff_eq, ne_eq, Bool.not_eq_true', Bool.not_eq_false'] at h1)
        simp only [Act.put, Act.eval, qn, qv, Nat.reduceAdd]
        obtain rfl : eo11 = 0 := (by first | exact h1 | simpa using h1)
        have ht := Lib.hid (rstar_fin hok.out hst.out)
        refine rg_nil ?_
        refine ek_next ?_
        refine wk_cond_f rfl ?_
        refine wk_skip ?_
        refine ek_next ?_
        refine wk_seq ?_
        refine wk_region [0, 1, 0] rfl (by kernel_rfl) ?_
        simp only [List.zip_cons_cons, List.zip_nil_right]
        refine rf_loadR (n := 16) rfl rfl rfl Try.underlying49 rfl (by kernel_rfl) (fun w hw => Kn.hd0 (Kn.tl (Kn.tl hw))) rfl rfl ?_
        simp only [Act.put, Act.eval, qn, qv, Nat.reduceAdd]
        refine rf_storeR (n := 16) rfl rfl (by kernel_rfl) rfl rfl (UpdR.there _ (UpdR.there _ (UpdR.there _ (UpdR.there _ (UpdR.here _ _ _ (Nat.le_of_ble_eq_true rfl)))))) (fun _ h => by cases h) ?_
        simp only [Act.put, Act.eval, qn, qv, Nat.reduceAdd]
        refine rg_assign ?_
        simp only [Act.put, Act.eval, qn, qv, Nat.reduceAdd]
        refine rg_nil ?_
        refine ek_next ?_
        refine wk_ret ?_
        refine ek_ret (fun w hw => ⟨rfl, _, run_results2 rfl rfl (Kn.hd0 (Kn.tl (Kn.tl (Kn.tl (Kn.tl hw))))) Try.underlying49 rfl (by kernel_rfl), ?_⟩)
        (try simp only [Act.put, Act.eval, qn, qv, Nat.reduceAdd])
        exact ⟨by rw [ht.out] <;> rfl, hw.below⟩
      · (try simp only [decide_eq_true_eq, decide_eq_false_iff_not, Int.not_lt, Int.not_le, beq_iff_eq, beq_eq_false_iff_ne, bne_iff_ne, bne_eq_false_iff_eq, ne_eq, Bool.not_eq_true', Bool.not_eq_false'] at h1)
        simp only [Act.put, Act.eval, qn, qv, Nat.reduceAdd]
        have ht := Lib.hid (rstar_err hok.out hst.out (by first | exact h1 | simpa using h1))
        refine rg_nil ?_
        refine ek_next ?_
        refine wk_cond_t rfl ?_
        refine wk_seq ?_
        refine wk_draws_m (hz1 := (List.Sublist.cons₂ _ (List.Sublist.cons₂ _ (List.Sublist.cons₂ _ (List.Sublist.cons₂ _ (List.Sublist.cons _ (List.Sublist.cons₂ _ (List.Sublist.cons₂ _ List.Sublist.slnil)))))))) [(0, 0), (1, 3), (2, 3), (3, 3), (4, 3), (5, 2), (6, 0)] 5 (by kernel_rfl) (by kernel_rfl) (fun c d v a w h => by cases d <;> exact h) ?_
        simp only [List.map_cons, List.map_nil, List.getD_cons_zero, List.getD_cons_succ]
        refine rf_build (cs := fun a => #[.int .i64 0, .int .i64 0, .int .i64 0, .int .i64 0, .int .i64 0, .int .i64 0, .int .i64 0, .int .i64 0, .int .i64 0, .int .i64 0, .int .i64 0, .int .i64 0, .int .i64 0, .int .i64 0, .int .i64 0, .int .i64 0]) rfl rfl (by kernel_rfl) ?_
        simp only [Act.put, Act.eval, qn, qv, Nat.reduceAdd]
        refine rg_moveP ?_
        simp only [Act.put, Act.eval, qn, qv, Nat.reduceAdd]
        apply rg_softP
        case hy => (intro w hw; go_simp; (try go_bits); exact Yld.mk _ _)
        simp only [Act.put, Act.eval, qn, qv, Nat.reduceAdd]
        refine rf_field (n := 0) (j := 0) rfl rfl rfl Try.underlying83 rfl (by kernel_rfl) rfl ?_
        simp only [Act.put, Act.eval, qn, qv, Nat.reduceAdd]
        refine rf_load rfl rfl rfl Try.underlying26 rfl (fun w hw => (Kn.hd0 (Kn.tl (Kn.tl (Kn.tl hw)))).at rfl) ?_
        simp only [Act.put, Act.eval, qn, qv, Nat.reduceAdd]
        refine rf_storeRM (n := 16) rfl rfl (by kernel_rfl) rfl rfl (UpdR.there _ (UpdR.there _ (UpdR.there _ (UpdR.there _ (UpdR.here _ _ _ (Nat.le_of_ble_eq_true rfl)))))) (List.Sublist.cons₂ _ (List.Sublist.cons₂ _ (List.Sublist.cons₂ _ (List.Sublist.cons₂ _ (List.Sublist.cons _ (List.Sublist.cons₂ _ (List.Sublist.cons₂ _ List.Sublist.slnil))))))) ?_
        simp only [Act.put, Act.eval, qn, qv, Nat.reduceAdd]
        refine rg_assign ?_
        simp only [Act.put, Act.eval, qn, qv, Nat.reduceAdd]
        refine rg_nil ?_
        refine ek_next ?_
        refine wk_ret ?_
        refine ek_then_ret ?_
        refine ek_ret (fun w hw => ⟨rfl, _, run_results2 rfl rfl (Kn.hd0 (Kn.tl (Kn.tl (Kn.tl (Kn.tl hw))))) Try.underlying49 rfl (by kernel_rfl), ?_⟩)
        (try simp only [Act.put, Act.eval, qn, qv, Nat.reduceAdd])
        exact ⟨by rw [ht.out] <;> rfl, hw.below⟩
set_option maxRecDepth 100000 in
set_option maxHeartbeats 4000000 in
theorem rstarE_any (p q : En.Pt) (w : World) : Calls Try.prog 50 #[ptV p, ptV q] w fun e w' => e = .returned (ptE (starR p q)) ∧ Below w.heap.size w w' := by
  cases hp : portOk p with
  | false => exact rstar_f p q hp w
  | true =>
    cases hq : portOk q with
    | false => exact rstar_tf p q hp hq w
    | true => exact rstar_tt p q hp hq w
end Go.Proofs.Ytpbbbfglecbceaa
/- Equality of two-ports as values. -/
namespace Go.Proofs.Ytpbbbfglecbceaa
set_option linter.all false
open Go.RowKit

set_option maxRecDepth 100000 in
theorem sp_self (s : En.Sp) (w : World) : (Op.equalIn 9996 23 (.agg #[.int .i64 s.lo, .int .i64 s.hi]) (.agg #[.int .i64 s.lo, .int .i64 s.hi])).run Try.prog w = .ok true w := by
  have u0 := Try.underlying3
  have a0 := Try.isAgg3
  have z0 := Try.sizeOf3
  have hS : Try.prog.underlying 23 = some (.struct (Try.prog.fieldsOf 23)) := by kernel_rfl
  have hp : Try.prog.stoodInHeld 23 = false := by kernel_rfl
  rw [show (9996 : Nat) = 9995 + 1 from rfl, run_equalIn_agg w 9995 23 _ _ hS hp]
  simp only [Program.fieldsOf, Try.underlying23]
  go_simp
set_option maxRecDepth 100000 in
theorem rc_self (x : En.Rc) (w : World) : (Op.equalIn 9997 25 (.agg #[.int .i64 x.re.lo, .int .i64 x.re.hi, .int .i64 x.im.lo, .int .i64 x.im.hi]) (.agg #[.int .i64 x.re.lo, .int .i64 x.re.hi, .int .i64 x.im.lo, .int .i64 x.im.hi])).run Try.prog w = .ok true w := by
  have u0 := Try.underlying23
  have a0 := Try.isAgg23
  have z0 := Try.sizeOf23
  have h1 := sp_self x.re
  have h2 := sp_self x.im
  have hS : Try.prog.underlying 25 = some (.struct (Try.prog.fieldsOf 25)) := by kernel_rfl
  have hp : Try.prog.stoodInHeld 25 = false := by kernel_rfl
  rw [show (9997 : Nat) = 9996 + 1 from rfl, run_equalIn_agg w 9996 25 _ _ hS hp]
  simp only [Program.fieldsOf, Try.underlying25]
  go_simp
set_option maxRecDepth 100000 in
theorem row_self (x y : En.Rc) (w : World) : (Op.equalIn 9998 46 (.agg #[.int .i64 x.re.lo, .int .i64 x.re.hi, .int .i64 x.im.lo, .int .i64 x.im.hi, .int .i64 y.re.lo, .int .i64 y.re.hi, .int .i64 y.im.lo, .int .i64 y.im.hi]) (.agg #[.int .i64 x.re.lo, .int .i64 x.re.hi, .int .i64 x.im.lo, .int .i64 x.im.hi, .int .i64 y.re.lo, .int .i64 y.re.hi, .int .i64 y.im.lo, .int .i64 y.im.hi])).run Try.prog w = .ok true w := by
  have u0 := Try.underlying25
  have a0 := Try.isAgg25
  have z0 := Try.sizeOf25
  have h1 := rc_self x
  have h2 := rc_self y
  rw [show (9998 : Nat) = 9997 + 1 from rfl, Op.equalIn]
  simp only [Sem.run_bind, run_underlying Try.underlying46, Result.andThen_ok]
  simp only [Std.Legacy.Range.forIn_eq_forIn_range', Std.Legacy.Range.size, Nat.sub_zero, Nat.add_sub_cancel, Nat.div_one, List.range'_succ, List.range'_zero, List.forIn_cons, List.forIn_nil]
  go_simp
set_option maxRecDepth 100000 in
theorem sq_self (p : En.Pt) (w : World) : (Op.equalIn 9999 47 (.agg #[.int .i64 p.s00.re.lo, .int .i64 p.s00.re.hi, .int .i64 p.s00.im.lo, .int .i64 p.s00.im.hi, .int .i64 p.s01.re.lo, .int .i64 p.s01.re.hi, .int .i64 p.s01.im.lo, .int .i64 p.s01.im.hi, .int .i64 p.s10.re.lo, .int .i64 p.s10.re.hi, .int .i64 p.s10.im.lo, .int .i64 p.s10.im.hi, .int .i64 p.s11.re.lo, .int .i64 p.s11.re.hi, .int .i64 p.s11.im.lo, .int .i64 p.s11.im.hi]) (.agg #[.int .i64 p.s00.re.lo, .int .i64 p.s00.re.hi, .int .i64 p.s00.im.lo, .int .i64 p.s00.im.hi, .int .i64 p.s01.re.lo, .int .i64 p.s01.re.hi, .int .i64 p.s01.im.lo, .int .i64 p.s01.im.hi, .int .i64 p.s10.re.lo, .int .i64 p.s10.re.hi, .int .i64 p.s10.im.lo, .int .i64 p.s10.im.hi, .int .i64 p.s11.re.lo, .int .i64 p.s11.re.hi, .int .i64 p.s11.im.lo, .int .i64 p.s11.im.hi])).run Try.prog w = .ok true w := by
  have u0 := Try.underlying46
  have a0 := Try.isAgg46
  have z0 := Try.sizeOf46
  have h1 := row_self p.s00 p.s01
  have h2 := row_self p.s10 p.s11
  rw [show (9999 : Nat) = 9998 + 1 from rfl, Op.equalIn]
  simp only [Sem.run_bind, run_underlying Try.underlying47, Result.andThen_ok]
  simp only [Std.Legacy.Range.forIn_eq_forIn_range', Std.Legacy.Range.size, Nat.sub_zero, Nat.add_sub_cancel, Nat.div_one, List.range'_succ, List.range'_zero, List.forIn_cons, List.forIn_nil]
  go_simp
set_option maxRecDepth 100000 in
theorem pt_self (p : En.Pt) (w : World) : (Op.equalIn 10000 49 (.agg #[.int .i64 p.s00.re.lo, .int .i64 p.s00.re.hi, .int .i64 p.s00.im.lo, .int .i64 p.s00.im.hi, .int .i64 p.s01.re.lo, .int .i64 p.s01.re.hi, .int .i64 p.s01.im.lo, .int .i64 p.s01.im.hi, .int .i64 p.s10.re.lo, .int .i64 p.s10.re.hi, .int .i64 p.s10.im.lo, .int .i64 p.s10.im.hi, .int .i64 p.s11.re.lo, .int .i64 p.s11.re.hi, .int .i64 p.s11.im.lo, .int .i64 p.s11.im.hi]) (.agg #[.int .i64 p.s00.re.lo, .int .i64 p.s00.re.hi, .int .i64 p.s00.im.lo, .int .i64 p.s00.im.hi, .int .i64 p.s01.re.lo, .int .i64 p.s01.re.hi, .int .i64 p.s01.im.lo, .int .i64 p.s01.im.hi, .int .i64 p.s10.re.lo, .int .i64 p.s10.re.hi, .int .i64 p.s10.im.lo, .int .i64 p.s10.im.hi, .int .i64 p.s11.re.lo, .int .i64 p.s11.re.hi, .int .i64 p.s11.im.lo, .int .i64 p.s11.im.hi])).run Try.prog w = .ok true w := by
  have u0 := Try.underlying47
  have a0 := Try.isAgg47
  have z0 := Try.sizeOf47
  have h1 := sq_self p
  have hS : Try.prog.underlying 49 = some (.struct (Try.prog.fieldsOf 49)) := by kernel_rfl
  have hp : Try.prog.stoodInHeld 49 = false := by kernel_rfl
  rw [show (10000 : Nat) = 9999 + 1 from rfl, run_equalIn_agg w 9999 49 _ _ hS hp]
  simp only [Program.fieldsOf, Try.underlying49]
  go_simp
theorem pt_guard (op : BinOp) (u v : Operand) (x y : En.Pt) (w : World) : (eqGuard op 49 u v (ptV x) (ptV y)).run Try.prog w = .ok () w := by
  have h : (Try.prog.eqGuardType Try.prog.depth 49) = false := by kernel_rfl
  unfold eqGuard
  cases op <;> simp [h]
section
variable {R : Option Nat} {ops : Array Oper} {Q : Exit → Act → World → Prop} {B : World} {F : List Nat} {s0 : Option (List Blk × List Blk)}
variable {l : List (Oper × Nat)} {a : Act} {s : List Blk} {d : Option Tmp} {t : TypeId} {p : String} {af : Array Edge} {gd : Option (Nat × Bool)} {m : Nat}
theorem rf_eqP {x y : Operand} {z : TypeId} (u : En.Pt) (hm : soft03 m = true) (hg : Region.wanted ⟨d, .binOp .eql 49 x y z, t, p, af, gd⟩ (yielded ops a.tmps) = true)
    (hx : a.eval x = ptV u) (hy : a.eval y = ptV u) (h : Rg R Try.prog ops Q B F s0 l (a.put d (.bool true)) s) : Rg R Try.prog ops Q B F s0 ((⟨d, .binOp .eql 49 x y z, t, p, af, gd⟩, m) :: l) a s := by
  refine rg_any hm hg (fun w => ?_) h
  unfold Yld
  have hb : (binOp .eql 49 (ptV u) (ptV u)).run Try.prog w = .ok (.bool true) w := by rw [run_eql_struct, pt_self]; rfl
  have hgd := pt_guard .eql x y u u w
  show ((eqGuard .eql _ x y (a.eval x) (a.eval y) >>= fun _ => binOp .eql _ (a.eval x) (a.eval y)) >>= fun r => pure (Next.value r)).run Try.prog w = _
  rw [hx, hy, Sem.run_bind, Sem.run_bind, hgd, Result.andThen_ok, hb]
  rfl
theorem rf_neP {x y : Operand} {z : TypeId} (u : En.Pt) (hm : soft03 m = true) (hg : Region.wanted ⟨d, .binOp .neq 49 x y z, t, p, af, gd⟩ (yielded ops a.tmps) = true)
    (hx : a.eval x = ptV u) (hy : a.eval y = ptV u) (h : Rg R Try.prog ops Q B F s0 l (a.put d (.bool false)) s) : Rg R Try.prog ops Q B F s0 ((⟨d, .binOp .neq 49 x y z, t, p, af, gd⟩, m) :: l) a s := by
  refine rg_any hm hg (fun w => ?_) h
  unfold Yld
  have hb : (binOp .neq 49 (ptV u) (ptV u)).run Try.prog w = .ok (.bool false) w := by rw [run_neq_struct, pt_self]; rfl
  have hgd := pt_guard .neq x y u u w
  show ((eqGuard .neq _ x y (a.eval x) (a.eval y) >>= fun _ => binOp .neq _ (a.eval x) (a.eval y)) >>= fun r => pure (Next.value r)).run Try.prog w = _
  rw [hx, hy, Sem.run_bind, Sem.run_bind, hgd, Result.andThen_ok, hb]
  rfl
end
end Go.Proofs.Ytpbbbfglecbceaa
