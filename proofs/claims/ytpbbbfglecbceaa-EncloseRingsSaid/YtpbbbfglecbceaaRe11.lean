/- The document's quotients. -/
import Derived.Test.YtpbbbfglecbceaaRe6
import Derived.Test.YtpbbbfglecbceaaRe7
import Derived.Test.YtpbbbfglecbceaaOvPl
namespace Go.Proofs.Ytpbbbfglecbceaa
set_option linter.all false
open Go.RowKit

theorem overDown_any (a b : Int) (hb : 0 < b) (hb' : b ≤ 1099511627776) (ha : -1099511627776 ≤ a) (ha' : a ≤ 1099511627776) (w : World) :
    Calls Try.prog 137 #[.int .i64 a, .int .i64 b] w fun e w' => e = .returned (.int .i64 (En.ovr a b)) ∧ w' = w := by
  have CB := below_any a b hb (by omega) (by omega) (by omega)
  have hnb : ¬ b < 0 := by omega
  have hm := Int.mul_ediv_add_emod a b
  have r0 := Int.emod_nonneg a (b := b) (by omega)
  have r1 := Int.emod_lt_of_pos a hb
  rw [Int.mul_comm] at hm
  have hov : En.ovr a b = if 2048 < a / b then 35184372088832 else if a / b < -2048 then -35184372088832 else a * 1073741824 / b := rfl
  have HR := fun K : Int => En.ovr_round (a := K) hb
  replace HR := Lib.hid HR
  obtain ⟨q, hq⟩ : ∃ q, a / b = q := ⟨_, rfl⟩
  obtain ⟨r, hr⟩ : ∃ r, a % b = r := ⟨_, rfl⟩
  rw [hq] at CB hov hm
  rw [hr] at hm r0 r1
  replace CB := Lib.hid CB
  have m1 : -1099511627776 - 1099511627776 ≤ q * b := by omega
  have m2 : q * b ≤ 1099511627776 := by omega
  have hsub : a - q * b = r := by omega
  have HQ := Lib.hid hq
  have HRR := Lib.hid hr
  clear hq hr hm
  by_cases h1 : 2048 < q
  · rw [if_pos h1] at hov
    have hmm : max (min q 1) (-1) * 35184372088832 = 35184372088832 := by omega
    replace hmm := Lib.hid hmm
    rw [hov]
    clear hov
    go_enter Try.func137, Try.ntmps137
    go_wp2_with (go_at_call 97; refine (CB.out _).mono ?_; rintro e w'' ⟨rfl, rfl⟩)
    go_ret
    exact ⟨congrArg (fun z => Ending.returned (.int .i64 z)) hmm.out, rfl⟩
  · rw [if_neg h1] at hov
    by_cases h2 : q < -2048
    · rw [if_pos h2] at hov
      have hmm : max (min q 1) (-1) * 35184372088832 = -35184372088832 := by omega
      replace hmm := Lib.hid hmm
      rw [hov]
      clear hov
      go_enter Try.func137, Try.ntmps137
      go_wp2_with (go_at_call 97; refine (CB.out _).mono ?_; rintro e w'' ⟨rfl, rfl⟩)
      go_ret
      exact ⟨congrArg (fun z => Ending.returned (.int .i64 z)) hmm.out, rfl⟩
    · rw [if_neg h2] at hov
      rw [hov]
      clear hov
      go_enter Try.func137, Try.ntmps137
      go_wp2_with (go_at_call 97; refine (CB.out _).mono ?_; rintro e w'' ⟨rfl, rfl⟩)
      go_loopw [5, 6, 31] (fun x y c wx => ∃ (i K P q r : Int), (i = 0 ∧ P = 1 ∨ i = 1 ∧ P = 32768 ∨ i = 2 ∧ P = 1073741824) ∧ RowKit.Hid (K = a * P) ∧ RowKit.Hid (K / b = q) ∧ RowKit.Hid (K % b = r) ∧ x = .int .i64 q ∧ y = .int .i64 r ∧ c = .int .i64 i ∧
        -(4096 * P) ≤ q ∧ q ≤ 4096 * P - 1 ∧ 0 ≤ r ∧ r < b ∧ wx = w'') (fun _ _ c _ => (2 - intOf c).toNat)
      case atStart => exact ⟨0, a, 1, q, r, by omega, Lib.hid (by omega), HQ, HRR, rfl, rfl, rfl, by omega, by omega, r0, r1, rfl⟩
      case round =>
        clear HQ HRR h1 h2 r0 r1 hsub m1 m2
        obtain ⟨i, K, P, q, r, hi, HK, HQ, HRR, rfl, rfl, rfl, b1, b2, r0, r1, rfl⟩ := hrel
        by_cases hi2 : i < 2
        · have hP : P ≤ 32768 := by omega
          have hP0 : 1 ≤ P := by omega
          have hi0 : 0 ≤ i := by omega
          have hround := HR.out K
          rw [HQ.out, HRR.out] at hround
          obtain ⟨k1, k2⟩ := hround
          have d0 : (r * 32768).tdiv b = r * 32768 / b := Int.tdiv_eq_ediv_of_nonneg (by omega)
          have d1 : (r * 32768).tmod b = r * 32768 % b := Int.tmod_eq_emod_of_nonneg (by omega)
          have d2 : 0 ≤ r * 32768 / b := Int.ediv_nonneg (by omega) (by omega)
          have d3 : r * 32768 / b < 32768 := (Int.ediv_lt_iff_lt_mul hb).2 (by omega)
          have d4 := Int.emod_nonneg (r * 32768) (b := b) (by omega)
          have d5 := Int.emod_lt_of_pos (r * 32768) hb
          have hne : b ≠ 0 := by omega
          obtain ⟨D, hD⟩ : ∃ D, r * 32768 / b = D := ⟨_, rfl⟩
          obtain ⟨E, hE⟩ : ∃ E, r * 32768 % b = E := ⟨_, rfl⟩
          rw [hD] at d0 d2 d3 k1
          rw [hE] at d1 d4 d5 k2
          clear hD hE
          have K1 := Lib.hid k1
          have K2 := Lib.hid k2
          have HI := Lib.hid hi
          clear k1 k2 hi
          go_wp2_with fail
          refine ⟨⟨i + 1, K * 32768, P * 32768, q * 32768 + D, E, by have := HI.out; omega, Lib.hid (by rw [HK.out, Int.mul_assoc]), Lib.hid K1.out.symm, Lib.hid K2.out.symm, rfl, rfl, rfl, by omega, by omega, d4, d5, by first | rfl | trivial⟩, ?_⟩
          simp only [intOf]
          omega
        · have hP : P = 1073741824 := by omega
          obtain rfl : i = 2 := by omega
          subst hP
          have hq : a * 1073741824 / b = q := by rw [← HK.out]; exact HQ.out
          have HQF := Lib.hid hq.symm
          clear hq
          go_wp2_with fail
          go_ret
          exact ⟨congrArg (fun z => Ending.returned (.int .i64 z)) HQF.out, rfl⟩

theorem overUp_any (a b : Int) (hb : 0 < b) (hb' : b ≤ 1099511627776) (ha : -1099511627776 ≤ a) (ha' : a ≤ 1099511627776) (w : World) :
    Calls Try.prog 138 #[.int .i64 a, .int .i64 b] w fun e w' => e = .returned (.int .i64 (En.ovu a b)) ∧ w' = w := by
  have C := overDown_any (-a) b hb hb' (by omega) (by omega)
  have hd : -(En.ovr (-a) b) = En.ovu a b := rfl
  have k := En.ovr_le (a := -a) hb (by omega) (by omega)
  obtain ⟨k1, k2⟩ := k
  obtain ⟨d, hdd⟩ : ∃ d, En.ovr (-a) b = d := ⟨_, rfl⟩
  rw [hdd] at C hd k1 k2
  clear hdd
  replace C := Lib.hid C
  rw [← hd]
  clear hd
  go_enter Try.func138, Try.ntmps138
  go_wp2_with (go_at_call 137; refine (C.out _).mono ?_; rintro e w'' ⟨rfl, rfl⟩)
  go_ret
  exact ⟨rfl, rfl⟩
set_option maxHeartbeats 1000000 in
theorem wover_any (x y : En.Sp) (hx : x.fit) (hy : y.fit) (e0 : Int) (hyy : e0 = 0 → 0 < y.lo ∧ y.lo ≤ y.hi) (g : Nat) (w : World) (HG : Hd w g 83 #[.int .i64 e0]) :
    Calls Try.prog 120 #[ptr g, spV x, spV y] w (PostW (En.div x y) g e0 w) := by
  have hlt := HG.lt
  have bw := But.refl g w
  obtain ⟨x1, x2, x3, x4⟩ := hx
  obtain ⟨y1, y2, y3, y4⟩ := hy
  obtain ⟨hcG, hfG⟩ := HG.facts
  by_cases h0 : e0 = 0
  · subst h0
    obtain ⟨hy1, hy2⟩ := hyy rfl
    clear hyy
    have hlt1 : g < w.heap.size + 1 := by omega
    have hlt2 : g < w.heap.size + 1 + 1 := by omega
    go_enter Try.func120, Try.ntmps120
    go_upto_region 3 with fail
    replace HG : Hd ((((w.alloc (.cells #[.int .i64 x.lo, .int .i64 x.hi] 23)).alloc (.cells #[.int .i64 y.lo, .int .i64 y.hi] 23)).alloc (.cells #[.int .i64 0, .int .i64 0] 23)).drew) g 83 #[.int .i64 0] := by (with_reducible repeat' (first | assumption | (apply hdN; (try simp only [sA, sS, sD]); done) | apply hdA | apply hdD | apply hdS | (apply hdF; case hp => first | (simp; done) | (simp; omega)) | with_unfolding_all rfl))
    have HA : Hd ((((w.alloc (.cells #[.int .i64 x.lo, .int .i64 x.hi] 23)).alloc (.cells #[.int .i64 y.lo, .int .i64 y.hi] 23)).alloc (.cells #[.int .i64 0, .int .i64 0] 23)).drew) w.heap.size 23 #[.int .i64 x.lo, .int .i64 x.hi] := by (with_reducible repeat' (first | assumption | (apply hdN; (try simp only [sA, sS, sD]); done) | apply hdA | apply hdD | apply hdS | (apply hdF; case hp => first | (simp; done) | (simp; omega)) | with_unfolding_all rfl))
    have HB : Hd ((((w.alloc (.cells #[.int .i64 x.lo, .int .i64 x.hi] 23)).alloc (.cells #[.int .i64 y.lo, .int .i64 y.hi] 23)).alloc (.cells #[.int .i64 0, .int .i64 0] 23)).drew) (w.heap.size + 1) 23 #[.int .i64 y.lo, .int .i64 y.hi] := by (with_reducible repeat' (first | assumption | (apply hdN; (try simp only [sA, sS, sD]); done) | apply hdA | apply hdD | apply hdS | (apply hdF; case hp => first | (simp; done) | (simp; omega)) | with_unfolding_all rfl))
    have HO : Hd ((((w.alloc (.cells #[.int .i64 x.lo, .int .i64 x.hi] 23)).alloc (.cells #[.int .i64 y.lo, .int .i64 y.hi] 23)).alloc (.cells #[.int .i64 0, .int .i64 0] 23)).drew) (w.heap.size + 2) 23 #[.int .i64 0, .int .i64 0] := by (with_reducible repeat' (first | assumption | (apply hdN; (try simp only [sA, sS, sD]); done) | apply hdA | apply hdD | apply hdS | (apply hdF; case hp => first | (simp; done) | (simp; omega)) | with_unfolding_all rfl))
    replace bw : But g w ((((w.alloc (.cells #[.int .i64 x.lo, .int .i64 x.hi] 23)).alloc (.cells #[.int .i64 y.lo, .int .i64 y.hi] 23)).alloc (.cells #[.int .i64 0, .int .i64 0] 23)).drew) := by (with_reducible repeat' (first | assumption | exact But.refl _ _ | apply But.drew | apply But.alloc | (refine But.set ?_ ?hp _; case hp => first | (simp; done) | (simp; omega))))
    (refine wp_region_eag (fun w' => Hd w' w.heap.size 23 #[.int .i64 x.lo, .int .i64 x.hi] ∧ Hd w' (w.heap.size + 1) 23 #[.int .i64 y.lo, .int .i64 y.hi] ∧ But g w w') [(0, true), (1, true), (2, true), (3, true), (5, true), (6, true), (7, true), (8, true), (10, true), (11, true), (12, true), (13, true), (15, true), (16, true), (17, true), (18, true), (4, false), (9, false), (14, false), (19, false), (20, false), (21, true)] (by kernel_rfl) (by kernel_rfl) (fun c d v a w h => by cases d <;> exact h) ⟨HA, HB, bw⟩ ?_; simp only [List.map_cons, List.map_nil, List.getD_cons_zero, List.getD_cons_succ, flMark, Nat.reduceEqDiff, ↓reduceIte])
    repeat ((first | with_reducible apply eag_move | with_reducible apply eag_assign | ((with_reducible refine eag_soft (v := ?_) (fun w' hw' => ?_) ?_); rotate_left 1; (focus (obtain ⟨hA, hB, hBw⟩ := hw'; obtain ⟨hcA, hfA⟩ := hA.facts; obtain ⟨hcB, hfB⟩ := hB.facts; go_simp; (try with_reducible rfl); done)))); simp only [Act.put, Act.eval, List.setIfInBounds_toArray, List.set_cons_zero, List.set_cons_succ, Array.getD_eq_getD_getElem?, List.getElem?_toArray, List.getElem?_cons_zero, List.getElem?_cons_succ, Option.getD_some])
    refine eag_hard ?_
    go_wp2_with fail
    refine (overDown_any x.lo y.lo (by omega) (by omega) (by omega) (by omega) _).mono ?_
    rintro e w'' ⟨rfl, rfl⟩
    go_wp2_with fail
    (try refine ⟨⟨HA, HB, bw⟩, ?_⟩)
    repeat ((first | with_reducible apply eag_move | with_reducible apply eag_assign | ((with_reducible refine eag_soft (v := ?_) (fun w' hw' => ?_) ?_); rotate_left 1; (focus (obtain ⟨hA, hB, hBw⟩ := hw'; obtain ⟨hcA, hfA⟩ := hA.facts; obtain ⟨hcB, hfB⟩ := hB.facts; go_simp; (try with_reducible rfl); done)))); simp only [Act.put, Act.eval, List.setIfInBounds_toArray, List.set_cons_zero, List.set_cons_succ, Array.getD_eq_getD_getElem?, List.getElem?_toArray, List.getElem?_cons_zero, List.getElem?_cons_succ, Option.getD_some])
    refine eag_hard ?_
    go_wp2_with fail
    refine (overDown_any x.lo y.hi (by omega) (by omega) (by omega) (by omega) _).mono ?_
    rintro e w'' ⟨rfl, rfl⟩
    go_wp2_with fail
    (try refine ⟨⟨HA, HB, bw⟩, ?_⟩)
    repeat ((first | with_reducible apply eag_move | with_reducible apply eag_assign | ((with_reducible refine eag_soft (v := ?_) (fun w' hw' => ?_) ?_); rotate_left 1; (focus (obtain ⟨hA, hB, hBw⟩ := hw'; obtain ⟨hcA, hfA⟩ := hA.facts; obtain ⟨hcB, hfB⟩ := hB.facts; go_simp; (try with_reducible rfl); done)))); simp only [Act.put, Act.eval, List.setIfInBounds_toArray, List.set_cons_zero, List.set_cons_succ, Array.getD_eq_getD_getElem?, List.getElem?_toArray, List.getElem?_cons_zero, List.getElem?_cons_succ, Option.getD_some])
    refine eag_hard ?_
    go_wp2_with fail
    refine (overDown_any x.hi y.lo (by omega) (by omega) (by omega) (by omega) _).mono ?_
    rintro e w'' ⟨rfl, rfl⟩
    go_wp2_with fail
    (try refine ⟨⟨HA, HB, bw⟩, ?_⟩)
    repeat ((first | with_reducible apply eag_move | with_reducible apply eag_assign | ((with_reducible refine eag_soft (v := ?_) (fun w' hw' => ?_) ?_); rotate_left 1; (focus (obtain ⟨hA, hB, hBw⟩ := hw'; obtain ⟨hcA, hfA⟩ := hA.facts; obtain ⟨hcB, hfB⟩ := hB.facts; go_simp; (try with_reducible rfl); done)))); simp only [Act.put, Act.eval, List.setIfInBounds_toArray, List.set_cons_zero, List.set_cons_succ, Array.getD_eq_getD_getElem?, List.getElem?_toArray, List.getElem?_cons_zero, List.getElem?_cons_succ, Option.getD_some])
    refine eag_hard ?_
    go_wp2_with fail
    refine (overDown_any x.hi y.hi (by omega) (by omega) (by omega) (by omega) _).mono ?_
    rintro e w'' ⟨rfl, rfl⟩
    go_wp2_with fail
    (try refine ⟨⟨HA, HB, bw⟩, ?_⟩)
    repeat ((first | with_reducible apply eag_move | with_reducible apply eag_assign | ((with_reducible refine eag_soft (v := ?_) (fun w' hw' => ?_) ?_); rotate_left 1; (focus (obtain ⟨hA, hB, hBw⟩ := hw'; obtain ⟨hcA, hfA⟩ := hA.facts; obtain ⟨hcB, hfB⟩ := hB.facts; go_simp; (try with_reducible rfl); done)))); simp only [Act.put, Act.eval, List.setIfInBounds_toArray, List.set_cons_zero, List.set_cons_succ, Array.getD_eq_getD_getElem?, List.getElem?_toArray, List.getElem?_cons_zero, List.getElem?_cons_succ, Option.getD_some])
    refine eag_hard ?_
    go_wp2_with fail
    (try refine ⟨⟨HA, HB, bw⟩, ?_⟩)
    repeat ((first | with_reducible apply eag_move | with_reducible apply eag_assign | ((with_reducible refine eag_soft (v := ?_) (fun w' hw' => ?_) ?_); rotate_left 1; (focus (obtain ⟨hA, hB, hBw⟩ := hw'; obtain ⟨hcA, hfA⟩ := hA.facts; obtain ⟨hcB, hfB⟩ := hB.facts; go_simp; (try with_reducible rfl); done)))); simp only [Act.put, Act.eval, List.setIfInBounds_toArray, List.set_cons_zero, List.set_cons_succ, Array.getD_eq_getD_getElem?, List.getElem?_toArray, List.getElem?_cons_zero, List.getElem?_cons_succ, Option.getD_some])
    refine eag_nil ?_
    obtain ⟨hcA, hfA⟩ := HA.facts
    obtain ⟨hcB, hfB⟩ := HB.facts
    go_upto_region 4 with fail
    replace HG : Hd (((((w.alloc (.cells #[.int .i64 x.lo, .int .i64 x.hi] 23)).alloc (.cells #[.int .i64 y.lo, .int .i64 y.hi] 23)).alloc (.cells #[.int .i64 0, .int .i64 0] 23)).drew).drew) g 83 #[.int .i64 0] := by (with_reducible repeat' (first | assumption | (apply hdN; (try simp only [sA, sS, sD]); done) | apply hdA | apply hdD | apply hdS | (apply hdF; case hp => first | (simp; done) | (simp; omega)) | with_unfolding_all rfl))
    replace HA : Hd (((((w.alloc (.cells #[.int .i64 x.lo, .int .i64 x.hi] 23)).alloc (.cells #[.int .i64 y.lo, .int .i64 y.hi] 23)).alloc (.cells #[.int .i64 0, .int .i64 0] 23)).drew).drew) w.heap.size 23 #[.int .i64 x.lo, .int .i64 x.hi] := by (with_reducible repeat' (first | assumption | (apply hdN; (try simp only [sA, sS, sD]); done) | apply hdA | apply hdD | apply hdS | (apply hdF; case hp => first | (simp; done) | (simp; omega)) | with_unfolding_all rfl))
    replace HB : Hd (((((w.alloc (.cells #[.int .i64 x.lo, .int .i64 x.hi] 23)).alloc (.cells #[.int .i64 y.lo, .int .i64 y.hi] 23)).alloc (.cells #[.int .i64 0, .int .i64 0] 23)).drew).drew) (w.heap.size + 1) 23 #[.int .i64 y.lo, .int .i64 y.hi] := by (with_reducible repeat' (first | assumption | (apply hdN; (try simp only [sA, sS, sD]); done) | apply hdA | apply hdD | apply hdS | (apply hdF; case hp => first | (simp; done) | (simp; omega)) | with_unfolding_all rfl))
    replace HO : Hd (((((w.alloc (.cells #[.int .i64 x.lo, .int .i64 x.hi] 23)).alloc (.cells #[.int .i64 y.lo, .int .i64 y.hi] 23)).alloc (.cells #[.int .i64 0, .int .i64 0] 23)).drew).drew) (w.heap.size + 2) 23 #[.int .i64 0, .int .i64 0] := by (with_reducible repeat' (first | assumption | (apply hdN; (try simp only [sA, sS, sD]); done) | apply hdA | apply hdD | apply hdS | (apply hdF; case hp => first | (simp; done) | (simp; omega)) | with_unfolding_all rfl))
    replace bw : But g w (((((w.alloc (.cells #[.int .i64 x.lo, .int .i64 x.hi] 23)).alloc (.cells #[.int .i64 y.lo, .int .i64 y.hi] 23)).alloc (.cells #[.int .i64 0, .int .i64 0] 23)).drew).drew) := by (with_reducible repeat' (first | assumption | exact But.refl _ _ | apply But.drew | apply But.alloc | (refine But.set ?_ ?hp _; case hp => first | (simp; done) | (simp; omega))))
    (refine wp_region_eag (fun w' => Hd w' w.heap.size 23 #[.int .i64 x.lo, .int .i64 x.hi] ∧ Hd w' (w.heap.size + 1) 23 #[.int .i64 y.lo, .int .i64 y.hi] ∧ But g w w') [(0, true), (1, true), (2, true), (3, true), (5, true), (6, true), (7, true), (8, true), (10, true), (11, true), (12, true), (13, true), (15, true), (16, true), (17, true), (18, true), (4, false), (9, false), (14, false), (19, false), (20, false), (21, true)] (by kernel_rfl) (by kernel_rfl) (fun c d v a w h => by cases d <;> exact h) ⟨HA, HB, bw⟩ ?_; simp only [List.map_cons, List.map_nil, List.getD_cons_zero, List.getD_cons_succ, flMark, Nat.reduceEqDiff, ↓reduceIte])
    repeat ((first | with_reducible apply eag_move | with_reducible apply eag_assign | ((with_reducible refine eag_soft (v := ?_) (fun w' hw' => ?_) ?_); rotate_left 1; (focus (obtain ⟨hA, hB, hBw⟩ := hw'; obtain ⟨hcA, hfA⟩ := hA.facts; obtain ⟨hcB, hfB⟩ := hB.facts; go_simp; (try with_reducible rfl); done)))); simp only [Act.put, Act.eval, List.setIfInBounds_toArray, List.set_cons_zero, List.set_cons_succ, Array.getD_eq_getD_getElem?, List.getElem?_toArray, List.getElem?_cons_zero, List.getElem?_cons_succ, Option.getD_some])
    refine eag_hard ?_
    go_wp2_with fail
    refine (overUp_any x.lo y.lo (by omega) (by omega) (by omega) (by omega) _).mono ?_
    rintro e w'' ⟨rfl, rfl⟩
    go_wp2_with fail
    (try refine ⟨⟨HA, HB, bw⟩, ?_⟩)
    repeat ((first | with_reducible apply eag_move | with_reducible apply eag_assign | ((with_reducible refine eag_soft (v := ?_) (fun w' hw' => ?_) ?_); rotate_left 1; (focus (obtain ⟨hA, hB, hBw⟩ := hw'; obtain ⟨hcA, hfA⟩ := hA.facts; obtain ⟨hcB, hfB⟩ := hB.facts; go_simp; (try with_reducible rfl); done)))); simp only [Act.put, Act.eval, List.setIfInBounds_toArray, List.set_cons_zero, List.set_cons_succ, Array.getD_eq_getD_getElem?, List.getElem?_toArray, List.getElem?_cons_zero, List.getElem?_cons_succ, Option.getD_some])
    refine eag_hard ?_
    go_wp2_with fail
    refine (overUp_any x.lo y.hi (by omega) (by omega) (by omega) (by omega) _).mono ?_
    rintro e w'' ⟨rfl, rfl⟩
    go_wp2_with fail
    (try refine ⟨⟨HA, HB, bw⟩, ?_⟩)
    repeat ((first | with_reducible apply eag_move | with_reducible apply eag_assign | ((with_reducible refine eag_soft (v := ?_) (fun w' hw' => ?_) ?_); rotate_left 1; (focus (obtain ⟨hA, hB, hBw⟩ := hw'; obtain ⟨hcA, hfA⟩ := hA.facts; obtain ⟨hcB, hfB⟩ := hB.facts; go_simp; (try with_reducible rfl); done)))); simp only [Act.put, Act.eval, List.setIfInBounds_toArray, List.set_cons_zero, List.set_cons_succ, Array.getD_eq_getD_getElem?, List.getElem?_toArray, List.getElem?_cons_zero, List.getElem?_cons_succ, Option.getD_some])
    refine eag_hard ?_
    go_wp2_with fail
    refine (overUp_any x.hi y.lo (by omega) (by omega) (by omega) (by omega) _).mono ?_
    rintro e w'' ⟨rfl, rfl⟩
    go_wp2_with fail
    (try refine ⟨⟨HA, HB, bw⟩, ?_⟩)
    repeat ((first | with_reducible apply eag_move | with_reducible apply eag_assign | ((with_reducible refine eag_soft (v := ?_) (fun w' hw' => ?_) ?_); rotate_left 1; (focus (obtain ⟨hA, hB, hBw⟩ := hw'; obtain ⟨hcA, hfA⟩ := hA.facts; obtain ⟨hcB, hfB⟩ := hB.facts; go_simp; (try with_reducible rfl); done)))); simp only [Act.put, Act.eval, List.setIfInBounds_toArray, List.set_cons_zero, List.set_cons_succ, Array.getD_eq_getD_getElem?, List.getElem?_toArray, List.getElem?_cons_zero, List.getElem?_cons_succ, Option.getD_some])
    refine eag_hard ?_
    go_wp2_with fail
    refine (overUp_any x.hi y.hi (by omega) (by omega) (by omega) (by omega) _).mono ?_
    rintro e w'' ⟨rfl, rfl⟩
    go_wp2_with fail
    (try refine ⟨⟨HA, HB, bw⟩, ?_⟩)
    repeat ((first | with_reducible apply eag_move | with_reducible apply eag_assign | ((with_reducible refine eag_soft (v := ?_) (fun w' hw' => ?_) ?_); rotate_left 1; (focus (obtain ⟨hA, hB, hBw⟩ := hw'; obtain ⟨hcA, hfA⟩ := hA.facts; obtain ⟨hcB, hfB⟩ := hB.facts; go_simp; (try with_reducible rfl); done)))); simp only [Act.put, Act.eval, List.setIfInBounds_toArray, List.set_cons_zero, List.set_cons_succ, Array.getD_eq_getD_getElem?, List.getElem?_toArray, List.getElem?_cons_zero, List.getElem?_cons_succ, Option.getD_some])
    refine eag_hard ?_
    go_wp2_with fail
    (try refine ⟨⟨HA, HB, bw⟩, ?_⟩)
    repeat ((first | with_reducible apply eag_move | with_reducible apply eag_assign | ((with_reducible refine eag_soft (v := ?_) (fun w' hw' => ?_) ?_); rotate_left 1; (focus (obtain ⟨hA, hB, hBw⟩ := hw'; obtain ⟨hcA, hfA⟩ := hA.facts; obtain ⟨hcB, hfB⟩ := hB.facts; go_simp; (try with_reducible rfl); done)))); simp only [Act.put, Act.eval, List.setIfInBounds_toArray, List.set_cons_zero, List.set_cons_succ, Array.getD_eq_getD_getElem?, List.getElem?_toArray, List.getElem?_cons_zero, List.getElem?_cons_succ, Option.getD_some])
    refine eag_nil ?_
    go_wp2_with fail
    refine (wspan_any _ _ 0 g _ HG).mono ?_
    rintro e w1 ⟨z1, e1, rfl, ok1, zz1, qq1, HG1, hb1⟩
    replace bw : But g w w1 := bw.trans hb1
    replace HA := HA.but hb1 (by omega)
    replace HB := HB.but hb1 (by omega)
    replace HO := HO.but hb1 (by omega)
    replace HG := HG1
    clear HG1
    replace qq1 := Lib.hid qq1
    replace zz1 := Lib.hid zz1
    have lw1 : w.heap.size ≤ w1.heap.size := bw.size
    clear hb1
    obtain ⟨hcO, hfO⟩ := HO.facts
    go_wp2
    refine bodyPost_ret (run_results1 rfl rfl (by (show Hd _ ((w.heap.size + 2)) 23 #[.int .i64 z1.lo, .int .i64 z1.hi]); (with_reducible repeat' (first | assumption | (apply hdN; (try simp only [sA, sS, sD]); done) | apply hdA | apply hdD | apply hdS | (apply hdF; case hp => first | (simp; done) | (simp; omega)) | with_unfolding_all rfl))) Try.underlying23 rfl (by kernel_rfl)) rfl ⟨z1, e1, rfl, ok1, zz1.out, (by rw [En.div_eq hy1 hy2, min4, max4]; exact qq1.out), by (with_reducible repeat' (first | assumption | (apply hdN; (try simp only [sA, sS, sD]); done) | apply hdA | apply hdD | apply hdS | (apply hdF; case hp => first | (simp; done) | (simp; omega)) | with_unfolding_all rfl)), by (with_reducible repeat' (first | assumption | exact But.refl _ _ | apply But.drew | apply But.alloc | (refine But.set ?_ ?hp _; case hp => first | (simp; done) | (simp; omega))))⟩
  · clear hyy
    have hlt1 : g < w.heap.size + 1 := by omega
    have hlt2 : g < w.heap.size + 1 + 1 := by omega
    go_enter Try.func120, Try.ntmps120
    go_wp2
    refine bodyPost_ret (run_results1 rfl rfl (by (show Hd _ (w.heap.size + 2) 23 #[.int .i64 0, .int .i64 0]); (with_reducible repeat' (first | assumption | (apply hdN; (try simp only [sA, sS, sD]); done) | apply hdA | apply hdD | apply hdS | (apply hdF; case hp => first | (simp; done) | (simp; omega)) | with_unfolding_all rfl))) Try.underlying23 rfl (by kernel_rfl)) rfl ⟨⟨0, 0⟩, e0, rfl, rfl, fun _ => rfl, .inr ⟨h0, rfl⟩, by (with_reducible repeat' (first | assumption | (apply hdN; (try simp only [sA, sS, sD]); done) | apply hdA | apply hdD | apply hdS | (apply hdF; case hp => first | (simp; done) | (simp; omega)) | with_unfolding_all rfl)), by (with_reducible repeat' (first | assumption | exact But.refl _ _ | apply But.drew | apply But.alloc | (refine But.set ?_ ?hp _; case hp => first | (simp; done) | (simp; omega))))⟩

theorem En.Stk.stays {α : Type} {r : En.R α} {e e' : Int} {z : α} (h : En.Stk r e z e') (he : e ≠ 0) : e' = e := by
  rcases h with ⟨h1, _⟩ | ⟨_, h2⟩
  · exact absurd h1 he
  · exact h2
theorem En.conj_ok {y : En.Rc} (h : y.ok = true) : (En.conj y).ok = true := by
  have h1 : (En.okS y.re.lo y.re.hi && En.okS y.im.lo y.im.hi) = true := h
  rw [Bool.and_eq_true] at h1
  obtain ⟨h1, h2⟩ := h1
  show (En.okS y.re.lo y.re.hi && En.okS (-y.im.hi) (-y.im.lo)) = true
  rw [h1]
  simp only [En.okS, Bool.and_eq_true, decide_eq_true_eq, Bool.true_and] at h2 ⊢
  omega

set_option maxHeartbeats 2000000 in
theorem rdiv_any (x y : En.Rc) (hx : x.ok = true) (hy : y.ok = true) (e0 : Int) (g : Nat) (w : World) (HG : Hd w g 83 #[.int .i64 e0]) :
    Calls Try.prog 79 #[ptr g, rcV x, rcV y] w (PostR (En.quotient x y) g e0 w) := by
  have hlt := HG.lt
  have bw := But.refl g w
  obtain ⟨xr, xi⟩ := En.Rc.fit_of_ok hx
  obtain ⟨yr, yi⟩ := En.Rc.fit_of_ok hy
  obtain ⟨hcG, hfG⟩ := HG.facts
  go_enter Try.func79, Try.ntmps79
  go_wp2_with fail
  replace HG : Hd (((w.alloc (.cells #[.int .i64 x.re.lo, .int .i64 x.re.hi, .int .i64 x.im.lo, .int .i64 x.im.hi] 25)).alloc (.cells #[.int .i64 y.re.lo, .int .i64 y.re.hi, .int .i64 y.im.lo, .int .i64 y.im.hi] 25)).alloc (.cells #[.int .i64 0, .int .i64 0, .int .i64 0, .int .i64 0] 25)) g 83 #[.int .i64 e0] := by (with_reducible repeat' (first | assumption | (apply hdN; (try simp only [sA, sS, sD]); done) | apply hdA | apply hdD | apply hdS | (apply hdF; case hp => first | (simp; done) | (simp; omega)) | with_unfolding_all rfl))
  have HA : Hd (((w.alloc (.cells #[.int .i64 x.re.lo, .int .i64 x.re.hi, .int .i64 x.im.lo, .int .i64 x.im.hi] 25)).alloc (.cells #[.int .i64 y.re.lo, .int .i64 y.re.hi, .int .i64 y.im.lo, .int .i64 y.im.hi] 25)).alloc (.cells #[.int .i64 0, .int .i64 0, .int .i64 0, .int .i64 0] 25)) w.heap.size 25 #[.int .i64 x.re.lo, .int .i64 x.re.hi, .int .i64 x.im.lo, .int .i64 x.im.hi] := by (with_reducible repeat' (first | assumption | (apply hdN; (try simp only [sA, sS, sD]); done) | apply hdA | apply hdD | apply hdS | (apply hdF; case hp => first | (simp; done) | (simp; omega)) | with_unfolding_all rfl))
  have HB : Hd (((w.alloc (.cells #[.int .i64 x.re.lo, .int .i64 x.re.hi, .int .i64 x.im.lo, .int .i64 x.im.hi] 25)).alloc (.cells #[.int .i64 y.re.lo, .int .i64 y.re.hi, .int .i64 y.im.lo, .int .i64 y.im.hi] 25)).alloc (.cells #[.int .i64 0, .int .i64 0, .int .i64 0, .int .i64 0] 25)) (w.heap.size + 1) 25 #[.int .i64 y.re.lo, .int .i64 y.re.hi, .int .i64 y.im.lo, .int .i64 y.im.hi] := by (with_reducible repeat' (first | assumption | (apply hdN; (try simp only [sA, sS, sD]); done) | apply hdA | apply hdD | apply hdS | (apply hdF; case hp => first | (simp; done) | (simp; omega)) | with_unfolding_all rfl))
  have HO : Hd (((w.alloc (.cells #[.int .i64 x.re.lo, .int .i64 x.re.hi, .int .i64 x.im.lo, .int .i64 x.im.hi] 25)).alloc (.cells #[.int .i64 y.re.lo, .int .i64 y.re.hi, .int .i64 y.im.lo, .int .i64 y.im.hi] 25)).alloc (.cells #[.int .i64 0, .int .i64 0, .int .i64 0, .int .i64 0] 25)) (w.heap.size + 2) 25 #[.int .i64 0, .int .i64 0, .int .i64 0, .int .i64 0] := by (with_reducible repeat' (first | assumption | (apply hdN; (try simp only [sA, sS, sD]); done) | apply hdA | apply hdD | apply hdS | (apply hdF; case hp => first | (simp; done) | (simp; omega)) | with_unfolding_all rfl))
  replace bw : But g w (((w.alloc (.cells #[.int .i64 x.re.lo, .int .i64 x.re.hi, .int .i64 x.im.lo, .int .i64 x.im.hi] 25)).alloc (.cells #[.int .i64 y.re.lo, .int .i64 y.re.hi, .int .i64 y.im.lo, .int .i64 y.im.hi] 25)).alloc (.cells #[.int .i64 0, .int .i64 0, .int .i64 0, .int .i64 0] 25)) := by (with_reducible repeat' (first | assumption | exact But.refl _ _ | apply But.drew | apply But.alloc | (refine But.set ?_ ?hp _; case hp => first | (simp; done) | (simp; omega))))
  have okc : (En.conj y).ok = true := En.conj_ok hy
  refine (wpower_any y hy e0 g _ HG).mono ?_
  rintro e w1 ⟨z1, e1, rfl, ok1, zz1, qq1, HG1, hb1⟩
  replace bw : But g w w1 := bw.trans hb1
  replace HA := HA.but hb1 (by omega)
  replace HB := HB.but hb1 (by omega)
  replace HO := HO.but hb1 (by omega)
  replace HG := HG1
  clear HG1
  replace qq1 := Lib.hid qq1
  replace zz1 := Lib.hid zz1
  have lw1 : w.heap.size ≤ w1.heap.size := bw.size
  clear hb1
  obtain ⟨hcG, hfG⟩ := HG.facts
  obtain ⟨hcA, hfA⟩ := HA.facts
  obtain ⟨hcB, hfB⟩ := HB.facts
  obtain ⟨hcO, hfO⟩ := HO.facts
  have ltG := HG.lt
  have ltA := HA.lt
  have ltB := HB.lt
  have ltO := HO.lt
  have hpl := En.Sp.le_of_ok ok1
  obtain ⟨yi1, yi2, yi3, yi4⟩ := yi
  by_cases he : e1 = 0
  · subst he
    by_cases hp : z1.lo ≤ 0
    · have hp0 := Lib.hid hp
      go_wp2_with fail
      replace HG : Hd ((((w1.setCell ⟨g, 0, none⟩ (.int .i64 51)).setCell ⟨(w.heap.size + 1), 2, none⟩ (.int .i64 (-y.im.hi))).setCell ⟨(w.heap.size + 1), 3, none⟩ (.int .i64 (-y.im.lo))).alloc (.cells #[.int .i64 z1.lo, .int .i64 z1.hi] 23)) g 83 #[.int .i64 51] := by (with_reducible repeat' (first | assumption | (apply hdN; (try simp only [sA, sS, sD]); done) | apply hdA | apply hdD | apply hdS | (apply hdF; case hp => first | (simp; done) | (simp; omega)) | with_unfolding_all rfl))
      replace HA : Hd ((((w1.setCell ⟨g, 0, none⟩ (.int .i64 51)).setCell ⟨(w.heap.size + 1), 2, none⟩ (.int .i64 (-y.im.hi))).setCell ⟨(w.heap.size + 1), 3, none⟩ (.int .i64 (-y.im.lo))).alloc (.cells #[.int .i64 z1.lo, .int .i64 z1.hi] 23)) w.heap.size 25 #[.int .i64 x.re.lo, .int .i64 x.re.hi, .int .i64 x.im.lo, .int .i64 x.im.hi] := by (with_reducible repeat' (first | assumption | (apply hdN; (try simp only [sA, sS, sD]); done) | apply hdA | apply hdD | apply hdS | (apply hdF; case hp => first | (simp; done) | (simp; omega)) | with_unfolding_all rfl))
      replace HB : Hd ((((w1.setCell ⟨g, 0, none⟩ (.int .i64 51)).setCell ⟨(w.heap.size + 1), 2, none⟩ (.int .i64 (-y.im.hi))).setCell ⟨(w.heap.size + 1), 3, none⟩ (.int .i64 (-y.im.lo))).alloc (.cells #[.int .i64 z1.lo, .int .i64 z1.hi] 23)) (w.heap.size + 1) 25 #[.int .i64 y.re.lo, .int .i64 y.re.hi, .int .i64 (-y.im.hi), .int .i64 (-y.im.lo)] := by (with_reducible repeat' (first | assumption | (apply hdN; (try simp only [sA, sS, sD]); done) | apply hdA | apply hdD | apply hdS | (apply hdF; case hp => first | (simp; done) | (simp; omega)) | with_unfolding_all rfl))
      replace HO : Hd ((((w1.setCell ⟨g, 0, none⟩ (.int .i64 51)).setCell ⟨(w.heap.size + 1), 2, none⟩ (.int .i64 (-y.im.hi))).setCell ⟨(w.heap.size + 1), 3, none⟩ (.int .i64 (-y.im.lo))).alloc (.cells #[.int .i64 z1.lo, .int .i64 z1.hi] 23)) (w.heap.size + 2) 25 #[.int .i64 0, .int .i64 0, .int .i64 0, .int .i64 0] := by (with_reducible repeat' (first | assumption | (apply hdN; (try simp only [sA, sS, sD]); done) | apply hdA | apply hdD | apply hdS | (apply hdF; case hp => first | (simp; done) | (simp; omega)) | with_unfolding_all rfl))
      replace bw : But g w ((((w1.setCell ⟨g, 0, none⟩ (.int .i64 51)).setCell ⟨(w.heap.size + 1), 2, none⟩ (.int .i64 (-y.im.hi))).setCell ⟨(w.heap.size + 1), 3, none⟩ (.int .i64 (-y.im.lo))).alloc (.cells #[.int .i64 z1.lo, .int .i64 z1.hi] 23)) := by (with_reducible repeat' (first | assumption | exact But.refl _ _ | apply But.drew | apply But.alloc | (refine But.set ?_ ?hp _; case hp => first | (simp; done) | (simp; omega))))
      have HP : Hd ((((w1.setCell ⟨g, 0, none⟩ (.int .i64 51)).setCell ⟨(w.heap.size + 1), 2, none⟩ (.int .i64 (-y.im.hi))).setCell ⟨(w.heap.size + 1), 3, none⟩ (.int .i64 (-y.im.lo))).alloc (.cells #[.int .i64 z1.lo, .int .i64 z1.hi] 23)) w1.heap.size 23 #[.int .i64 z1.lo, .int .i64 z1.hi] := by (with_reducible repeat' (first | assumption | (apply hdN; (try simp only [sA, sS, sD]); done) | apply hdA | apply hdD | apply hdS | (apply hdF; case hp => first | (simp; done) | (simp; omega)) | with_unfolding_all rfl))
      have ltP := HP.lt
      refine (rmul_any x (En.conj y) hx okc 51 g _ HG).mono ?_
      rintro e w2 ⟨z2, e2, rfl, ok2, qq2, HG2, hb2⟩
      replace bw : But g w w2 := bw.trans hb2
      replace HA := HA.but hb2 (by omega)
      replace HB := HB.but hb2 (by omega)
      replace HO := HO.but hb2 (by omega)
      replace HP := HP.but hb2 (by omega)
      replace HG := HG2
      clear HG2
      replace qq2 := Lib.hid qq2
      have lw2 : w.heap.size ≤ w2.heap.size := bw.size
      clear hb2
      obtain ⟨hcG, hfG⟩ := HG.facts
      obtain ⟨hcA, hfA⟩ := HA.facts
      obtain ⟨hcB, hfB⟩ := HB.facts
      obtain ⟨hcO, hfO⟩ := HO.facts
      obtain ⟨hcP, hfP⟩ := HP.facts
      have ltG2 := HG.lt
      have ltA2 := HA.lt
      have ltB2 := HB.lt
      have ltO2 := HO.lt
      have ltP2 := HP.lt
      go_upto_region 6 with fail
      replace HG : Hd ((w2.alloc (.cells #[.int .i64 z2.re.lo, .int .i64 z2.re.hi, .int .i64 z2.im.lo, .int .i64 z2.im.hi] 25)).drew) g 83 #[.int .i64 e2] := by (with_reducible repeat' (first | assumption | (apply hdN; (try simp only [sA, sS, sD]); done) | apply hdA | apply hdD | apply hdS | (apply hdF; case hp => first | (simp; done) | (simp; omega)) | with_unfolding_all rfl))
      replace HA : Hd ((w2.alloc (.cells #[.int .i64 z2.re.lo, .int .i64 z2.re.hi, .int .i64 z2.im.lo, .int .i64 z2.im.hi] 25)).drew) w.heap.size 25 #[.int .i64 x.re.lo, .int .i64 x.re.hi, .int .i64 x.im.lo, .int .i64 x.im.hi] := by (with_reducible repeat' (first | assumption | (apply hdN; (try simp only [sA, sS, sD]); done) | apply hdA | apply hdD | apply hdS | (apply hdF; case hp => first | (simp; done) | (simp; omega)) | with_unfolding_all rfl))
      replace HB : Hd ((w2.alloc (.cells #[.int .i64 z2.re.lo, .int .i64 z2.re.hi, .int .i64 z2.im.lo, .int .i64 z2.im.hi] 25)).drew) (w.heap.size + 1) 25 #[.int .i64 y.re.lo, .int .i64 y.re.hi, .int .i64 (-y.im.hi), .int .i64 (-y.im.lo)] := by (with_reducible repeat' (first | assumption | (apply hdN; (try simp only [sA, sS, sD]); done) | apply hdA | apply hdD | apply hdS | (apply hdF; case hp => first | (simp; done) | (simp; omega)) | with_unfolding_all rfl))
      replace HO : Hd ((w2.alloc (.cells #[.int .i64 z2.re.lo, .int .i64 z2.re.hi, .int .i64 z2.im.lo, .int .i64 z2.im.hi] 25)).drew) (w.heap.size + 2) 25 #[.int .i64 0, .int .i64 0, .int .i64 0, .int .i64 0] := by (with_reducible repeat' (first | assumption | (apply hdN; (try simp only [sA, sS, sD]); done) | apply hdA | apply hdD | apply hdS | (apply hdF; case hp => first | (simp; done) | (simp; omega)) | with_unfolding_all rfl))
      replace HP : Hd ((w2.alloc (.cells #[.int .i64 z2.re.lo, .int .i64 z2.re.hi, .int .i64 z2.im.lo, .int .i64 z2.im.hi] 25)).drew) w1.heap.size 23 #[.int .i64 z1.lo, .int .i64 z1.hi] := by (with_reducible repeat' (first | assumption | (apply hdN; (try simp only [sA, sS, sD]); done) | apply hdA | apply hdD | apply hdS | (apply hdF; case hp => first | (simp; done) | (simp; omega)) | with_unfolding_all rfl))
      replace bw : But g w ((w2.alloc (.cells #[.int .i64 z2.re.lo, .int .i64 z2.re.hi, .int .i64 z2.im.lo, .int .i64 z2.im.hi] 25)).drew) := by (with_reducible repeat' (first | assumption | exact But.refl _ _ | apply But.drew | apply But.alloc | (refine But.set ?_ ?hp _; case hp => first | (simp; done) | (simp; omega))))
      have HZ : Hd ((w2.alloc (.cells #[.int .i64 z2.re.lo, .int .i64 z2.re.hi, .int .i64 z2.im.lo, .int .i64 z2.im.hi] 25)).drew) w2.heap.size 25 #[.int .i64 z2.re.lo, .int .i64 z2.re.hi, .int .i64 z2.im.lo, .int .i64 z2.im.hi] := by (with_reducible repeat' (first | assumption | (apply hdN; (try simp only [sA, sS, sD]); done) | apply hdA | apply hdD | apply hdS | (apply hdF; case hp => first | (simp; done) | (simp; omega)) | with_unfolding_all rfl))
      obtain ⟨okr, oki⟩ : z2.re.ok = true ∧ z2.im.ok = true := by have h := ok2; simp only [En.Rc.ok, Bool.and_eq_true] at h; exact h
      (refine wp_region_eag (fun w' => Hd w' w2.heap.size 25 #[.int .i64 z2.re.lo, .int .i64 z2.re.hi, .int .i64 z2.im.lo, .int .i64 z2.im.hi] ∧ Hd w' w1.heap.size 23 #[.int .i64 z1.lo, .int .i64 z1.hi] ∧ But g w w') [(0, true), (1, true), (2, true), (3, true), (5, true), (6, true), (7, true), (8, true), (4, false), (9, false), (10, true), (11, false)] (by kernel_rfl) (by kernel_rfl) (fun c d v a w h => by cases d <;> exact h) ⟨HZ, HP, bw⟩ ?_; simp only [List.map_cons, List.map_nil, List.getD_cons_zero, List.getD_cons_succ, flMark, Nat.reduceEqDiff, ↓reduceIte])
      repeat ((first | with_reducible apply eag_move | with_reducible apply eag_assign | ((with_reducible refine eag_soft (v := ?_) (fun w' hw' => ?_) ?_); rotate_left 1; (focus (obtain ⟨hZ, hP, hBw⟩ := hw'; obtain ⟨hcZ, hfZ⟩ := hZ.facts; obtain ⟨hcP, hfP⟩ := hP.facts; go_simp; (try with_reducible rfl); done)))); simp only [Act.put, Act.eval, List.setIfInBounds_toArray, List.set_cons_zero, List.set_cons_succ, Array.getD_eq_getD_getElem?, List.getElem?_toArray, List.getElem?_cons_zero, List.getElem?_cons_succ, Option.getD_some])
      refine eag_hard ?_
      go_wp2_with fail
      refine (wover_any z2.re z1 (En.Sp.fit_of_ok okr) (En.Sp.fit_of_ok ok1) e2 (fun h => absurd h (by rw [En.Stk.stays qq2.out (by decide)]; decide)) g _ HG).mono ?_
      rintro e w3 ⟨z3, e3, rfl, ok3, zz3, qq3, HG3, hb3⟩
      replace bw : But g w w3 := bw.trans hb3
      replace HA := HA.but hb3 (by omega)
      replace HB := HB.but hb3 (by omega)
      replace HO := HO.but hb3 (by omega)
      replace HP := HP.but hb3 (by omega)
      replace HZ := HZ.but hb3 (by omega)
      replace HG := HG3
      clear HG3
      replace qq3 := Lib.hid qq3
      replace zz3 := Lib.hid zz3
      have lw3 : w.heap.size ≤ w3.heap.size := bw.size
      clear hb3
      go_wp2_with fail
      (try refine ⟨⟨HZ, HP, bw⟩, ?_⟩)
      repeat ((first | with_reducible apply eag_move | with_reducible apply eag_assign | ((with_reducible refine eag_soft (v := ?_) (fun w' hw' => ?_) ?_); rotate_left 1; (focus (obtain ⟨hZ, hP, hBw⟩ := hw'; obtain ⟨hcZ, hfZ⟩ := hZ.facts; obtain ⟨hcP, hfP⟩ := hP.facts; go_simp; (try with_reducible rfl); done)))); simp only [Act.put, Act.eval, List.setIfInBounds_toArray, List.set_cons_zero, List.set_cons_succ, Array.getD_eq_getD_getElem?, List.getElem?_toArray, List.getElem?_cons_zero, List.getElem?_cons_succ, Option.getD_some])
      refine eag_hard ?_
      go_wp2_with fail
      refine (wover_any z2.im z1 (En.Sp.fit_of_ok oki) (En.Sp.fit_of_ok ok1) e3 (fun h => absurd h (by rw [En.Stk.stays qq3.out (by rw [En.Stk.stays qq2.out (by decide)]; decide), En.Stk.stays qq2.out (by decide)]; decide)) g _ HG).mono ?_
      rintro e w4 ⟨z4, e4, rfl, ok4, zz4, qq4, HG4, hb4⟩
      replace bw : But g w w4 := bw.trans hb4
      replace HA := HA.but hb4 (by omega)
      replace HB := HB.but hb4 (by omega)
      replace HO := HO.but hb4 (by omega)
      replace HP := HP.but hb4 (by omega)
      replace HZ := HZ.but hb4 (by omega)
      replace HG := HG4
      clear HG4
      replace qq4 := Lib.hid qq4
      replace zz4 := Lib.hid zz4
      have lw4 : w.heap.size ≤ w4.heap.size := bw.size
      clear hb4
      go_wp2_with fail
      (try refine ⟨⟨HZ, HP, bw⟩, ?_⟩)
      repeat ((first | with_reducible apply eag_move | with_reducible apply eag_assign | ((with_reducible refine eag_soft (v := ?_) (fun w' hw' => ?_) ?_); rotate_left 1; (focus (obtain ⟨hZ, hP, hBw⟩ := hw'; obtain ⟨hcZ, hfZ⟩ := hZ.facts; obtain ⟨hcP, hfP⟩ := hP.facts; go_simp; (try with_reducible rfl); done)))); simp only [Act.put, Act.eval, List.setIfInBounds_toArray, List.set_cons_zero, List.set_cons_succ, Array.getD_eq_getD_getElem?, List.getElem?_toArray, List.getElem?_cons_zero, List.getElem?_cons_succ, Option.getD_some])
      obtain ⟨hcO, hfO⟩ := HO.facts
      refine eag_hard ?_
      go_wp2_with fail
      replace HG : Hd ((((w4.setCell ⟨(w.heap.size + 2), 0, none⟩ (.int .i64 z3.lo)).setCell ⟨(w.heap.size + 2), 1, none⟩ (.int .i64 z3.hi)).setCell ⟨(w.heap.size + 2), 2, none⟩ (.int .i64 z4.lo)).setCell ⟨(w.heap.size + 2), 3, none⟩ (.int .i64 z4.hi)) g 83 #[.int .i64 e4] := by (with_reducible repeat' (first | assumption | (apply hdN; (try simp only [sA, sS, sD]); done) | apply hdA | apply hdD | apply hdS | (apply hdF; case hp => first | (simp; done) | (simp; omega)) | with_unfolding_all rfl))
      replace HA : Hd ((((w4.setCell ⟨(w.heap.size + 2), 0, none⟩ (.int .i64 z3.lo)).setCell ⟨(w.heap.size + 2), 1, none⟩ (.int .i64 z3.hi)).setCell ⟨(w.heap.size + 2), 2, none⟩ (.int .i64 z4.lo)).setCell ⟨(w.heap.size + 2), 3, none⟩ (.int .i64 z4.hi)) w.heap.size 25 #[.int .i64 x.re.lo, .int .i64 x.re.hi, .int .i64 x.im.lo, .int .i64 x.im.hi] := by (with_reducible repeat' (first | assumption | (apply hdN; (try simp only [sA, sS, sD]); done) | apply hdA | apply hdD | apply hdS | (apply hdF; case hp => first | (simp; done) | (simp; omega)) | with_unfolding_all rfl))
      replace HB : Hd ((((w4.setCell ⟨(w.heap.size + 2), 0, none⟩ (.int .i64 z3.lo)).setCell ⟨(w.heap.size + 2), 1, none⟩ (.int .i64 z3.hi)).setCell ⟨(w.heap.size + 2), 2, none⟩ (.int .i64 z4.lo)).setCell ⟨(w.heap.size + 2), 3, none⟩ (.int .i64 z4.hi)) (w.heap.size + 1) 25 #[.int .i64 y.re.lo, .int .i64 y.re.hi, .int .i64 (-y.im.hi), .int .i64 (-y.im.lo)] := by (with_reducible repeat' (first | assumption | (apply hdN; (try simp only [sA, sS, sD]); done) | apply hdA | apply hdD | apply hdS | (apply hdF; case hp => first | (simp; done) | (simp; omega)) | with_unfolding_all rfl))
      replace HO : Hd ((((w4.setCell ⟨(w.heap.size + 2), 0, none⟩ (.int .i64 z3.lo)).setCell ⟨(w.heap.size + 2), 1, none⟩ (.int .i64 z3.hi)).setCell ⟨(w.heap.size + 2), 2, none⟩ (.int .i64 z4.lo)).setCell ⟨(w.heap.size + 2), 3, none⟩ (.int .i64 z4.hi)) (w.heap.size + 2) 25 #[.int .i64 z3.lo, .int .i64 z3.hi, .int .i64 z4.lo, .int .i64 z4.hi] := by (with_reducible repeat' (first | assumption | (apply hdN; (try simp only [sA, sS, sD]); done) | apply hdA | apply hdD | apply hdS | (apply hdF; case hp => first | (simp; done) | (simp; omega)) | with_unfolding_all rfl))
      replace HP : Hd ((((w4.setCell ⟨(w.heap.size + 2), 0, none⟩ (.int .i64 z3.lo)).setCell ⟨(w.heap.size + 2), 1, none⟩ (.int .i64 z3.hi)).setCell ⟨(w.heap.size + 2), 2, none⟩ (.int .i64 z4.lo)).setCell ⟨(w.heap.size + 2), 3, none⟩ (.int .i64 z4.hi)) w1.heap.size 23 #[.int .i64 z1.lo, .int .i64 z1.hi] := by (with_reducible repeat' (first | assumption | (apply hdN; (try simp only [sA, sS, sD]); done) | apply hdA | apply hdD | apply hdS | (apply hdF; case hp => first | (simp; done) | (simp; omega)) | with_unfolding_all rfl))
      replace HZ : Hd ((((w4.setCell ⟨(w.heap.size + 2), 0, none⟩ (.int .i64 z3.lo)).setCell ⟨(w.heap.size + 2), 1, none⟩ (.int .i64 z3.hi)).setCell ⟨(w.heap.size + 2), 2, none⟩ (.int .i64 z4.lo)).setCell ⟨(w.heap.size + 2), 3, none⟩ (.int .i64 z4.hi)) w2.heap.size 25 #[.int .i64 z2.re.lo, .int .i64 z2.re.hi, .int .i64 z2.im.lo, .int .i64 z2.im.hi] := by (with_reducible repeat' (first | assumption | (apply hdN; (try simp only [sA, sS, sD]); done) | apply hdA | apply hdD | apply hdS | (apply hdF; case hp => first | (simp; done) | (simp; omega)) | with_unfolding_all rfl))
      replace bw : But g w ((((w4.setCell ⟨(w.heap.size + 2), 0, none⟩ (.int .i64 z3.lo)).setCell ⟨(w.heap.size + 2), 1, none⟩ (.int .i64 z3.hi)).setCell ⟨(w.heap.size + 2), 2, none⟩ (.int .i64 z4.lo)).setCell ⟨(w.heap.size + 2), 3, none⟩ (.int .i64 z4.hi)) := by (with_reducible repeat' (first | assumption | exact But.refl _ _ | apply But.drew | apply But.alloc | (refine But.set ?_ ?hp _; case hp => first | (simp; done) | (simp; omega))))
      (try refine ⟨⟨HZ, HP, bw⟩, ?_⟩)
      refine eag_nil ?_
      go_wp2
      refine bodyPost_ret (run_results1 rfl rfl (by (show Hd _ (w.heap.size + 2) 25 #[.int .i64 z3.lo, .int .i64 z3.hi, .int .i64 z4.lo, .int .i64 z4.hi]); (with_reducible repeat' (first | assumption | (apply hdN; (try simp only [sA, sS, sD]); done) | apply hdA | apply hdD | apply hdS | (apply hdF; case hp => first | (simp; done) | (simp; omega)) | with_unfolding_all rfl))) Try.underlying25 rfl (by kernel_rfl)) rfl ⟨⟨z3, z4⟩, e4, rfl, En.Rc.ok_mk ok3 ok4, qq1.out.bind (by rw [if_pos hp0.out]; have h2 := En.Stk.stays qq2.out (by decide); subst h2; have h3 := En.Stk.stays qq3.out (by decide); subst h3; have h4 := En.Stk.stays qq4.out (by decide); subst h4; exact .inl ⟨rfl, .inr ⟨rfl, by decide⟩⟩), by (with_reducible repeat' (first | assumption | (apply hdN; (try simp only [sA, sS, sD]); done) | apply hdA | apply hdD | apply hdS | (apply hdF; case hp => first | (simp; done) | (simp; omega)) | with_unfolding_all rfl)), by (with_reducible repeat' (first | assumption | exact But.refl _ _ | apply But.drew | apply But.alloc | (refine But.set ?_ ?hp _; case hp => first | (simp; done) | (simp; omega))))⟩
    · have hp0 := Lib.hid (show 0 < z1.lo by omega)
      go_wp2_with fail
      replace HG : Hd (((w1.setCell ⟨(w.heap.size + 1), 2, none⟩ (.int .i64 (-y.im.hi))).setCell ⟨(w.heap.size + 1), 3, none⟩ (.int .i64 (-y.im.lo))).alloc (.cells #[.int .i64 z1.lo, .int .i64 z1.hi] 23)) g 83 #[.int .i64 0] := by (with_reducible repeat' (first | assumption | (apply hdN; (try simp only [sA, sS, sD]); done) | apply hdA | apply hdD | apply hdS | (apply hdF; case hp => first | (simp; done) | (simp; omega)) | with_unfolding_all rfl))
      replace HA : Hd (((w1.setCell ⟨(w.heap.size + 1), 2, none⟩ (.int .i64 (-y.im.hi))).setCell ⟨(w.heap.size + 1), 3, none⟩ (.int .i64 (-y.im.lo))).alloc (.cells #[.int .i64 z1.lo, .int .i64 z1.hi] 23)) w.heap.size 25 #[.int .i64 x.re.lo, .int .i64 x.re.hi, .int .i64 x.im.lo, .int .i64 x.im.hi] := by (with_reducible repeat' (first | assumption | (apply hdN; (try simp only [sA, sS, sD]); done) | apply hdA | apply hdD | apply hdS | (apply hdF; case hp => first | (simp; done) | (simp; omega)) | with_unfolding_all rfl))
      replace HB : Hd (((w1.setCell ⟨(w.heap.size + 1), 2, none⟩ (.int .i64 (-y.im.hi))).setCell ⟨(w.heap.size + 1), 3, none⟩ (.int .i64 (-y.im.lo))).alloc (.cells #[.int .i64 z1.lo, .int .i64 z1.hi] 23)) (w.heap.size + 1) 25 #[.int .i64 y.re.lo, .int .i64 y.re.hi, .int .i64 (-y.im.hi), .int .i64 (-y.im.lo)] := by (with_reducible repeat' (first | assumption | (apply hdN; (try simp only [sA, sS, sD]); done) | apply hdA | apply hdD | apply hdS | (apply hdF; case hp => first | (simp; done) | (simp; omega)) | with_unfolding_all rfl))
      replace HO : Hd (((w1.setCell ⟨(w.heap.size + 1), 2, none⟩ (.int .i64 (-y.im.hi))).setCell ⟨(w.heap.size + 1), 3, none⟩ (.int .i64 (-y.im.lo))).alloc (.cells #[.int .i64 z1.lo, .int .i64 z1.hi] 23)) (w.heap.size + 2) 25 #[.int .i64 0, .int .i64 0, .int .i64 0, .int .i64 0] := by (with_reducible repeat' (first | assumption | (apply hdN; (try simp only [sA, sS, sD]); done) | apply hdA | apply hdD | apply hdS | (apply hdF; case hp => first | (simp; done) | (simp; omega)) | with_unfolding_all rfl))
      replace bw : But g w (((w1.setCell ⟨(w.heap.size + 1), 2, none⟩ (.int .i64 (-y.im.hi))).setCell ⟨(w.heap.size + 1), 3, none⟩ (.int .i64 (-y.im.lo))).alloc (.cells #[.int .i64 z1.lo, .int .i64 z1.hi] 23)) := by (with_reducible repeat' (first | assumption | exact But.refl _ _ | apply But.drew | apply But.alloc | (refine But.set ?_ ?hp _; case hp => first | (simp; done) | (simp; omega))))
      have HP : Hd (((w1.setCell ⟨(w.heap.size + 1), 2, none⟩ (.int .i64 (-y.im.hi))).setCell ⟨(w.heap.size + 1), 3, none⟩ (.int .i64 (-y.im.lo))).alloc (.cells #[.int .i64 z1.lo, .int .i64 z1.hi] 23)) w1.heap.size 23 #[.int .i64 z1.lo, .int .i64 z1.hi] := by (with_reducible repeat' (first | assumption | (apply hdN; (try simp only [sA, sS, sD]); done) | apply hdA | apply hdD | apply hdS | (apply hdF; case hp => first | (simp; done) | (simp; omega)) | with_unfolding_all rfl))
      have ltP := HP.lt
      refine (rmul_any x (En.conj y) hx okc 0 g _ HG).mono ?_
      rintro e w2 ⟨z2, e2, rfl, ok2, qq2, HG2, hb2⟩
      replace bw : But g w w2 := bw.trans hb2
      replace HA := HA.but hb2 (by omega)
      replace HB := HB.but hb2 (by omega)
      replace HO := HO.but hb2 (by omega)
      replace HP := HP.but hb2 (by omega)
      replace HG := HG2
      clear HG2
      replace qq2 := Lib.hid qq2
      have lw2 : w.heap.size ≤ w2.heap.size := bw.size
      clear hb2
      obtain ⟨hcG, hfG⟩ := HG.facts
      obtain ⟨hcA, hfA⟩ := HA.facts
      obtain ⟨hcB, hfB⟩ := HB.facts
      obtain ⟨hcO, hfO⟩ := HO.facts
      obtain ⟨hcP, hfP⟩ := HP.facts
      have ltG2 := HG.lt
      have ltA2 := HA.lt
      have ltB2 := HB.lt
      have ltO2 := HO.lt
      have ltP2 := HP.lt
      go_upto_region 6 with fail
      replace HG : Hd ((w2.alloc (.cells #[.int .i64 z2.re.lo, .int .i64 z2.re.hi, .int .i64 z2.im.lo, .int .i64 z2.im.hi] 25)).drew) g 83 #[.int .i64 e2] := by (with_reducible repeat' (first | assumption | (apply hdN; (try simp only [sA, sS, sD]); done) | apply hdA | apply hdD | apply hdS | (apply hdF; case hp => first | (simp; done) | (simp; omega)) | with_unfolding_all rfl))
      replace HA : Hd ((w2.alloc (.cells #[.int .i64 z2.re.lo, .int .i64 z2.re.hi, .int .i64 z2.im.lo, .int .i64 z2.im.hi] 25)).drew) w.heap.size 25 #[.int .i64 x.re.lo, .int .i64 x.re.hi, .int .i64 x.im.lo, .int .i64 x.im.hi] := by (with_reducible repeat' (first | assumption | (apply hdN; (try simp only [sA, sS, sD]); done) | apply hdA | apply hdD | apply hdS | (apply hdF; case hp => first | (simp; done) | (simp; omega)) | with_unfolding_all rfl))
      replace HB : Hd ((w2.alloc (.cells #[.int .i64 z2.re.lo, .int .i64 z2.re.hi, .int .i64 z2.im.lo, .int .i64 z2.im.hi] 25)).drew) (w.heap.size + 1) 25 #[.int .i64 y.re.lo, .int .i64 y.re.hi, .int .i64 (-y.im.hi), .int .i64 (-y.im.lo)] := by (with_reducible repeat' (first | assumption | (apply hdN; (try simp only [sA, sS, sD]); done) | apply hdA | apply hdD | apply hdS | (apply hdF; case hp => first | (simp; done) | (simp; omega)) | with_unfolding_all rfl))
      replace HO : Hd ((w2.alloc (.cells #[.int .i64 z2.re.lo, .int .i64 z2.re.hi, .int .i64 z2.im.lo, .int .i64 z2.im.hi] 25)).drew) (w.heap.size + 2) 25 #[.int .i64 0, .int .i64 0, .int .i64 0, .int .i64 0] := by (with_reducible repeat' (first | assumption | (apply hdN; (try simp only [sA, sS, sD]); done) | apply hdA | apply hdD | apply hdS | (apply hdF; case hp => first | (simp; done) | (simp; omega)) | with_unfolding_all rfl))
      replace HP : Hd ((w2.alloc (.cells #[.int .i64 z2.re.lo, .int .i64 z2.re.hi, .int .i64 z2.im.lo, .int .i64 z2.im.hi] 25)).drew) w1.heap.size 23 #[.int .i64 z1.lo, .int .i64 z1.hi] := by (with_reducible repeat' (first | assumption | (apply hdN; (try simp only [sA, sS, sD]); done) | apply hdA | apply hdD | apply hdS | (apply hdF; case hp => first | (simp; done) | (simp; omega)) | with_unfolding_all rfl))
      replace bw : But g w ((w2.alloc (.cells #[.int .i64 z2.re.lo, .int .i64 z2.re.hi, .int .i64 z2.im.lo, .int .i64 z2.im.hi] 25)).drew) := by (with_reducible repeat' (first | assumption | exact But.refl _ _ | apply But.drew | apply But.alloc | (refine But.set ?_ ?hp _; case hp => first | (simp; done) | (simp; omega))))
      have HZ : Hd ((w2.alloc (.cells #[.int .i64 z2.re.lo, .int .i64 z2.re.hi, .int .i64 z2.im.lo, .int .i64 z2.im.hi] 25)).drew) w2.heap.size 25 #[.int .i64 z2.re.lo, .int .i64 z2.re.hi, .int .i64 z2.im.lo, .int .i64 z2.im.hi] := by (with_reducible repeat' (first | assumption | (apply hdN; (try simp only [sA, sS, sD]); done) | apply hdA | apply hdD | apply hdS | (apply hdF; case hp => first | (simp; done) | (simp; omega)) | with_unfolding_all rfl))
      obtain ⟨okr, oki⟩ : z2.re.ok = true ∧ z2.im.ok = true := by have h := ok2; simp only [En.Rc.ok, Bool.and_eq_true] at h; exact h
      (refine wp_region_eag (fun w' => Hd w' w2.heap.size 25 #[.int .i64 z2.re.lo, .int .i64 z2.re.hi, .int .i64 z2.im.lo, .int .i64 z2.im.hi] ∧ Hd w' w1.heap.size 23 #[.int .i64 z1.lo, .int .i64 z1.hi] ∧ But g w w') [(0, true), (1, true), (2, true), (3, true), (5, true), (6, true), (7, true), (8, true), (4, false), (9, false), (10, true), (11, false)] (by kernel_rfl) (by kernel_rfl) (fun c d v a w h => by cases d <;> exact h) ⟨HZ, HP, bw⟩ ?_; simp only [List.map_cons, List.map_nil, List.getD_cons_zero, List.getD_cons_succ, flMark, Nat.reduceEqDiff, ↓reduceIte])
      repeat ((first | with_reducible apply eag_move | with_reducible apply eag_assign | ((with_reducible refine eag_soft (v := ?_) (fun w' hw' => ?_) ?_); rotate_left 1; (focus (obtain ⟨hZ, hP, hBw⟩ := hw'; obtain ⟨hcZ, hfZ⟩ := hZ.facts; obtain ⟨hcP, hfP⟩ := hP.facts; go_simp; (try with_reducible rfl); done)))); simp only [Act.put, Act.eval, List.setIfInBounds_toArray, List.set_cons_zero, List.set_cons_succ, Array.getD_eq_getD_getElem?, List.getElem?_toArray, List.getElem?_cons_zero, List.getElem?_cons_succ, Option.getD_some])
      refine eag_hard ?_
      go_wp2_with fail
      refine (wover_any z2.re z1 (En.Sp.fit_of_ok okr) (En.Sp.fit_of_ok ok1) e2 (fun h => ⟨hp0.out, hpl⟩) g _ HG).mono ?_
      rintro e w3 ⟨z3, e3, rfl, ok3, zz3, qq3, HG3, hb3⟩
      replace bw : But g w w3 := bw.trans hb3
      replace HA := HA.but hb3 (by omega)
      replace HB := HB.but hb3 (by omega)
      replace HO := HO.but hb3 (by omega)
      replace HP := HP.but hb3 (by omega)
      replace HZ := HZ.but hb3 (by omega)
      replace HG := HG3
      clear HG3
      replace qq3 := Lib.hid qq3
      replace zz3 := Lib.hid zz3
      have lw3 : w.heap.size ≤ w3.heap.size := bw.size
      clear hb3
      go_wp2_with fail
      (try refine ⟨⟨HZ, HP, bw⟩, ?_⟩)
      repeat ((first | with_reducible apply eag_move | with_reducible apply eag_assign | ((with_reducible refine eag_soft (v := ?_) (fun w' hw' => ?_) ?_); rotate_left 1; (focus (obtain ⟨hZ, hP, hBw⟩ := hw'; obtain ⟨hcZ, hfZ⟩ := hZ.facts; obtain ⟨hcP, hfP⟩ := hP.facts; go_simp; (try with_reducible rfl); done)))); simp only [Act.put, Act.eval, List.setIfInBounds_toArray, List.set_cons_zero, List.set_cons_succ, Array.getD_eq_getD_getElem?, List.getElem?_toArray, List.getElem?_cons_zero, List.getElem?_cons_succ, Option.getD_some])
      refine eag_hard ?_
      go_wp2_with fail
      refine (wover_any z2.im z1 (En.Sp.fit_of_ok oki) (En.Sp.fit_of_ok ok1) e3 (fun h => ⟨hp0.out, hpl⟩) g _ HG).mono ?_
      rintro e w4 ⟨z4, e4, rfl, ok4, zz4, qq4, HG4, hb4⟩
      replace bw : But g w w4 := bw.trans hb4
      replace HA := HA.but hb4 (by omega)
      replace HB := HB.but hb4 (by omega)
      replace HO := HO.but hb4 (by omega)
      replace HP := HP.but hb4 (by omega)
      replace HZ := HZ.but hb4 (by omega)
      replace HG := HG4
      clear HG4
      replace qq4 := Lib.hid qq4
      replace zz4 := Lib.hid zz4
      have lw4 : w.heap.size ≤ w4.heap.size := bw.size
      clear hb4
      go_wp2_with fail
      (try refine ⟨⟨HZ, HP, bw⟩, ?_⟩)
      repeat ((first | with_reducible apply eag_move | with_reducible apply eag_assign | ((with_reducible refine eag_soft (v := ?_) (fun w' hw' => ?_) ?_); rotate_left 1; (focus (obtain ⟨hZ, hP, hBw⟩ := hw'; obtain ⟨hcZ, hfZ⟩ := hZ.facts; obtain ⟨hcP, hfP⟩ := hP.facts; go_simp; (try with_reducible rfl); done)))); simp only [Act.put, Act.eval, List.setIfInBounds_toArray, List.set_cons_zero, List.set_cons_succ, Array.getD_eq_getD_getElem?, List.getElem?_toArray, List.getElem?_cons_zero, List.getElem?_cons_succ, Option.getD_some])
      obtain ⟨hcO, hfO⟩ := HO.facts
      refine eag_hard ?_
      go_wp2_with fail
      replace HG : Hd ((((w4.setCell ⟨(w.heap.size + 2), 0, none⟩ (.int .i64 z3.lo)).setCell ⟨(w.heap.size + 2), 1, none⟩ (.int .i64 z3.hi)).setCell ⟨(w.heap.size + 2), 2, none⟩ (.int .i64 z4.lo)).setCell ⟨(w.heap.size + 2), 3, none⟩ (.int .i64 z4.hi)) g 83 #[.int .i64 e4] := by (with_reducible repeat' (first | assumption | (apply hdN; (try simp only [sA, sS, sD]); done) | apply hdA | apply hdD | apply hdS | (apply hdF; case hp => first | (simp; done) | (simp; omega)) | with_unfolding_all rfl))
      replace HA : Hd ((((w4.setCell ⟨(w.heap.size + 2), 0, none⟩ (.int .i64 z3.lo)).setCell ⟨(w.heap.size + 2), 1, none⟩ (.int .i64 z3.hi)).setCell ⟨(w.heap.size + 2), 2, none⟩ (.int .i64 z4.lo)).setCell ⟨(w.heap.size + 2), 3, none⟩ (.int .i64 z4.hi)) w.heap.size 25 #[.int .i64 x.re.lo, .int .i64 x.re.hi, .int .i64 x.im.lo, .int .i64 x.im.hi] := by (with_reducible repeat' (first | assumption | (apply hdN; (try simp only [sA, sS, sD]); done) | apply hdA | apply hdD | apply hdS | (apply hdF; case hp => first | (simp; done) | (simp; omega)) | with_unfolding_all rfl))
      replace HB : Hd ((((w4.setCell ⟨(w.heap.size + 2), 0, none⟩ (.int .i64 z3.lo)).setCell ⟨(w.heap.size + 2), 1, none⟩ (.int .i64 z3.hi)).setCell ⟨(w.heap.size + 2), 2, none⟩ (.int .i64 z4.lo)).setCell ⟨(w.heap.size + 2), 3, none⟩ (.int .i64 z4.hi)) (w.heap.size + 1) 25 #[.int .i64 y.re.lo, .int .i64 y.re.hi, .int .i64 (-y.im.hi), .int .i64 (-y.im.lo)] := by (with_reducible repeat' (first | assumption | (apply hdN; (try simp only [sA, sS, sD]); done) | apply hdA | apply hdD | apply hdS | (apply hdF; case hp => first | (simp; done) | (simp; omega)) | with_unfolding_all rfl))
      replace HO : Hd ((((w4.setCell ⟨(w.heap.size + 2), 0, none⟩ (.int .i64 z3.lo)).setCell ⟨(w.heap.size + 2), 1, none⟩ (.int .i64 z3.hi)).setCell ⟨(w.heap.size + 2), 2, none⟩ (.int .i64 z4.lo)).setCell ⟨(w.heap.size + 2), 3, none⟩ (.int .i64 z4.hi)) (w.heap.size + 2) 25 #[.int .i64 z3.lo, .int .i64 z3.hi, .int .i64 z4.lo, .int .i64 z4.hi] := by (with_reducible repeat' (first | assumption | (apply hdN; (try simp only [sA, sS, sD]); done) | apply hdA | apply hdD | apply hdS | (apply hdF; case hp => first | (simp; done) | (simp; omega)) | with_unfolding_all rfl))
      replace HP : Hd ((((w4.setCell ⟨(w.heap.size + 2), 0, none⟩ (.int .i64 z3.lo)).setCell ⟨(w.heap.size + 2), 1, none⟩ (.int .i64 z3.hi)).setCell ⟨(w.heap.size + 2), 2, none⟩ (.int .i64 z4.lo)).setCell ⟨(w.heap.size + 2), 3, none⟩ (.int .i64 z4.hi)) w1.heap.size 23 #[.int .i64 z1.lo, .int .i64 z1.hi] := by (with_reducible repeat' (first | assumption | (apply hdN; (try simp only [sA, sS, sD]); done) | apply hdA | apply hdD | apply hdS | (apply hdF; case hp => first | (simp; done) | (simp; omega)) | with_unfolding_all rfl))
      replace HZ : Hd ((((w4.setCell ⟨(w.heap.size + 2), 0, none⟩ (.int .i64 z3.lo)).setCell ⟨(w.heap.size + 2), 1, none⟩ (.int .i64 z3.hi)).setCell ⟨(w.heap.size + 2), 2, none⟩ (.int .i64 z4.lo)).setCell ⟨(w.heap.size + 2), 3, none⟩ (.int .i64 z4.hi)) w2.heap.size 25 #[.int .i64 z2.re.lo, .int .i64 z2.re.hi, .int .i64 z2.im.lo, .int .i64 z2.im.hi] := by (with_reducible repeat' (first | assumption | (apply hdN; (try simp only [sA, sS, sD]); done) | apply hdA | apply hdD | apply hdS | (apply hdF; case hp => first | (simp; done) | (simp; omega)) | with_unfolding_all rfl))
      replace bw : But g w ((((w4.setCell ⟨(w.heap.size + 2), 0, none⟩ (.int .i64 z3.lo)).setCell ⟨(w.heap.size + 2), 1, none⟩ (.int .i64 z3.hi)).setCell ⟨(w.heap.size + 2), 2, none⟩ (.int .i64 z4.lo)).setCell ⟨(w.heap.size + 2), 3, none⟩ (.int .i64 z4.hi)) := by (with_reducible repeat' (first | assumption | exact But.refl _ _ | apply But.drew | apply But.alloc | (refine But.set ?_ ?hp _; case hp => first | (simp; done) | (simp; omega))))
      (try refine ⟨⟨HZ, HP, bw⟩, ?_⟩)
      refine eag_nil ?_
      go_wp2
      refine bodyPost_ret (run_results1 rfl rfl (by (show Hd _ (w.heap.size + 2) 25 #[.int .i64 z3.lo, .int .i64 z3.hi, .int .i64 z4.lo, .int .i64 z4.hi]); (with_reducible repeat' (first | assumption | (apply hdN; (try simp only [sA, sS, sD]); done) | apply hdA | apply hdD | apply hdS | (apply hdF; case hp => first | (simp; done) | (simp; omega)) | with_unfolding_all rfl))) Try.underlying25 rfl (by kernel_rfl)) rfl ⟨⟨z3, z4⟩, e4, rfl, En.Rc.ok_mk ok3 ok4, qq1.out.bind (by rw [if_neg (by have := hp0.out; omega)]; exact qq2.out.bind (qq3.out.bind (qq4.out.bind (En.Stk.pure _ _)))), by (with_reducible repeat' (first | assumption | (apply hdN; (try simp only [sA, sS, sD]); done) | apply hdA | apply hdD | apply hdS | (apply hdF; case hp => first | (simp; done) | (simp; omega)) | with_unfolding_all rfl)), by (with_reducible repeat' (first | assumption | exact But.refl _ _ | apply But.drew | apply But.alloc | (refine But.set ?_ ?hp _; case hp => first | (simp; done) | (simp; omega))))⟩
  · have hne := Lib.hid he
    go_wp2_with fail
    replace HG : Hd (((w1.setCell ⟨(w.heap.size + 1), 2, none⟩ (.int .i64 (-y.im.hi))).setCell ⟨(w.heap.size + 1), 3, none⟩ (.int .i64 (-y.im.lo))).alloc (.cells #[.int .i64 z1.lo, .int .i64 z1.hi] 23)) g 83 #[.int .i64 e1] := by (with_reducible repeat' (first | assumption | (apply hdN; (try simp only [sA, sS, sD]); done) | apply hdA | apply hdD | apply hdS | (apply hdF; case hp => first | (simp; done) | (simp; omega)) | with_unfolding_all rfl))
    replace HA : Hd (((w1.setCell ⟨(w.heap.size + 1), 2, none⟩ (.int .i64 (-y.im.hi))).setCell ⟨(w.heap.size + 1), 3, none⟩ (.int .i64 (-y.im.lo))).alloc (.cells #[.int .i64 z1.lo, .int .i64 z1.hi] 23)) w.heap.size 25 #[.int .i64 x.re.lo, .int .i64 x.re.hi, .int .i64 x.im.lo, .int .i64 x.im.hi] := by (with_reducible repeat' (first | assumption | (apply hdN; (try simp only [sA, sS, sD]); done) | apply hdA | apply hdD | apply hdS | (apply hdF; case hp => first | (simp; done) | (simp; omega)) | with_unfolding_all rfl))
    replace HB : Hd (((w1.setCell ⟨(w.heap.size + 1), 2, none⟩ (.int .i64 (-y.im.hi))).setCell ⟨(w.heap.size + 1), 3, none⟩ (.int .i64 (-y.im.lo))).alloc (.cells #[.int .i64 z1.lo, .int .i64 z1.hi] 23)) (w.heap.size + 1) 25 #[.int .i64 y.re.lo, .int .i64 y.re.hi, .int .i64 (-y.im.hi), .int .i64 (-y.im.lo)] := by (with_reducible repeat' (first | assumption | (apply hdN; (try simp only [sA, sS, sD]); done) | apply hdA | apply hdD | apply hdS | (apply hdF; case hp => first | (simp; done) | (simp; omega)) | with_unfolding_all rfl))
    replace HO : Hd (((w1.setCell ⟨(w.heap.size + 1), 2, none⟩ (.int .i64 (-y.im.hi))).setCell ⟨(w.heap.size + 1), 3, none⟩ (.int .i64 (-y.im.lo))).alloc (.cells #[.int .i64 z1.lo, .int .i64 z1.hi] 23)) (w.heap.size + 2) 25 #[.int .i64 0, .int .i64 0, .int .i64 0, .int .i64 0] := by (with_reducible repeat' (first | assumption | (apply hdN; (try simp only [sA, sS, sD]); done) | apply hdA | apply hdD | apply hdS | (apply hdF; case hp => first | (simp; done) | (simp; omega)) | with_unfolding_all rfl))
    replace bw : But g w (((w1.setCell ⟨(w.heap.size + 1), 2, none⟩ (.int .i64 (-y.im.hi))).setCell ⟨(w.heap.size + 1), 3, none⟩ (.int .i64 (-y.im.lo))).alloc (.cells #[.int .i64 z1.lo, .int .i64 z1.hi] 23)) := by (with_reducible repeat' (first | assumption | exact But.refl _ _ | apply But.drew | apply But.alloc | (refine But.set ?_ ?hp _; case hp => first | (simp; done) | (simp; omega))))
    have HP : Hd (((w1.setCell ⟨(w.heap.size + 1), 2, none⟩ (.int .i64 (-y.im.hi))).setCell ⟨(w.heap.size + 1), 3, none⟩ (.int .i64 (-y.im.lo))).alloc (.cells #[.int .i64 z1.lo, .int .i64 z1.hi] 23)) w1.heap.size 23 #[.int .i64 z1.lo, .int .i64 z1.hi] := by (with_reducible repeat' (first | assumption | (apply hdN; (try simp only [sA, sS, sD]); done) | apply hdA | apply hdD | apply hdS | (apply hdF; case hp => first | (simp; done) | (simp; omega)) | with_unfolding_all rfl))
    have ltP := HP.lt
    refine (rmul_any x (En.conj y) hx okc e1 g _ HG).mono ?_
    rintro e w2 ⟨z2, e2, rfl, ok2, qq2, HG2, hb2⟩
    replace bw : But g w w2 := bw.trans hb2
    replace HA := HA.but hb2 (by omega)
    replace HB := HB.but hb2 (by omega)
    replace HO := HO.but hb2 (by omega)
    replace HP := HP.but hb2 (by omega)
    replace HG := HG2
    clear HG2
    replace qq2 := Lib.hid qq2
    have lw2 : w.heap.size ≤ w2.heap.size := bw.size
    clear hb2
    obtain ⟨hcG, hfG⟩ := HG.facts
    obtain ⟨hcA, hfA⟩ := HA.facts
    obtain ⟨hcB, hfB⟩ := HB.facts
    obtain ⟨hcO, hfO⟩ := HO.facts
    obtain ⟨hcP, hfP⟩ := HP.facts
    have ltG2 := HG.lt
    have ltA2 := HA.lt
    have ltB2 := HB.lt
    have ltO2 := HO.lt
    have ltP2 := HP.lt
    go_upto_region 6 with fail
    replace HG : Hd ((w2.alloc (.cells #[.int .i64 z2.re.lo, .int .i64 z2.re.hi, .int .i64 z2.im.lo, .int .i64 z2.im.hi] 25)).drew) g 83 #[.int .i64 e2] := by (with_reducible repeat' (first | assumption | (apply hdN; (try simp only [sA, sS, sD]); done) | apply hdA | apply hdD | apply hdS | (apply hdF; case hp => first | (simp; done) | (simp; omega)) | with_unfolding_all rfl))
    replace HA : Hd ((w2.alloc (.cells #[.int .i64 z2.re.lo, .int .i64 z2.re.hi, .int .i64 z2.im.lo, .int .i64 z2.im.hi] 25)).drew) w.heap.size 25 #[.int .i64 x.re.lo, .int .i64 x.re.hi, .int .i64 x.im.lo, .int .i64 x.im.hi] := by (with_reducible repeat' (first | assumption | (apply hdN; (try simp only [sA, sS, sD]); done) | apply hdA | apply hdD | apply hdS | (apply hdF; case hp => first | (simp; done) | (simp; omega)) | with_unfolding_all rfl))
    replace HB : Hd ((w2.alloc (.cells #[.int .i64 z2.re.lo, .int .i64 z2.re.hi, .int .i64 z2.im.lo, .int .i64 z2.im.hi] 25)).drew) (w.heap.size + 1) 25 #[.int .i64 y.re.lo, .int .i64 y.re.hi, .int .i64 (-y.im.hi), .int .i64 (-y.im.lo)] := by (with_reducible repeat' (first | assumption | (apply hdN; (try simp only [sA, sS, sD]); done) | apply hdA | apply hdD | apply hdS | (apply hdF; case hp => first | (simp; done) | (simp; omega)) | with_unfolding_all rfl))
    replace HO : Hd ((w2.alloc (.cells #[.int .i64 z2.re.lo, .int .i64 z2.re.hi, .int .i64 z2.im.lo, .int .i64 z2.im.hi] 25)).drew) (w.heap.size + 2) 25 #[.int .i64 0, .int .i64 0, .int .i64 0, .int .i64 0] := by (with_reducible repeat' (first | assumption | (apply hdN; (try simp only [sA, sS, sD]); done) | apply hdA | apply hdD | apply hdS | (apply hdF; case hp => first | (simp; done) | (simp; omega)) | with_unfolding_all rfl))
    replace HP : Hd ((w2.alloc (.cells #[.int .i64 z2.re.lo, .int .i64 z2.re.hi, .int .i64 z2.im.lo, .int .i64 z2.im.hi] 25)).drew) w1.heap.size 23 #[.int .i64 z1.lo, .int .i64 z1.hi] := by (with_reducible repeat' (first | assumption | (apply hdN; (try simp only [sA, sS, sD]); done) | apply hdA | apply hdD | apply hdS | (apply hdF; case hp => first | (simp; done) | (simp; omega)) | with_unfolding_all rfl))
    replace bw : But g w ((w2.alloc (.cells #[.int .i64 z2.re.lo, .int .i64 z2.re.hi, .int .i64 z2.im.lo, .int .i64 z2.im.hi] 25)).drew) := by (with_reducible repeat' (first | assumption | exact But.refl _ _ | apply But.drew | apply But.alloc | (refine But.set ?_ ?hp _; case hp => first | (simp; done) | (simp; omega))))
    have HZ : Hd ((w2.alloc (.cells #[.int .i64 z2.re.lo, .int .i64 z2.re.hi, .int .i64 z2.im.lo, .int .i64 z2.im.hi] 25)).drew) w2.heap.size 25 #[.int .i64 z2.re.lo, .int .i64 z2.re.hi, .int .i64 z2.im.lo, .int .i64 z2.im.hi] := by (with_reducible repeat' (first | assumption | (apply hdN; (try simp only [sA, sS, sD]); done) | apply hdA | apply hdD | apply hdS | (apply hdF; case hp => first | (simp; done) | (simp; omega)) | with_unfolding_all rfl))
    obtain ⟨okr, oki⟩ : z2.re.ok = true ∧ z2.im.ok = true := by have h := ok2; simp only [En.Rc.ok, Bool.and_eq_true] at h; exact h
    (refine wp_region_eag (fun w' => Hd w' w2.heap.size 25 #[.int .i64 z2.re.lo, .int .i64 z2.re.hi, .int .i64 z2.im.lo, .int .i64 z2.im.hi] ∧ Hd w' w1.heap.size 23 #[.int .i64 z1.lo, .int .i64 z1.hi] ∧ But g w w') [(0, true), (1, true), (2, true), (3, true), (5, true), (6, true), (7, true), (8, true), (4, false), (9, false), (10, true), (11, false)] (by kernel_rfl) (by kernel_rfl) (fun c d v a w h => by cases d <;> exact h) ⟨HZ, HP, bw⟩ ?_; simp only [List.map_cons, List.map_nil, List.getD_cons_zero, List.getD_cons_succ, flMark, Nat.reduceEqDiff, ↓reduceIte])
    repeat ((first | with_reducible apply eag_move | with_reducible apply eag_assign | ((with_reducible refine eag_soft (v := ?_) (fun w' hw' => ?_) ?_); rotate_left 1; (focus (obtain ⟨hZ, hP, hBw⟩ := hw'; obtain ⟨hcZ, hfZ⟩ := hZ.facts; obtain ⟨hcP, hfP⟩ := hP.facts; go_simp; (try with_reducible rfl); done)))); simp only [Act.put, Act.eval, List.setIfInBounds_toArray, List.set_cons_zero, List.set_cons_succ, Array.getD_eq_getD_getElem?, List.getElem?_toArray, List.getElem?_cons_zero, List.getElem?_cons_succ, Option.getD_some])
    refine eag_hard ?_
    go_wp2_with fail
    refine (wover_any z2.re z1 (En.Sp.fit_of_ok okr) (En.Sp.fit_of_ok ok1) e2 (fun h => absurd h (by rw [En.Stk.stays qq2.out hne.out]; exact hne.out)) g _ HG).mono ?_
    rintro e w3 ⟨z3, e3, rfl, ok3, zz3, qq3, HG3, hb3⟩
    replace bw : But g w w3 := bw.trans hb3
    replace HA := HA.but hb3 (by omega)
    replace HB := HB.but hb3 (by omega)
    replace HO := HO.but hb3 (by omega)
    replace HP := HP.but hb3 (by omega)
    replace HZ := HZ.but hb3 (by omega)
    replace HG := HG3
    clear HG3
    replace qq3 := Lib.hid qq3
    replace zz3 := Lib.hid zz3
    have lw3 : w.heap.size ≤ w3.heap.size := bw.size
    clear hb3
    go_wp2_with fail
    (try refine ⟨⟨HZ, HP, bw⟩, ?_⟩)
    repeat ((first | with_reducible apply eag_move | with_reducible apply eag_assign | ((with_reducible refine eag_soft (v := ?_) (fun w' hw' => ?_) ?_); rotate_left 1; (focus (obtain ⟨hZ, hP, hBw⟩ := hw'; obtain ⟨hcZ, hfZ⟩ := hZ.facts; obtain ⟨hcP, hfP⟩ := hP.facts; go_simp; (try with_reducible rfl); done)))); simp only [Act.put, Act.eval, List.setIfInBounds_toArray, List.set_cons_zero, List.set_cons_succ, Array.getD_eq_getD_getElem?, List.getElem?_toArray, List.getElem?_cons_zero, List.getElem?_cons_succ, Option.getD_some])
    refine eag_hard ?_
    go_wp2_with fail
    refine (wover_any z2.im z1 (En.Sp.fit_of_ok oki) (En.Sp.fit_of_ok ok1) e3 (fun h => absurd h (by rw [En.Stk.stays qq3.out (by rw [En.Stk.stays qq2.out hne.out]; exact hne.out), En.Stk.stays qq2.out hne.out]; exact hne.out)) g _ HG).mono ?_
    rintro e w4 ⟨z4, e4, rfl, ok4, zz4, qq4, HG4, hb4⟩
    replace bw : But g w w4 := bw.trans hb4
    replace HA := HA.but hb4 (by omega)
    replace HB := HB.but hb4 (by omega)
    replace HO := HO.but hb4 (by omega)
    replace HP := HP.but hb4 (by omega)
    replace HZ := HZ.but hb4 (by omega)
    replace HG := HG4
    clear HG4
    replace qq4 := Lib.hid qq4
    replace zz4 := Lib.hid zz4
    have lw4 : w.heap.size ≤ w4.heap.size := bw.size
    clear hb4
    go_wp2_with fail
    (try refine ⟨⟨HZ, HP, bw⟩, ?_⟩)
    repeat ((first | with_reducible apply eag_move | with_reducible apply eag_assign | ((with_reducible refine eag_soft (v := ?_) (fun w' hw' => ?_) ?_); rotate_left 1; (focus (obtain ⟨hZ, hP, hBw⟩ := hw'; obtain ⟨hcZ, hfZ⟩ := hZ.facts; obtain ⟨hcP, hfP⟩ := hP.facts; go_simp; (try with_reducible rfl); done)))); simp only [Act.put, Act.eval, List.setIfInBounds_toArray, List.set_cons_zero, List.set_cons_succ, Array.getD_eq_getD_getElem?, List.getElem?_toArray, List.getElem?_cons_zero, List.getElem?_cons_succ, Option.getD_some])
    obtain ⟨hcO, hfO⟩ := HO.facts
    refine eag_hard ?_
    go_wp2_with fail
    replace HG : Hd ((((w4.setCell ⟨(w.heap.size + 2), 0, none⟩ (.int .i64 z3.lo)).setCell ⟨(w.heap.size + 2), 1, none⟩ (.int .i64 z3.hi)).setCell ⟨(w.heap.size + 2), 2, none⟩ (.int .i64 z4.lo)).setCell ⟨(w.heap.size + 2), 3, none⟩ (.int .i64 z4.hi)) g 83 #[.int .i64 e4] := by (with_reducible repeat' (first | assumption | (apply hdN; (try simp only [sA, sS, sD]); done) | apply hdA | apply hdD | apply hdS | (apply hdF; case hp => first | (simp; done) | (simp; omega)) | with_unfolding_all rfl))
    replace HA : Hd ((((w4.setCell ⟨(w.heap.size + 2), 0, none⟩ (.int .i64 z3.lo)).setCell ⟨(w.heap.size + 2), 1, none⟩ (.int .i64 z3.hi)).setCell ⟨(w.heap.size + 2), 2, none⟩ (.int .i64 z4.lo)).setCell ⟨(w.heap.size + 2), 3, none⟩ (.int .i64 z4.hi)) w.heap.size 25 #[.int .i64 x.re.lo, .int .i64 x.re.hi, .int .i64 x.im.lo, .int .i64 x.im.hi] := by (with_reducible repeat' (first | assumption | (apply hdN; (try simp only [sA, sS, sD]); done) | apply hdA | apply hdD | apply hdS | (apply hdF; case hp => first | (simp; done) | (simp; omega)) | with_unfolding_all rfl))
    replace HB : Hd ((((w4.setCell ⟨(w.heap.size + 2), 0, none⟩ (.int .i64 z3.lo)).setCell ⟨(w.heap.size + 2), 1, none⟩ (.int .i64 z3.hi)).setCell ⟨(w.heap.size + 2), 2, none⟩ (.int .i64 z4.lo)).setCell ⟨(w.heap.size + 2), 3, none⟩ (.int .i64 z4.hi)) (w.heap.size + 1) 25 #[.int .i64 y.re.lo, .int .i64 y.re.hi, .int .i64 (-y.im.hi), .int .i64 (-y.im.lo)] := by (with_reducible repeat' (first | assumption | (apply hdN; (try simp only [sA, sS, sD]); done) | apply hdA | apply hdD | apply hdS | (apply hdF; case hp => first | (simp; done) | (simp; omega)) | with_unfolding_all rfl))
    replace HO : Hd ((((w4.setCell ⟨(w.heap.size + 2), 0, none⟩ (.int .i64 z3.lo)).setCell ⟨(w.heap.size + 2), 1, none⟩ (.int .i64 z3.hi)).setCell ⟨(w.heap.size + 2), 2, none⟩ (.int .i64 z4.lo)).setCell ⟨(w.heap.size + 2), 3, none⟩ (.int .i64 z4.hi)) (w.heap.size + 2) 25 #[.int .i64 z3.lo, .int .i64 z3.hi, .int .i64 z4.lo, .int .i64 z4.hi] := by (with_reducible repeat' (first | assumption | (apply hdN; (try simp only [sA, sS, sD]); done) | apply hdA | apply hdD | apply hdS | (apply hdF; case hp => first | (simp; done) | (simp; omega)) | with_unfolding_all rfl))
    replace HP : Hd ((((w4.setCell ⟨(w.heap.size + 2), 0, none⟩ (.int .i64 z3.lo)).setCell ⟨(w.heap.size + 2), 1, none⟩ (.int .i64 z3.hi)).setCell ⟨(w.heap.size + 2), 2, none⟩ (.int .i64 z4.lo)).setCell ⟨(w.heap.size + 2), 3, none⟩ (.int .i64 z4.hi)) w1.heap.size 23 #[.int .i64 z1.lo, .int .i64 z1.hi] := by (with_reducible repeat' (first | assumption | (apply hdN; (try simp only [sA, sS, sD]); done) | apply hdA | apply hdD | apply hdS | (apply hdF; case hp => first | (simp; done) | (simp; omega)) | with_unfolding_all rfl))
    replace HZ : Hd ((((w4.setCell ⟨(w.heap.size + 2), 0, none⟩ (.int .i64 z3.lo)).setCell ⟨(w.heap.size + 2), 1, none⟩ (.int .i64 z3.hi)).setCell ⟨(w.heap.size + 2), 2, none⟩ (.int .i64 z4.lo)).setCell ⟨(w.heap.size + 2), 3, none⟩ (.int .i64 z4.hi)) w2.heap.size 25 #[.int .i64 z2.re.lo, .int .i64 z2.re.hi, .int .i64 z2.im.lo, .int .i64 z2.im.hi] := by (with_reducible repeat' (first | assumption | (apply hdN; (try simp only [sA, sS, sD]); done) | apply hdA | apply hdD | apply hdS | (apply hdF; case hp => first | (simp; done) | (simp; omega)) | with_unfolding_all rfl))
    replace bw : But g w ((((w4.setCell ⟨(w.heap.size + 2), 0, none⟩ (.int .i64 z3.lo)).setCell ⟨(w.heap.size + 2), 1, none⟩ (.int .i64 z3.hi)).setCell ⟨(w.heap.size + 2), 2, none⟩ (.int .i64 z4.lo)).setCell ⟨(w.heap.size + 2), 3, none⟩ (.int .i64 z4.hi)) := by (with_reducible repeat' (first | assumption | exact But.refl _ _ | apply But.drew | apply But.alloc | (refine But.set ?_ ?hp _; case hp => first | (simp; done) | (simp; omega))))
    (try refine ⟨⟨HZ, HP, bw⟩, ?_⟩)
    refine eag_nil ?_
    go_wp2
    refine bodyPost_ret (run_results1 rfl rfl (by (show Hd _ (w.heap.size + 2) 25 #[.int .i64 z3.lo, .int .i64 z3.hi, .int .i64 z4.lo, .int .i64 z4.hi]); (with_reducible repeat' (first | assumption | (apply hdN; (try simp only [sA, sS, sD]); done) | apply hdA | apply hdD | apply hdS | (apply hdF; case hp => first | (simp; done) | (simp; omega)) | with_unfolding_all rfl))) Try.underlying25 rfl (by kernel_rfl)) rfl ⟨⟨z3, z4⟩, e4, rfl, En.Rc.ok_mk ok3 ok4, qq1.out.bind (.inr ⟨hne.out, by rw [En.Stk.stays qq4.out (by rw [En.Stk.stays qq3.out (by rw [En.Stk.stays qq2.out hne.out]; exact hne.out), En.Stk.stays qq2.out hne.out]; exact hne.out), En.Stk.stays qq3.out (by rw [En.Stk.stays qq2.out hne.out]; exact hne.out), En.Stk.stays qq2.out hne.out]⟩), by (with_reducible repeat' (first | assumption | (apply hdN; (try simp only [sA, sS, sD]); done) | apply hdA | apply hdD | apply hdS | (apply hdF; case hp => first | (simp; done) | (simp; omega)) | with_unfolding_all rfl)), by (with_reducible repeat' (first | assumption | exact But.refl _ _ | apply But.drew | apply But.alloc | (refine But.set ?_ ?hp _; case hp => first | (simp; done) | (simp; omega))))⟩

theorem rtwo_div (x y : En.Rc) (w : World) :
    Calls Try.prog 48 #[rcV x, rcV y] w fun e w' => e = .returned (rcE (twoR En.quotient x y)) ∧ Below w.heap.size w w' := by
  have CV := rboth_any x y
  cases hv : (x.ok && y.ok) with
  | false =>
    have ht : twoR En.quotient x y = (⟨⟨0, 0⟩, ⟨0, 0⟩⟩, 50) := by unfold twoR; rw [hv]; rfl
    rw [hv] at CV
    rw [ht]
    replace CV := Lib.hid CV
    clear hv ht
    go_enter Try.func48, Try.ntmps48
    go_wp2_with fail
    have HA : Hd (((w.alloc (.cells #[.int .i64 x.re.lo, .int .i64 x.re.hi, .int .i64 x.im.lo, .int .i64 x.im.hi] 25)).alloc (.cells #[.int .i64 y.re.lo, .int .i64 y.re.hi, .int .i64 y.im.lo, .int .i64 y.im.hi] 25)).alloc (.cells #[.int .i64 0, .int .i64 0, .int .i64 0, .int .i64 0] 25)) w.heap.size 25 #[.int .i64 x.re.lo, .int .i64 x.re.hi, .int .i64 x.im.lo, .int .i64 x.im.hi] := by (with_reducible repeat' (first | assumption | (apply hdN; (try simp only [sA, sS, sD]); done) | apply hdA | apply hdD | apply hdS | (apply hdF; case hp => first | (simp; done) | (simp; omega)) | with_unfolding_all rfl))
    have HB : Hd (((w.alloc (.cells #[.int .i64 x.re.lo, .int .i64 x.re.hi, .int .i64 x.im.lo, .int .i64 x.im.hi] 25)).alloc (.cells #[.int .i64 y.re.lo, .int .i64 y.re.hi, .int .i64 y.im.lo, .int .i64 y.im.hi] 25)).alloc (.cells #[.int .i64 0, .int .i64 0, .int .i64 0, .int .i64 0] 25)) (w.heap.size + 1) 25 #[.int .i64 y.re.lo, .int .i64 y.re.hi, .int .i64 y.im.lo, .int .i64 y.im.hi] := by (with_reducible repeat' (first | assumption | (apply hdN; (try simp only [sA, sS, sD]); done) | apply hdA | apply hdD | apply hdS | (apply hdF; case hp => first | (simp; done) | (simp; omega)) | with_unfolding_all rfl))
    have HO : Hd (((w.alloc (.cells #[.int .i64 x.re.lo, .int .i64 x.re.hi, .int .i64 x.im.lo, .int .i64 x.im.hi] 25)).alloc (.cells #[.int .i64 y.re.lo, .int .i64 y.re.hi, .int .i64 y.im.lo, .int .i64 y.im.hi] 25)).alloc (.cells #[.int .i64 0, .int .i64 0, .int .i64 0, .int .i64 0] 25)) (w.heap.size + 2) 25 #[.int .i64 0, .int .i64 0, .int .i64 0, .int .i64 0] := by (with_reducible repeat' (first | assumption | (apply hdN; (try simp only [sA, sS, sD]); done) | apply hdA | apply hdD | apply hdS | (apply hdF; case hp => first | (simp; done) | (simp; omega)) | with_unfolding_all rfl))
    have bw : Below w.heap.size w (((w.alloc (.cells #[.int .i64 x.re.lo, .int .i64 x.re.hi, .int .i64 x.im.lo, .int .i64 x.im.hi] 25)).alloc (.cells #[.int .i64 y.re.lo, .int .i64 y.re.hi, .int .i64 y.im.lo, .int .i64 y.im.hi] 25)).alloc (.cells #[.int .i64 0, .int .i64 0, .int .i64 0, .int .i64 0] 25)) := by go_grown
    refine (CV.out _).mono ?_
    rintro e w1 ⟨rfl, hb1⟩
    replace bw : Below w.heap.size w w1 := below_next bw hb1
    replace HA := HA.call hb1
    replace HB := HB.call hb1
    replace HO := HO.call hb1
    have lw1 : w.heap.size ≤ w1.heap.size := bw.size
    clear hb1
    obtain ⟨hcA, hfA⟩ := HA.facts
    obtain ⟨hcB, hfB⟩ := HB.facts
    obtain ⟨hcO, hfO⟩ := HO.facts
    go_wp2
    refine bodyPost_ret (run_results2 rfl rfl (by (show Hd _ (w.heap.size + 2) 25 #[.int .i64 0, .int .i64 0, .int .i64 0, .int .i64 0]); (with_reducible repeat' (first | assumption | (apply hdN; (try simp only [sA, sS, sD]); done) | apply hdA | apply hdD | apply hdS | (apply hdF; case hp => first | (simp; done) | (simp; omega)) | with_unfolding_all rfl))) Try.underlying25 rfl (by kernel_rfl)) rfl ⟨rfl, by go_grown⟩
  | true =>
    have ht : twoR En.quotient x y = outR (En.quotient x y) := by unfold twoR; rw [hv]; rfl
    rw [hv] at CV
    rw [ht]
    replace CV := Lib.hid CV
    have hop' := Lib.hid (rdiv_any x y (by cases h : x.ok <;> simp_all) (by cases h : y.ok <;> simp_all))
    clear hv ht
    go_enter Try.func48, Try.ntmps48
    go_wp2_with fail
    have HA : Hd (((w.alloc (.cells #[.int .i64 x.re.lo, .int .i64 x.re.hi, .int .i64 x.im.lo, .int .i64 x.im.hi] 25)).alloc (.cells #[.int .i64 y.re.lo, .int .i64 y.re.hi, .int .i64 y.im.lo, .int .i64 y.im.hi] 25)).alloc (.cells #[.int .i64 0, .int .i64 0, .int .i64 0, .int .i64 0] 25)) w.heap.size 25 #[.int .i64 x.re.lo, .int .i64 x.re.hi, .int .i64 x.im.lo, .int .i64 x.im.hi] := by (with_reducible repeat' (first | assumption | (apply hdN; (try simp only [sA, sS, sD]); done) | apply hdA | apply hdD | apply hdS | (apply hdF; case hp => first | (simp; done) | (simp; omega)) | with_unfolding_all rfl))
    have HB : Hd (((w.alloc (.cells #[.int .i64 x.re.lo, .int .i64 x.re.hi, .int .i64 x.im.lo, .int .i64 x.im.hi] 25)).alloc (.cells #[.int .i64 y.re.lo, .int .i64 y.re.hi, .int .i64 y.im.lo, .int .i64 y.im.hi] 25)).alloc (.cells #[.int .i64 0, .int .i64 0, .int .i64 0, .int .i64 0] 25)) (w.heap.size + 1) 25 #[.int .i64 y.re.lo, .int .i64 y.re.hi, .int .i64 y.im.lo, .int .i64 y.im.hi] := by (with_reducible repeat' (first | assumption | (apply hdN; (try simp only [sA, sS, sD]); done) | apply hdA | apply hdD | apply hdS | (apply hdF; case hp => first | (simp; done) | (simp; omega)) | with_unfolding_all rfl))
    have HO : Hd (((w.alloc (.cells #[.int .i64 x.re.lo, .int .i64 x.re.hi, .int .i64 x.im.lo, .int .i64 x.im.hi] 25)).alloc (.cells #[.int .i64 y.re.lo, .int .i64 y.re.hi, .int .i64 y.im.lo, .int .i64 y.im.hi] 25)).alloc (.cells #[.int .i64 0, .int .i64 0, .int .i64 0, .int .i64 0] 25)) (w.heap.size + 2) 25 #[.int .i64 0, .int .i64 0, .int .i64 0, .int .i64 0] := by (with_reducible repeat' (first | assumption | (apply hdN; (try simp only [sA, sS, sD]); done) | apply hdA | apply hdD | apply hdS | (apply hdF; case hp => first | (simp; done) | (simp; omega)) | with_unfolding_all rfl))
    have bw : Below w.heap.size w (((w.alloc (.cells #[.int .i64 x.re.lo, .int .i64 x.re.hi, .int .i64 x.im.lo, .int .i64 x.im.hi] 25)).alloc (.cells #[.int .i64 y.re.lo, .int .i64 y.re.hi, .int .i64 y.im.lo, .int .i64 y.im.hi] 25)).alloc (.cells #[.int .i64 0, .int .i64 0, .int .i64 0, .int .i64 0] 25)) := by go_grown
    refine (CV.out _).mono ?_
    rintro e w1 ⟨rfl, hb1⟩
    replace bw : Below w.heap.size w w1 := below_next bw hb1
    replace HA := HA.call hb1
    replace HB := HB.call hb1
    replace HO := HO.call hb1
    have lw1 : w.heap.size ≤ w1.heap.size := bw.size
    clear hb1
    obtain ⟨hcA, hfA⟩ := HA.facts
    obtain ⟨hcB, hfB⟩ := HB.facts
    obtain ⟨hcO, hfO⟩ := HO.facts
    have ltA := HA.lt
    have ltB := HB.lt
    have ltO := HO.lt
    go_wp2_with fail
    replace HA : Hd (w1.alloc (.cells #[.int .i64 0] 83)) w.heap.size 25 #[.int .i64 x.re.lo, .int .i64 x.re.hi, .int .i64 x.im.lo, .int .i64 x.im.hi] := by (with_reducible repeat' (first | assumption | (apply hdN; (try simp only [sA, sS, sD]); done) | apply hdA | apply hdD | apply hdS | (apply hdF; case hp => first | (simp; done) | (simp; omega)) | with_unfolding_all rfl))
    replace HB : Hd (w1.alloc (.cells #[.int .i64 0] 83)) (w.heap.size + 1) 25 #[.int .i64 y.re.lo, .int .i64 y.re.hi, .int .i64 y.im.lo, .int .i64 y.im.hi] := by (with_reducible repeat' (first | assumption | (apply hdN; (try simp only [sA, sS, sD]); done) | apply hdA | apply hdD | apply hdS | (apply hdF; case hp => first | (simp; done) | (simp; omega)) | with_unfolding_all rfl))
    replace HO : Hd (w1.alloc (.cells #[.int .i64 0] 83)) (w.heap.size + 2) 25 #[.int .i64 0, .int .i64 0, .int .i64 0, .int .i64 0] := by (with_reducible repeat' (first | assumption | (apply hdN; (try simp only [sA, sS, sD]); done) | apply hdA | apply hdD | apply hdS | (apply hdF; case hp => first | (simp; done) | (simp; omega)) | with_unfolding_all rfl))
    replace bw : Below w.heap.size w (w1.alloc (.cells #[.int .i64 0] 83)) := by go_grown
    have HG : Hd (w1.alloc (.cells #[.int .i64 0] 83)) w1.heap.size 83 #[.int .i64 0] := by (with_reducible repeat' (first | assumption | (apply hdN; (try simp only [sA, sS, sD]); done) | apply hdA | apply hdD | apply hdS | (apply hdF; case hp => first | (simp; done) | (simp; omega)) | with_unfolding_all rfl))
    refine (hop'.out 0 _ _ HG).mono ?_
    rintro e w2 ⟨z, e1, rfl, okz, qq, HG2, hb2⟩
    replace qq := Lib.hid qq
    replace bw : Below w.heap.size w w2 := But.far bw hb2 (by omega) (by simp only [World.size_alloc]; omega)
    replace HA := HA.but hb2 (by omega)
    replace HB := HB.but hb2 (by omega)
    replace HO := HO.but hb2 (by omega)
    have ltG := HG2.lt
    have lw2 : w.heap.size ≤ w2.heap.size := bw.size
    clear hb2 HG
    have HG := HG2
    clear HG2
    obtain ⟨hcA, hfA⟩ := HA.facts
    obtain ⟨hcB, hfB⟩ := HB.facts
    obtain ⟨hcO, hfO⟩ := HO.facts
    obtain ⟨hcG, hfG⟩ := HG.facts
    have ltA2 := HA.lt
    have ltB2 := HB.lt
    have ltO2 := HO.lt
    go_wp2_with fail
    replace HA : Hd (w2.alloc (.cells #[.int .i64 z.re.lo, .int .i64 z.re.hi, .int .i64 z.im.lo, .int .i64 z.im.hi] 25)) w.heap.size 25 #[.int .i64 x.re.lo, .int .i64 x.re.hi, .int .i64 x.im.lo, .int .i64 x.im.hi] := by (with_reducible repeat' (first | assumption | (apply hdN; (try simp only [sA, sS, sD]); done) | apply hdA | apply hdD | apply hdS | (apply hdF; case hp => first | (simp; done) | (simp; omega)) | with_unfolding_all rfl))
    replace HB : Hd (w2.alloc (.cells #[.int .i64 z.re.lo, .int .i64 z.re.hi, .int .i64 z.im.lo, .int .i64 z.im.hi] 25)) (w.heap.size + 1) 25 #[.int .i64 y.re.lo, .int .i64 y.re.hi, .int .i64 y.im.lo, .int .i64 y.im.hi] := by (with_reducible repeat' (first | assumption | (apply hdN; (try simp only [sA, sS, sD]); done) | apply hdA | apply hdD | apply hdS | (apply hdF; case hp => first | (simp; done) | (simp; omega)) | with_unfolding_all rfl))
    replace HO : Hd (w2.alloc (.cells #[.int .i64 z.re.lo, .int .i64 z.re.hi, .int .i64 z.im.lo, .int .i64 z.im.hi] 25)) (w.heap.size + 2) 25 #[.int .i64 0, .int .i64 0, .int .i64 0, .int .i64 0] := by (with_reducible repeat' (first | assumption | (apply hdN; (try simp only [sA, sS, sD]); done) | apply hdA | apply hdD | apply hdS | (apply hdF; case hp => first | (simp; done) | (simp; omega)) | with_unfolding_all rfl))
    replace HG : Hd (w2.alloc (.cells #[.int .i64 z.re.lo, .int .i64 z.re.hi, .int .i64 z.im.lo, .int .i64 z.im.hi] 25)) w1.heap.size 83 #[.int .i64 e1] := by (with_reducible repeat' (first | assumption | (apply hdN; (try simp only [sA, sS, sD]); done) | apply hdA | apply hdD | apply hdS | (apply hdF; case hp => first | (simp; done) | (simp; omega)) | with_unfolding_all rfl))
    replace bw : Below w.heap.size w (w2.alloc (.cells #[.int .i64 z.re.lo, .int .i64 z.re.hi, .int .i64 z.im.lo, .int .i64 z.im.hi] 25)) := by go_grown
    have HZ : Hd (w2.alloc (.cells #[.int .i64 z.re.lo, .int .i64 z.re.hi, .int .i64 z.im.lo, .int .i64 z.im.hi] 25)) w2.heap.size 25 #[.int .i64 z.re.lo, .int .i64 z.re.hi, .int .i64 z.im.lo, .int .i64 z.im.hi] := by (with_reducible repeat' (first | assumption | (apply hdN; (try simp only [sA, sS, sD]); done) | apply hdA | apply hdD | apply hdS | (apply hdF; case hp => first | (simp; done) | (simp; omega)) | with_unfolding_all rfl))
    refine (rdone_any z e1 _ _ HG).mono ?_
    rintro e w3 ⟨rfl, hb3⟩
    replace bw : Below w.heap.size w w3 := below_next bw hb3
    replace HA := HA.call hb3
    replace HB := HB.call hb3
    replace HO := HO.call hb3
    replace HG := HG.call hb3
    replace HZ := HZ.call hb3
    have lw3 : w.heap.size ≤ w3.heap.size := bw.size
    clear hb3
    obtain ⟨hcO, hfO⟩ := HO.facts
    rcases qq.out.zero with ⟨hr, rfl⟩ | ⟨hr, hne⟩
    · rw [if_pos rfl]
      go_wp2
      refine bodyPost_ret (run_results2 rfl rfl (by (show Hd _ (w.heap.size + 2) 25 #[.int .i64 z.re.lo, .int .i64 z.re.hi, .int .i64 z.im.lo, .int .i64 z.im.hi]); (with_reducible repeat' (first | assumption | (apply hdN; (try simp only [sA, sS, sD]); done) | apply hdA | apply hdD | apply hdS | (apply hdF; case hp => first | (simp; done) | (simp; omega)) | with_unfolding_all rfl))) Try.underlying25 rfl (by kernel_rfl)) rfl ⟨by rw [hr]; rfl, by go_grown⟩
    · rw [if_neg hne]
      go_wp2
      refine bodyPost_ret (run_results2 rfl rfl (by (show Hd _ (w.heap.size + 2) 25 #[.int .i64 0, .int .i64 0, .int .i64 0, .int .i64 0]); (with_reducible repeat' (first | assumption | (apply hdN; (try simp only [sA, sS, sD]); done) | apply hdA | apply hdD | apply hdS | (apply hdF; case hp => first | (simp; done) | (simp; omega)) | with_unfolding_all rfl))) Try.underlying25 rfl (by kernel_rfl)) rfl ⟨by rw [hr]; rfl, by go_grown⟩
end Go.Proofs.Ytpbbbfglecbceaa
