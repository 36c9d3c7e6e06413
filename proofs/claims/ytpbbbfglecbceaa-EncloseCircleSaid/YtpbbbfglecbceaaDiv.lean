/- math/bits.Div64 gives the quotient and the remainder, for a high word below the divisor. -/
import Derived.Test.YtpbbbfglecbceaaBits
import Derived.Test.YtpbbbfglecbceaaDivPl
namespace Go.Proofs.Ytpbbbfglecbceaa
set_option linter.all false
open Go.RowKit

theorem mask32 (a : Int) (h0 : 0 ≤ a) (h1 : a ≤ 18446744073709551615) : bits .and .u64 a 4294967295 = a % 4294967296 := by
  obtain ⟨n, rfl⟩ := Int.eq_ofNat_of_zero_le h0
  rw [Mul64.maskN n (by omega)]
  omega

set_option maxRecDepth 100000 in
set_option maxHeartbeats 2000000 in
theorem div64_walk (hi lo y s Y U L Yh Yl Lh Ll q0 r0 T R q0' r0' T' R' B : Int) (h1 : 0 < hi) (h2 : hi < y) (h3 : y ≤ 18446744073709551615) (l0 : 0 ≤ lo) (l1 : lo ≤ 18446744073709551615)
   (C : Hid (∀ w, Calls Try.prog 152 #[.int .u64 y] w fun e w' => e = .returned (.int .i64 s) ∧ w = w')) (s0 : 0 ≤ s) (s1 : s ≤ 63)
   (eY : IntKind.u64.wrap (y * 2 ^ s.toNat) = Y) (Y0 : 9223372036854775808 ≤ Y) (Y1 : Y ≤ 18446744073709551615)
   (eU : bits .or .u64 (IntKind.u64.wrap (hi * 2 ^ s.toNat)) (lo / 2 ^ (64 - s).toNat) = U) (U0 : 0 ≤ U) (U1 : U ≤ 18446744073709551615)
   (eL : IntKind.u64.wrap (lo * 2 ^ s.toNat) = L) (L0 : 0 ≤ L) (L1 : L ≤ 18446744073709551615)
   (eYh : Y / 4294967296 = Yh) (eYl : bits .and .u64 Y 4294967295 = Yl) (eLh : L / 4294967296 = Lh) (eLl : bits .and .u64 L 4294967295 = Ll)
   (Yh0 : 2147483648 ≤ Yh) (Yh1 : Yh ≤ 4294967295) (Yl0 : 0 ≤ Yl) (Yl1 : Yl ≤ 4294967295) (Lh0 : 0 ≤ Lh) (Lh1 : Lh ≤ 4294967295) (Ll0 : 0 ≤ Ll) (Ll1 : Ll ≤ 4294967295)
   (eq0 : U / Yh = q0) (er0 : IntKind.u64.wrap (U - IntKind.u64.wrap (q0 * Yh)) = r0)
   (eR : IntKind.u64.wrap (IntKind.u64.wrap (IntKind.u64.wrap (U * 4294967296) + Lh) - IntKind.u64.wrap (T * Y)) = R) (R0 : 0 ≤ R) (R1 : R ≤ 18446744073709551615)
   (eq0' : R / Yh = q0') (er0' : IntKind.u64.wrap (R - IntKind.u64.wrap (q0' * Yh)) = r0')
   (Ta : 0 ≤ T) (Tb : T ≤ 4294967295) (Ta' : 0 ≤ T') (Tb' : T' ≤ 4294967295)
   (eR' : IntKind.u64.wrap (IntKind.u64.wrap (IntKind.u64.wrap (R * 4294967296) + Ll) - IntKind.u64.wrap (T' * Y)) = R') (R0' : 0 ≤ R') (R1' : R' ≤ 18446744073709551615)
   (eB : R' / 2 ^ s.toNat = B)
   (I : Int → Int → Prop) (I' : Int → Int → Prop)
   (Ist : Hid (I q0 r0)) (Ist' : Hid (I' q0' r0'))
   (Ib : Hid (∀ q r, I q r → 0 ≤ q ∧ q ≤ 4294967297 ∧ 0 ≤ r ∧ r ≤ 4294967295 ∧ (q < 4294967296 → 0 ≤ q * Yl ∧ q * Yl ≤ 18446744073709551615)))
   (Ib' : Hid (∀ q r, I' q r → 0 ≤ q ∧ q ≤ 4294967297 ∧ 0 ≤ r ∧ r ≤ 4294967295 ∧ (q < 4294967296 → 0 ≤ q * Yl ∧ q * Yl ≤ 18446744073709551615)))
   (Iok : Hid (∀ q r, I q r → q < 4294967296 → q * Yl ≤ 4294967296 * r + Lh → q = T))
   (Iok' : Hid (∀ q r, I' q r → q < 4294967296 → q * Yl ≤ 4294967296 * r + Ll → q = T'))
   (Ino : Hid (∀ q r, I q r → (4294967296 ≤ q ∨ 4294967296 * r + Lh < q * Yl) → 1 ≤ q ∧ (r + Yh ≤ 4294967295 → I (q - 1) (r + Yh)) ∧ (4294967296 ≤ r + Yh → q - 1 = T)))
   (Ino' : Hid (∀ q r, I' q r → (4294967296 ≤ q ∨ 4294967296 * r + Ll < q * Yl) → 1 ≤ q ∧ (r + Yh ≤ 4294967295 → I' (q - 1) (r + Yh)) ∧ (4294967296 ≤ r + Yh → q - 1 = T')))
   (w : World) :
    Calls Try.prog 148 #[.int .u64 hi, .int .u64 lo, .int .u64 y] w fun e w' => e = .returned (.tuple #[.int .u64 (T * 4294967296 + T'), .int .u64 B]) ∧ w = w' := by
  have y0 : 0 ≤ y := by omega
  have t1 : (y == 0) = false := by simp; omega
  have t2 : decide (y ≤ hi) = false := by simp; omega
  have t3 : (hi == 0) = false := by simp; omega
  have hi0 : 0 ≤ hi := by omega
  go_enter Try.func148, Try.ntmps148
  go_wp2_with (go_at_call 152; refine (C.out _).mono ?_; rintro e w' ⟨rfl, rfl⟩)
  go_loop [15, 16] (fun a b => ∃ q r : Int, I q r ∧ a = .int .u64 q ∧ b = .int .u64 r) (fun a _ => (intOf a).toNat)
  case atStart => exact ⟨_, _, Ist.out, by first | rfl | rw [eq0], rfl⟩
  case round =>
    obtain ⟨q, r, hI, rfl, rfl⟩ := hrel
    obtain ⟨b1, b2, b3, b4, b5⟩ := Ib.out q r hI
    have HI := Lib.hid hI
    clear hI
    by_cases hyes : 4294967296 ≤ q ∨ 4294967296 * r + Lh < q * Yl
    · obtain ⟨n1, n2, n3⟩ := Ino.out q r HI.out hyes
      have N2 := Lib.hid n2
      have N3 := Lib.hid n3
      clear n2 n3
      by_cases hq : 4294967296 ≤ q
      · have hq' : decide (4294967296 ≤ q) = true := by simpa using hq
        clear b5 hyes
        by_cases hr : r + Yh ≤ 4294967295
        · have N4 := Lib.hid (N2.out hr)
          go_wp2
          go_round
          case rel => exact ⟨_, _, N4.out, rfl, rfl⟩
          case measure => simp [intOf]; omega
        · have e := N3.out (by omega)
          go_wp2
          go_loop [18, 16] (fun a b => ∃ q r : Int, I' q r ∧ a = .int .u64 q ∧ b = .int .u64 r) (fun a _ => (intOf a).toNat)
          case atStart => exact ⟨_, _, Ist'.out, by first | rfl | rw [eq0'], rfl⟩
          case round =>
            obtain ⟨q', r', hI', rfl, rfl⟩ := hrel
            obtain ⟨b1', b2', b3', b4', b5'⟩ := Ib'.out q' r' hI'
            have HI' := Lib.hid hI'
            clear hI'
            by_cases hyes : 4294967296 ≤ q' ∨ 4294967296 * r' + Ll < q' * Yl
            · obtain ⟨n1, n2, n3⟩ := Ino'.out q' r' HI'.out hyes
              have N2' := Lib.hid n2
              have N3' := Lib.hid n3
              clear n2 n3
              by_cases hq' : 4294967296 ≤ q'
              · have hq2 : decide (4294967296 ≤ q') = true := by simpa using hq'
                clear b5' hyes
                by_cases hr' : r' + Yh ≤ 4294967295
                · have N4' := Lib.hid (N2'.out hr')
                  go_wp2
                  go_round
                  case rel => exact ⟨_, _, N4'.out, rfl, rfl⟩
                  case measure => simp [intOf]; omega
                · have e' := N3'.out (by omega)
                  go_wp2
                  go_ret2
                  exact ⟨rfl, rfl⟩
              · have hq2 : decide (4294967296 ≤ q') = false := by simpa using hq'
                have hlt' : 4294967296 * r' + Ll < q' * Yl := by omega
                obtain ⟨b6', b7'⟩ := b5' (by omega)
                clear b5' hyes
                by_cases hr' : r' + Yh ≤ 4294967295
                · have N4' := Lib.hid (N2'.out hr')
                  go_wp2
                  go_round
                  case rel => exact ⟨_, _, N4'.out, rfl, rfl⟩
                  case measure => simp [intOf]; omega
                · have e' := N3'.out (by omega)
                  go_wp2
                  go_ret2
                  exact ⟨rfl, rfl⟩
            · have hq' : q' < 4294967296 := by omega
              have hq2 : decide (4294967296 ≤ q') = false := by simp; omega
              have hle' : q' * Yl ≤ 4294967296 * r' + Ll := by omega
              obtain ⟨b6', b7'⟩ := b5' hq'
              obtain rfl := Iok'.out q' r' HI'.out hq' hle'
              clear b5' hyes
              go_wp2
              go_ret2
              exact ⟨rfl, rfl⟩
      · have hq' : decide (4294967296 ≤ q) = false := by simpa using hq
        have hlt : 4294967296 * r + Lh < q * Yl := by omega
        obtain ⟨b6, b7⟩ := b5 (by omega)
        clear b5 hyes
        by_cases hr : r + Yh ≤ 4294967295
        · have N4 := Lib.hid (N2.out hr)
          go_wp2
          go_round
          case rel => exact ⟨_, _, N4.out, rfl, rfl⟩
          case measure => simp [intOf]; omega
        · have e := N3.out (by omega)
          go_wp2
          go_loop [18, 16] (fun a b => ∃ q r : Int, I' q r ∧ a = .int .u64 q ∧ b = .int .u64 r) (fun a _ => (intOf a).toNat)
          case atStart => exact ⟨_, _, Ist'.out, by first | rfl | rw [eq0'], rfl⟩
          case round =>
            obtain ⟨q', r', hI', rfl, rfl⟩ := hrel
            obtain ⟨b1', b2', b3', b4', b5'⟩ := Ib'.out q' r' hI'
            have HI' := Lib.hid hI'
            clear hI'
            by_cases hyes : 4294967296 ≤ q' ∨ 4294967296 * r' + Ll < q' * Yl
            · obtain ⟨n1, n2, n3⟩ := Ino'.out q' r' HI'.out hyes
              have N2' := Lib.hid n2
              have N3' := Lib.hid n3
              clear n2 n3
              by_cases hq' : 4294967296 ≤ q'
              · have hq2 : decide (4294967296 ≤ q') = true := by simpa using hq'
                clear b5' hyes
                by_cases hr' : r' + Yh ≤ 4294967295
                · have N4' := Lib.hid (N2'.out hr')
                  go_wp2
                  go_round
                  case rel => exact ⟨_, _, N4'.out, rfl, rfl⟩
                  case measure => simp [intOf]; omega
                · have e' := N3'.out (by omega)
                  go_wp2
                  go_ret2
                  exact ⟨rfl, rfl⟩
              · have hq2 : decide (4294967296 ≤ q') = false := by simpa using hq'
                have hlt' : 4294967296 * r' + Ll < q' * Yl := by omega
                obtain ⟨b6', b7'⟩ := b5' (by omega)
                clear b5' hyes
                by_cases hr' : r' + Yh ≤ 4294967295
                · have N4' := Lib.hid (N2'.out hr')
                  go_wp2
                  go_round
                  case rel => exact ⟨_, _, N4'.out, rfl, rfl⟩
                  case measure => simp [intOf]; omega
                · have e' := N3'.out (by omega)
                  go_wp2
                  go_ret2
                  exact ⟨rfl, rfl⟩
            · have hq' : q' < 4294967296 := by omega
              have hq2 : decide (4294967296 ≤ q') = false := by simp; omega
              have hle' : q' * Yl ≤ 4294967296 * r' + Ll := by omega
              obtain ⟨b6', b7'⟩ := b5' hq'
              obtain rfl := Iok'.out q' r' HI'.out hq' hle'
              clear b5' hyes
              go_wp2
              go_ret2
              exact ⟨rfl, rfl⟩
    · have hq : q < 4294967296 := by omega
      have hq' : decide (4294967296 ≤ q) = false := by simp; omega
      have hle : q * Yl ≤ 4294967296 * r + Lh := by omega
      obtain ⟨b6, b7⟩ := b5 hq
      obtain rfl := Iok.out q r HI.out hq hle
      clear b5 hyes
      go_wp2
      go_loop [18, 16] (fun a b => ∃ q r : Int, I' q r ∧ a = .int .u64 q ∧ b = .int .u64 r) (fun a _ => (intOf a).toNat)
      case atStart => exact ⟨_, _, Ist'.out, by first | rfl | rw [eq0'], rfl⟩
      case round =>
        obtain ⟨q', r', hI', rfl, rfl⟩ := hrel
        obtain ⟨b1', b2', b3', b4', b5'⟩ := Ib'.out q' r' hI'
        have HI' := Lib.hid hI'
        clear hI'
        by_cases hyes : 4294967296 ≤ q' ∨ 4294967296 * r' + Ll < q' * Yl
        · obtain ⟨n1, n2, n3⟩ := Ino'.out q' r' HI'.out hyes
          have N2' := Lib.hid n2
          have N3' := Lib.hid n3
          clear n2 n3
          by_cases hq' : 4294967296 ≤ q'
          · have hq2 : decide (4294967296 ≤ q') = true := by simpa using hq'
            clear b5' hyes
            by_cases hr' : r' + Yh ≤ 4294967295
            · have N4' := Lib.hid (N2'.out hr')
              go_wp2
              go_round
              case rel => exact ⟨_, _, N4'.out, rfl, rfl⟩
              case measure => simp [intOf]; omega
            · have e' := N3'.out (by omega)
              go_wp2
              go_ret2
              exact ⟨rfl, rfl⟩
          · have hq2 : decide (4294967296 ≤ q') = false := by simpa using hq'
            have hlt' : 4294967296 * r' + Ll < q' * Yl := by omega
            obtain ⟨b6', b7'⟩ := b5' (by omega)
            clear b5' hyes
            by_cases hr' : r' + Yh ≤ 4294967295
            · have N4' := Lib.hid (N2'.out hr')
              go_wp2
              go_round
              case rel => exact ⟨_, _, N4'.out, rfl, rfl⟩
              case measure => simp [intOf]; omega
            · have e' := N3'.out (by omega)
              go_wp2
              go_ret2
              exact ⟨rfl, rfl⟩
        · have hq' : q' < 4294967296 := by omega
          have hq2 : decide (4294967296 ≤ q') = false := by simp; omega
          have hle' : q' * Yl ≤ 4294967296 * r' + Ll := by omega
          obtain ⟨b6', b7'⟩ := b5' hq'
          obtain rfl := Iok'.out q' r' HI'.out hq' hle'
          clear b5' hyes
          go_wp2
          go_ret2
          exact ⟨rfl, rfl⟩

/-- math/bits.Div64 for a high word that is not 0. -/
theorem div64_pos (hi lo y : Int) (h1 : 0 < hi) (h2 : hi < y) (h3 : y ≤ 18446744073709551615) (l0 : 0 ≤ lo) (l1 : lo ≤ 18446744073709551615) (w : World) :
    Calls Try.prog 148 #[.int .u64 hi, .int .u64 lo, .int .u64 y] w fun e w' => e = .returned (.tuple #[.int .u64 ((hi * 18446744073709551616 + lo) / y), .int .u64 ((hi * 18446744073709551616 + lo) % y)]) ∧ w = w' := by
  obtain ⟨s, hs⟩ : ∃ s : Int, s = 64 - (Lib.bitLen y.toNat : Int) := ⟨_, rfl⟩
  obtain ⟨s0, s1, n1, n2⟩ := DivPl.norm y (by omega) h3 s hs
  obtain ⟨p, hp'⟩ : ∃ p : Int, p = 2 ^ s.toNat := ⟨_, rfl⟩
  obtain ⟨q, hq'⟩ : ∃ q : Int, q = 2 ^ (64 - s).toNat := ⟨_, rfl⟩
  obtain ⟨U, hU⟩ : ∃ U : Int, U = hi * p + lo / q := ⟨_, rfl⟩
  obtain ⟨L, hL⟩ : ∃ L : Int, L = lo * p % 18446744073709551616 := ⟨_, rfl⟩
  rw [← hp'] at n1 n2
  obtain ⟨hp, eU, eL, hUL, U0, UY, L0, L1⟩ := DivPl.moved hi lo y s h2 (by omega) l0 l1 s0 s1 p q U L hp' hq' n2 hU hL
  obtain ⟨Y, hY⟩ : ∃ Y : Int, Y = y * p := ⟨_, rfl⟩
  rw [← hY] at n1 n2 UY
  have dig : DivPl.Dig U Y (L / 4294967296) := ⟨U0, UY, n1, n2, by omega, by omega⟩
  obtain ⟨T, hT⟩ : ∃ T : Int, T = (U * 4294967296 + L / 4294967296) / Y := ⟨_, rfl⟩
  obtain ⟨eR, R0, R1⟩ := DivPl.left dig hT
  obtain ⟨R, hR⟩ : ∃ R : Int, R = (U * 4294967296 + L / 4294967296) % Y := ⟨_, rfl⟩
  rw [← hR] at eR R0 R1
  have dig' : DivPl.Dig R Y (L % 4294967296) := ⟨R0, R1, n1, n2, by omega, by omega⟩
  obtain ⟨T', hT'⟩ : ∃ T' : Int, T' = (R * 4294967296 + L % 4294967296) / Y := ⟨_, rfl⟩
  obtain ⟨eR', R0', R1'⟩ := DivPl.left dig' hT'
  obtain ⟨bo1, bo2⟩ := DivPl.both hp hY (by omega) hUL hR hT hT'
  have tb := DivPl.tlt dig
  have tb' := DivPl.tlt dig'
  rw [← hT] at tb
  rw [← hT'] at tb'
  have st := DivPl.start dig
  have st' := DivPl.start dig'
  have hlz : Hid (∀ w, Calls Try.prog 152 #[.int .u64 y] w fun e w' => e = .returned (.int .i64 s) ∧ w = w') := by
    have c := lz64_any y (by omega) h3
    rw [← hs] at c
    exact c
  have ey : Y % 4294967296 = Y - Y / 4294967296 * 4294967296 := by omega
  refine (div64_walk hi lo y s Y U L (Y / 4294967296) (Y % 4294967296) (L / 4294967296) (L % 4294967296) (U / (Y / 4294967296)) (U - U / (Y / 4294967296) * (Y / 4294967296)) T R
    (R / (Y / 4294967296)) (R - R / (Y / 4294967296) * (Y / 4294967296)) T' ((R * 4294967296 + L % 4294967296) % Y) ((R * 4294967296 + L % 4294967296) % Y / p) h1 h2 h3 l0 l1 hlz s0 s1
    (by rw [← hp', IntKind.wrap_u64, hY]; omega) n1 n2 (by rw [← hp', ← hq']; exact eU) U0 (by omega) (by rw [← hp']; exact eL) L0 L1
    rfl (mask32 Y (by omega) n2) rfl (mask32 L L0 L1) (by omega) (by omega) (by omega) (by omega) (by omega) (by omega) (by omega) (by omega)
    rfl ?_ eR R0 (by omega) rfl ?_ tb.1 tb.2 tb'.1 tb'.2 eR' R0' (by omega) (by rw [← hp'])
    (DivPl.Inv U Y (L / 4294967296)) (DivPl.Inv R Y (L % 4294967296)) st st'
    (fun q r h => ?_) (fun q r h => ?_) (fun q r h hq ht => (DivPl.right dig h ht).trans hT.symm) (fun q r h hq ht => (DivPl.right dig' h ht).trans hT'.symm)
    (fun q r h ht => ⟨(DivPl.less dig h ht).2.2, fun hr => DivPl.again dig h ht hr, fun hr => (DivPl.stop dig h ht hr).trans hT.symm⟩)
    (fun q r h ht => ⟨(DivPl.less dig' h ht).2.2, fun hr => DivPl.again dig' h ht hr, fun hr => (DivPl.stop dig' h ht hr).trans hT'.symm⟩) w).mono fun e w' ⟨he, hw⟩ => ⟨?_, hw⟩
  · have := st.r0; have := st.r1; have := st.q1; have := st.eq
    simp only [IntKind.wrap_u64]
    generalize U / (Y / 4294967296) * (Y / 4294967296) = z at *
    omega
  · have := st'.r0; have := st'.r1; have := st'.q1; have := st'.eq
    simp only [IntKind.wrap_u64]
    generalize R / (Y / 4294967296) * (Y / 4294967296) = z at *
    omega
  · have := DivPl.tlt dig
    exact ⟨by have := h.ge; omega, h.q1, h.r0, h.r1, fun hq => (DivPl.test_in dig h hq).2⟩
  · have := DivPl.tlt dig'
    exact ⟨by have := h.ge; omega, h.q1, h.r0, h.r1, fun hq => (DivPl.test_in dig' h hq).2⟩
  · rw [he, bo1, bo2]

theorem div64_zero (lo y : Int) (h2 : 0 < y) (h3 : y ≤ 18446744073709551615) (l0 : 0 ≤ lo) (l1 : lo ≤ 18446744073709551615) (w : World) :
    Calls Try.prog 148 #[.int .u64 0, .int .u64 lo, .int .u64 y] w fun e w' => e = .returned (.tuple #[.int .u64 (lo / y), .int .u64 (lo % y)]) ∧ Below w.heap.size w w' := by
  have t1 : (y == 0) = false := by simp; omega
  have t2 : decide (y ≤ 0) = false := by simp; omega
  have y1 : y ≠ 0 := by omega
  go_enter Try.func148, Try.ntmps148
  go_wp2
  go_quiet (fail)
  go_wp2
  go_ret2
  exact ⟨rfl, below_drewN (Below.refl _ _) _⟩

/-- math/bits.Div64. -/
theorem div64_any (hi lo y : Int) (h1 : 0 ≤ hi) (h2 : hi < y) (h3 : y ≤ 18446744073709551615) (l0 : 0 ≤ lo) (l1 : lo ≤ 18446744073709551615) (w : World) :
    Calls Try.prog 148 #[.int .u64 hi, .int .u64 lo, .int .u64 y] w fun e w' => e = .returned (.tuple #[.int .u64 ((hi * 18446744073709551616 + lo) / y), .int .u64 ((hi * 18446744073709551616 + lo) % y)]) ∧ Below w.heap.size w w' := by
  by_cases h : hi = 0
  · subst h
    refine (div64_zero lo y (by omega) h3 l0 l1 w).mono fun e w' ⟨he, hw⟩ => ⟨?_, hw⟩
    rw [he]; simp
  · refine (div64_pos hi lo y (by omega) h2 h3 l0 l1 w).mono fun e w' ⟨he, hw⟩ => ⟨he, ?_⟩
    subst hw; exact Below.refl _ _
end Go.Proofs.Ytpbbbfglecbceaa
