/- Wider rectangles have wider powers, and wider spans wider roots, where there is no error: for all of them. -/
import Derived.Test.YtpbbbfglecbceaaRows
import Derived.Test.YtpbbbfglecbceaaFlat
import Derived.Test.YtpbbbfglecbceaaEn17
import Derived.Test.YtpbbbfglecbceaaEn21
import Derived.Test.YtpbbbfglecbceaaHoPl
import Derived.Test.YtpbbbfglecbceaaFlat2
import Derived.Deep.Cut
import Derived.Deep.CutRange
import Derived.Test.YtpbbbfglecbceaaLFHolds
import Derived.WalkKit
import Derived.ProofKit
import Derived.OpenShut
namespace Go.Proofs.Ytpbbbfglecbceaa
set_option linter.all false
open Go.ChangeShapes Go.WideShapes Go.ChangeAt Go.RowKit
namespace LawHolds

theorem u16_wf {n : Int} (h : (Lit.int .u16 n).wf = true) : 0 ≤ n ∧ n ≤ 65535 := by
  simp [Lit.wf, IntKind.min, IntKind.max, IntKind.signed, IntKind.bits] at h
  omega
set_option maxRecDepth 20000 in
theorem open_u16x4 {H : Type} {enc : TypeId × Value → H} {w W : World} {r : Reach} {b0 base : Nat} {spare : Nat → Bool} {held : Bool} {v : Value} {dd : DataW H} {ps : List MemPlace} (h : Value.okWide Try.prog w r b0 54 v)
    (ht : DataW.Trod enc Try.prog W base spare held 54 v dd ps) : ∃ a b c d : Int, v = .agg #[.int .u16 a, .int .u16 b, .int .u16 c, .int .u16 d] ∧ (0 ≤ a ∧ a ≤ 65535) ∧ (0 ≤ b ∧ b ≤ 65535) ∧ (0 ≤ c ∧ c ≤ 65535) ∧ (0 ≤ d ∧ d ≤ 65535) := by
  simp only [Value.okWide, Try.underlying54] at h
  obtain ⟨cs, rfl, hs, -⟩ := h
  have hs' : cs.size = 4 := hs.trans (by kernel_rfl)
  obtain ⟨fuel, hf⟩ := ht
  obtain ⟨xs, m, -, -, -, hl, hx⟩ := DataW.trod_array Try.underlying54 hf
  have hc : Try.prog.cellsOf 53 = 1 := by kernel_rfl
  have g : ∀ i, i < 4 → ∃ n, cs.toList[i]? = some (.int .u16 n) ∧ 0 ≤ n ∧ n ≤ 65535 := by
    intro i hi
    have h1 := hx i hi
    rw [hc, Nat.mul_one] at h1
    have h2 : xs[i]? = some (xs[i]'(by omega)) := by simp [hl, hi]
    rw [h2] at h1
    obtain ⟨n, hn, -, hw⟩ := DataW.trod_int Try.underlying53 h1
    refine ⟨n, ?_, u16_wf hw⟩
    have h3 : ((cs.toList.drop i).take 1)[0]? = some (.int .u16 n) := by
      have : ((cs.toList.drop i).take 1) = [.int .u16 n] := hn
      rw [this]; rfl
    simpa using h3
  obtain ⟨a, ha, ba⟩ := g 0 (by omega)
  obtain ⟨b, hb, bb⟩ := g 1 (by omega)
  obtain ⟨c, hc', bc⟩ := g 2 (by omega)
  obtain ⟨d, hd, bd⟩ := g 3 (by omega)
  refine ⟨a, b, c, d, ?_, ba, bb, bc, bd⟩
  congr 1
  apply Array.ext_getElem?
  intro i
  rcases Nat.lt_or_ge i 4 with hi | hi
  · have : i = 0 ∨ i = 1 ∨ i = 2 ∨ i = 3 := by omega
    rw [← Array.getElem?_toList]
    rcases this with rfl | rfl | rfl | rfl
    · rw [ha]; rfl
    · rw [hb]; rfl
    · rw [hc']; rfl
    · rw [hd]; rfl
  · rw [Array.getElem?_eq_none (by omega), Array.getElem?_eq_none (by simpa using hi)]

theorem inB_sub {x y : En.Rc} (h : inB x y = true) : x.ok = true ∧ y.ok = true ∧ En.Sub x.re y.re ∧ En.Sub x.im y.im := by
  simp only [inB, En.within, Bool.and_eq_true, decide_eq_true_eq] at h
  obtain ⟨⟨h1, h2⟩, ⟨h3, h4⟩, h5, h6⟩ := h
  exact ⟨h1, h2, ⟨h3, h4⟩, ⟨h5, h6⟩⟩
theorem sub_inB {a b : En.Sp} (ha : a.ok = true) (hb : b.ok = true) (h : En.Sub a b) : inB ⟨a, ⟨0, 0⟩⟩ ⟨b, ⟨0, 0⟩⟩ = true := by
  obtain ⟨h1, h2⟩ := h
  have e1 : (⟨a, ⟨0, 0⟩⟩ : En.Rc).ok = true := En.Rc.ok_mk ha (by decide)
  have e2 : (⟨b, ⟨0, 0⟩⟩ : En.Rc).ok = true := En.Rc.ok_mk hb (by decide)
  simp [inB, e1, e2, En.within, h1, h2]
theorem outS_ok {r : En.R En.Sp} {a : En.Sp} {e : Int} (h : outS r = (a, e)) (he : e = 0) (hr : r ≠ .error 0) : r = .ok a := by
  cases r with
  | ok z => cases h; rfl
  | error c => cases h; exact absurd (by rw [he]) hr
theorem span_ne {l h : Int} : En.span l h ≠ .error 0 := by
  unfold En.span
  split
  · intro h; cases h
  · intro h; injection h with h; omega
theorem power_ne {x : En.Rc} : En.power x ≠ .error 0 := by
  intro h
  have sq : ∀ s : En.Sp, En.square s ≠ .error 0 := by
    intro s hs
    unfold En.square at hs
    cases ho : En.squareOut s with
    | error c => rw [ho] at hs; have e : c = 0 := by injection hs
                 exact span_ne (by rw [← e]; exact ho)
    | ok o => rw [ho] at hs; cases hs
  unfold En.power at h
  cases ha : En.square x.re with
  | error c => rw [ha] at h; have e : c = 0 := by injection h
               exact sq _ (by rw [← e]; exact ha)
  | ok a =>
    rw [ha] at h
    cases hb : En.square x.im with
    | error c => rw [hb] at h; have e : c = 0 := by injection h
                 exact sq _ (by rw [← e]; exact hb)
    | ok b => rw [hb] at h; exact span_ne h
theorem key1 {x p : En.Rc} (a1 a2 : En.Sp) (hi : inB x p = true) (h1 : powerR x = (a1, 0)) (h2 : powerR p = (a2, 0)) : inB ⟨a1, ⟨0, 0⟩⟩ ⟨a2, ⟨0, 0⟩⟩ = true := by
  obtain ⟨hx, hp, s1, s2⟩ := inB_sub hi
  unfold powerR at h1 h2
  rw [if_pos hx] at h1
  rw [if_pos hp] at h2
  have k1 := outS_ok h1 rfl power_ne
  have k2 := outS_ok h2 rfl power_ne
  exact sub_inB (En.power_ok k1) (En.power_ok k2) (En.power_in hx hp s1 s2 k1 k2)
theorem key2 {s t : En.Sp} (a1 a2 : En.Sp) (hi : inB ⟨s, ⟨0, 0⟩⟩ ⟨t, ⟨0, 0⟩⟩ = true) (h1 : rootR s = (a1, 0)) (h2 : rootR t = (a2, 0)) : inB ⟨a1, ⟨0, 0⟩⟩ ⟨a2, ⟨0, 0⟩⟩ = true := by
  obtain ⟨hx, hp, s1, -⟩ := inB_sub hi
  have hs := (En.ok_parts hx).1
  have ht := (En.ok_parts hp).1
  dsimp only at hs ht s1
  unfold rootR at h1 h2
  rw [if_pos hs] at h1
  rw [if_pos ht] at h2
  by_cases l2 : t.lo < 0
  · rw [if_pos l2] at h2; exact absurd (congrArg Prod.snd h2) (by show ¬ (2 : Int) = 0; decide)
  rw [if_neg l2] at h2
  rw [if_neg (by have := s1.1; omega)] at h1
  have k1 := outS_ok h1 rfl span_ne
  have k2 := outS_ok h2 rfl span_ne
  exact sub_inB (En.roots_ok k1) (En.roots_ok k2) (En.roots_in hs ht (by omega) s1 k1 k2)
set_option maxHeartbeats 4000000 in
theorem walk (x : En.Rc) (s : En.Sp) (a b c d : Int) (ha : 0 ≤ a ∧ a ≤ 65535) (hb : 0 ≤ b ∧ b ≤ 65535) (hc : 0 ≤ c ∧ c ≤ 65535) (hd : 0 ≤ d ∧ d ≤ 65535) (w : World) :
    Calls Try.prog 9 #[rcV x, spV s, .agg #[.int .u16 a, .int .u16 b, .int .u16 c, .int .u16 d]] w fun e w' => e = .returned (.bool true) ∧ Below w.heap.size w w' := by
  have W1 := wider_any x a b c d ha.1 ha.2 hb.1 hb.2 hc.1 hc.2 hd.1 hd.2
  have W2 := wider_any ⟨s, ⟨0, 0⟩⟩ a b 0 0 ha.1 ha.2 hb.1 hb.2 (by omega) (by omega) (by omega) (by omega)
  obtain ⟨p, hp⟩ : ∃ p, wideR x a b c d = p := ⟨_, rfl⟩
  obtain ⟨r0, hr⟩ : ∃ r, wideR ⟨s, ⟨0, 0⟩⟩ a b 0 0 = r := ⟨_, rfl⟩
  obtain ⟨r, r'⟩ := r0
  rw [hp] at W1
  rw [hr] at W2
  clear hp hr ha hb hc hd
  have V1 := wideV_any s
  have V2 := wideV_any r
  have I1 := in_any x p
  have I2 := in_any ⟨s, ⟨0, 0⟩⟩ ⟨r, ⟨0, 0⟩⟩
  have P1 := powerE_any x
  have P2 := powerE_any p
  have R1 := rootE_any s
  have R2 := rootE_any r
  have K1 := @key1 x p
  have K2 := @key2 s r
  obtain ⟨i1, hi1⟩ : ∃ i, inB x p = i := ⟨_, rfl⟩
  obtain ⟨i2, hi2⟩ : ∃ i, inB ⟨s, ⟨0, 0⟩⟩ ⟨r, ⟨0, 0⟩⟩ = i := ⟨_, rfl⟩
  rw [hi1] at I1 K1
  rw [hi2] at I2 K2
  obtain ⟨q1, hq1⟩ : ∃ q, powerR x = q := ⟨_, rfl⟩
  obtain ⟨q2, hq2⟩ : ∃ q, powerR p = q := ⟨_, rfl⟩
  obtain ⟨t1, ht1⟩ : ∃ q, rootR s = q := ⟨_, rfl⟩
  obtain ⟨t2, ht2⟩ : ∃ q, rootR r = q := ⟨_, rfl⟩
  rw [hq1] at P1 K1
  rw [hq2] at P2 K1
  rw [ht1] at R1 K2
  rw [ht2] at R2 K2
  clear hi1 hi2 hq1 hq2 ht1 ht2
  obtain ⟨a1, e1⟩ := q1
  obtain ⟨a2, e2⟩ := q2
  obtain ⟨c1, f1⟩ := t1
  obtain ⟨c2, f2⟩ := t2
  have A1 := wideV_any a1
  have A2 := wideV_any a2
  have J1 := in_any ⟨a1, ⟨0, 0⟩⟩ ⟨a2, ⟨0, 0⟩⟩
  have B1 := wideV_any c1
  have B2 := wideV_any c2
  have J2 := in_any ⟨c1, ⟨0, 0⟩⟩ ⟨c2, ⟨0, 0⟩⟩
  have hfd : ∀ (a b c d : Int) (w : World), (Instr.field 25 (.agg #[.int .i64 a, .int .i64 b, .int .i64 c, .int .i64 d]) 0).run Try.prog w = .ok (.agg #[.int .i64 a, .int .i64 b]) w := field_re
  replace W1 := Lib.hid W1
  replace W2 := Lib.hid W2
  replace V1 := Lib.hid V1
  replace V2 := Lib.hid V2
  replace I1 := Lib.hid I1
  replace I2 := Lib.hid I2
  replace P1 := Lib.hid P1
  replace P2 := Lib.hid P2
  replace R1 := Lib.hid R1
  replace R2 := Lib.hid R2
  replace K1 := Lib.hid K1
  replace K2 := Lib.hid K2
  replace A1 := Lib.hid A1
  replace A2 := Lib.hid A2
  replace J1 := Lib.hid J1
  replace B1 := Lib.hid B1
  replace B2 := Lib.hid B2
  replace J2 := Lib.hid J2
  go_enter Try.func9, Try.ntmps9
  go_wp2_with fail
  have HX : Hd (((w.alloc (.cells #[.int .i64 x.re.lo, .int .i64 x.re.hi, .int .i64 x.im.lo, .int .i64 x.im.hi] 25)).alloc (.cells #[.int .i64 s.lo, .int .i64 s.hi] 23)).alloc (.cells #[.int .u16 a, .int .u16 b, .int .u16 c, .int .u16 d] 54)) w.heap.size 25 #[.int .i64 x.re.lo, .int .i64 x.re.hi, .int .i64 x.im.lo, .int .i64 x.im.hi] := by (with_reducible repeat' (first | assumption | (apply hdN; (try simp only [sA, sS, sD]); done) | apply hdA | apply hdD | apply hdS | (apply hdF; case hp => first | (simp; done) | (simp; omega)) | with_unfolding_all rfl))
  have HS : Hd (((w.alloc (.cells #[.int .i64 x.re.lo, .int .i64 x.re.hi, .int .i64 x.im.lo, .int .i64 x.im.hi] 25)).alloc (.cells #[.int .i64 s.lo, .int .i64 s.hi] 23)).alloc (.cells #[.int .u16 a, .int .u16 b, .int .u16 c, .int .u16 d] 54)) (w.heap.size + 1) 23 #[.int .i64 s.lo, .int .i64 s.hi] := by (with_reducible repeat' (first | assumption | (apply hdN; (try simp only [sA, sS, sD]); done) | apply hdA | apply hdD | apply hdS | (apply hdF; case hp => first | (simp; done) | (simp; omega)) | with_unfolding_all rfl))
  have HB : Hd (((w.alloc (.cells #[.int .i64 x.re.lo, .int .i64 x.re.hi, .int .i64 x.im.lo, .int .i64 x.im.hi] 25)).alloc (.cells #[.int .i64 s.lo, .int .i64 s.hi] 23)).alloc (.cells #[.int .u16 a, .int .u16 b, .int .u16 c, .int .u16 d] 54)) (w.heap.size + 2) 54 #[.int .u16 a, .int .u16 b, .int .u16 c, .int .u16 d] := by (with_reducible repeat' (first | assumption | (apply hdN; (try simp only [sA, sS, sD]); done) | apply hdA | apply hdD | apply hdS | (apply hdF; case hp => first | (simp; done) | (simp; omega)) | with_unfolding_all rfl))
  have bw : Below w.heap.size w (((w.alloc (.cells #[.int .i64 x.re.lo, .int .i64 x.re.hi, .int .i64 x.im.lo, .int .i64 x.im.hi] 25)).alloc (.cells #[.int .i64 s.lo, .int .i64 s.hi] 23)).alloc (.cells #[.int .u16 a, .int .u16 b, .int .u16 c, .int .u16 d] 54)) := by go_grown
  refine (W1.out _).mono ?_
  rintro e w1 ⟨rfl, hb1⟩
  replace bw : Below w.heap.size w w1 := below_next bw hb1
  replace HX := HX.call hb1
  replace HS := HS.call hb1
  replace HB := HB.call hb1
  have lw1 : w.heap.size ≤ w1.heap.size := bw.size
  clear hb1
  obtain ⟨hcX, hfX⟩ := HX.facts
  obtain ⟨hcS, hfS⟩ := HS.facts
  obtain ⟨hcB, hfB⟩ := HB.facts
  have ltX := HX.lt
  have ltS := HS.lt
  have ltB := HB.lt
  go_upto_region 2 with fail
  replace HX : Hd (w1.alloc (.cells #[.int .i64 p.re.lo, .int .i64 p.re.hi, .int .i64 p.im.lo, .int .i64 p.im.hi] 25)) w.heap.size 25 #[.int .i64 x.re.lo, .int .i64 x.re.hi, .int .i64 x.im.lo, .int .i64 x.im.hi] := by (with_reducible repeat' (first | assumption | (apply hdN; (try simp only [sA, sS, sD]); done) | apply hdA | apply hdD | apply hdS | (apply hdF; case hp => first | (simp; done) | (simp; omega)) | with_unfolding_all rfl))
  replace HS : Hd (w1.alloc (.cells #[.int .i64 p.re.lo, .int .i64 p.re.hi, .int .i64 p.im.lo, .int .i64 p.im.hi] 25)) (w.heap.size + 1) 23 #[.int .i64 s.lo, .int .i64 s.hi] := by (with_reducible repeat' (first | assumption | (apply hdN; (try simp only [sA, sS, sD]); done) | apply hdA | apply hdD | apply hdS | (apply hdF; case hp => first | (simp; done) | (simp; omega)) | with_unfolding_all rfl))
  replace HB : Hd (w1.alloc (.cells #[.int .i64 p.re.lo, .int .i64 p.re.hi, .int .i64 p.im.lo, .int .i64 p.im.hi] 25)) (w.heap.size + 2) 54 #[.int .u16 a, .int .u16 b, .int .u16 c, .int .u16 d] := by (with_reducible repeat' (first | assumption | (apply hdN; (try simp only [sA, sS, sD]); done) | apply hdA | apply hdD | apply hdS | (apply hdF; case hp => first | (simp; done) | (simp; omega)) | with_unfolding_all rfl))
  replace bw : Below w.heap.size w (w1.alloc (.cells #[.int .i64 p.re.lo, .int .i64 p.re.hi, .int .i64 p.im.lo, .int .i64 p.im.hi] 25)) := by go_grown
  have HP : Hd (w1.alloc (.cells #[.int .i64 p.re.lo, .int .i64 p.re.hi, .int .i64 p.im.lo, .int .i64 p.im.hi] 25)) w1.heap.size 25 #[.int .i64 p.re.lo, .int .i64 p.re.hi, .int .i64 p.im.lo, .int .i64 p.im.hi] := by (with_reducible repeat' (first | assumption | (apply hdN; (try simp only [sA, sS, sD]); done) | apply hdA | apply hdD | apply hdS | (apply hdF; case hp => first | (simp; done) | (simp; omega)) | with_unfolding_all rfl))
  generalize hW : w1.alloc (.cells #[.int .i64 p.re.lo, .int .i64 p.re.hi, .int .i64 p.im.lo, .int .i64 p.im.hi] 25) = w2 at HX HS HB HP bw ⊢
  clear hW
  have lw2 : w.heap.size ≤ w2.heap.size := bw.size
  go_cut [8] from 16 to 24 (fun z wx => ∃ gr : Nat, z = .pointer (some ⟨gr, 0, none⟩) ∧ w.heap.size + 2 < gr ∧ w1.heap.size < gr ∧ Hd wx w.heap.size 25 #[.int .i64 x.re.lo, .int .i64 x.re.hi, .int .i64 x.im.lo, .int .i64 x.im.hi] ∧ Hd wx (w.heap.size + 1) 23 #[.int .i64 s.lo, .int .i64 s.hi] ∧ Hd wx w1.heap.size 25 #[.int .i64 p.re.lo, .int .i64 p.re.hi, .int .i64 p.im.lo, .int .i64 p.im.hi] ∧ Hd wx gr 23 #[.int .i64 r.lo, .int .i64 r.hi] ∧ Below w.heap.size w wx)
  case rest =>
    clear HX HS HB HP bw
    obtain ⟨gr, rfl, hgr, hgr2, HX, HS, HP, HR, bw⟩ := hcut
    have lwc : w.heap.size ≤ wc.heap.size := bw.size
    go_upto_region 3 with fail
    replace HX : Hd (wc.drew) w.heap.size 25 #[.int .i64 x.re.lo, .int .i64 x.re.hi, .int .i64 x.im.lo, .int .i64 x.im.hi] := by (with_reducible repeat' (first | assumption | (apply hdN; (try simp only [sA, sS, sD]); done) | apply hdA | apply hdD | apply hdS | (apply hdF; case hp => first | (simp; done) | (simp; omega)) | with_unfolding_all rfl))
    replace HS : Hd (wc.drew) (w.heap.size + 1) 23 #[.int .i64 s.lo, .int .i64 s.hi] := by (with_reducible repeat' (first | assumption | (apply hdN; (try simp only [sA, sS, sD]); done) | apply hdA | apply hdD | apply hdS | (apply hdF; case hp => first | (simp; done) | (simp; omega)) | with_unfolding_all rfl))
    replace HP : Hd (wc.drew) w1.heap.size 25 #[.int .i64 p.re.lo, .int .i64 p.re.hi, .int .i64 p.im.lo, .int .i64 p.im.hi] := by (with_reducible repeat' (first | assumption | (apply hdN; (try simp only [sA, sS, sD]); done) | apply hdA | apply hdD | apply hdS | (apply hdF; case hp => first | (simp; done) | (simp; omega)) | with_unfolding_all rfl))
    replace HR : Hd (wc.drew) gr 23 #[.int .i64 r.lo, .int .i64 r.hi] := by (with_reducible repeat' (first | assumption | (apply hdN; (try simp only [sA, sS, sD]); done) | apply hdA | apply hdD | apply hdS | (apply hdF; case hp => first | (simp; done) | (simp; omega)) | with_unfolding_all rfl))
    replace bw : Below w.heap.size w (wc.drew) := by go_grown
    cases i1
    · (refine wp_region_eag (fun w' => Hd w' w.heap.size 25 #[.int .i64 x.re.lo, .int .i64 x.re.hi, .int .i64 x.im.lo, .int .i64 x.im.hi] ∧ Hd w' (w.heap.size + 1) 23 #[.int .i64 s.lo, .int .i64 s.hi] ∧ Hd w' w1.heap.size 25 #[.int .i64 p.re.lo, .int .i64 p.re.hi, .int .i64 p.im.lo, .int .i64 p.im.hi] ∧ Hd w' gr 23 #[.int .i64 r.lo, .int .i64 r.hi] ∧ Below w.heap.size w w') [(0, true), (1, true), (2, false), (3, true), (4, true), (5, true), (7, true), (6, false), (8, false), (9, false), (10, true), (11, true)] (by kernel_rfl) (by kernel_rfl) (fun c d v a w h => by cases d <;> exact h) ⟨HX, HS, HP, HR, bw⟩ ?_; simp only [List.map_cons, List.map_nil, List.getD_cons_zero, List.getD_cons_succ, flMark, Nat.reduceEqDiff, ↓reduceIte])
      repeat ((first | with_reducible apply eag_move | with_reducible apply eag_assign | ((with_reducible refine eag_soft (v := ?_) (fun w' hw' => ?_) ?_); rotate_left 1; (focus (obtain ⟨hX, hS, hP, hR, hBw⟩ := hw'; obtain ⟨hcX, hfX⟩ := hX.facts; obtain ⟨hcS, hfS⟩ := hS.facts; obtain ⟨hcP, hfP⟩ := hP.facts; obtain ⟨hcR, hfR⟩ := hR.facts; go_simp; (try with_reducible rfl); done))) | ((refine eag_skip (by rfl) ?_)) | ((refine eag_soft_g (v := ?_) (by rfl) (fun w' hw' => ?_) ?_); rotate_left 1; (focus (obtain ⟨hX, hS, hP, hR, hBw⟩ := hw'; obtain ⟨hcX, hfX⟩ := hX.facts; obtain ⟨hcS, hfS⟩ := hS.facts; obtain ⟨hcP, hfP⟩ := hP.facts; obtain ⟨hcR, hfR⟩ := hR.facts; go_simp; (try with_reducible rfl); done)))); simp only [Act.put, Act.eval, List.setIfInBounds_toArray, List.set_cons_zero, List.set_cons_succ, Array.getD_eq_getD_getElem?, List.getElem?_toArray, List.getElem?_cons_zero, List.getElem?_cons_succ, Option.getD_some])
      refine eag_hard ?_
      go_wp2_with fail
      refine (I1.out _).mono ?_
      rintro e w6 ⟨rfl, hb6⟩
      replace bw : Below w.heap.size w w6 := below_next bw hb6
      replace HX := HX.call hb6
      replace HS := HS.call hb6
      replace HP := HP.call hb6
      replace HR := HR.call hb6
      have lw6 : w.heap.size ≤ w6.heap.size := bw.size
      clear hb6
      go_wp2_with fail
      (try refine ⟨⟨HX, HS, HP, HR, bw⟩, ?_⟩)
      repeat ((first | with_reducible apply eag_move | with_reducible apply eag_assign | ((with_reducible refine eag_soft (v := ?_) (fun w' hw' => ?_) ?_); rotate_left 1; (focus (obtain ⟨hX, hS, hP, hR, hBw⟩ := hw'; obtain ⟨hcX, hfX⟩ := hX.facts; obtain ⟨hcS, hfS⟩ := hS.facts; obtain ⟨hcP, hfP⟩ := hP.facts; obtain ⟨hcR, hfR⟩ := hR.facts; go_simp; (try with_reducible rfl); done))) | ((refine eag_skip (by rfl) ?_)) | ((refine eag_soft_g (v := ?_) (by rfl) (fun w' hw' => ?_) ?_); rotate_left 1; (focus (obtain ⟨hX, hS, hP, hR, hBw⟩ := hw'; obtain ⟨hcX, hfX⟩ := hX.facts; obtain ⟨hcS, hfS⟩ := hS.facts; obtain ⟨hcP, hfP⟩ := hP.facts; obtain ⟨hcR, hfR⟩ := hR.facts; go_simp; (try with_reducible rfl); done)))); simp only [Act.put, Act.eval, List.setIfInBounds_toArray, List.set_cons_zero, List.set_cons_succ, Array.getD_eq_getD_getElem?, List.getElem?_toArray, List.getElem?_cons_zero, List.getElem?_cons_succ, Option.getD_some])
      refine eag_hard ?_
      go_wp2_with fail
      (try refine ⟨⟨HX, HS, HP, HR, bw⟩, ?_⟩)
      repeat ((first | with_reducible apply eag_move | with_reducible apply eag_assign | ((with_reducible refine eag_soft (v := ?_) (fun w' hw' => ?_) ?_); rotate_left 1; (focus (obtain ⟨hX, hS, hP, hR, hBw⟩ := hw'; obtain ⟨hcX, hfX⟩ := hX.facts; obtain ⟨hcS, hfS⟩ := hS.facts; obtain ⟨hcP, hfP⟩ := hP.facts; obtain ⟨hcR, hfR⟩ := hR.facts; go_simp; (try with_reducible rfl); done))) | ((refine eag_skip (by rfl) ?_)) | ((refine eag_soft_g (v := ?_) (by rfl) (fun w' hw' => ?_) ?_); rotate_left 1; (focus (obtain ⟨hX, hS, hP, hR, hBw⟩ := hw'; obtain ⟨hcX, hfX⟩ := hX.facts; obtain ⟨hcS, hfS⟩ := hS.facts; obtain ⟨hcP, hfP⟩ := hP.facts; obtain ⟨hcR, hfR⟩ := hR.facts; go_simp; (try with_reducible rfl); done)))); simp only [Act.put, Act.eval, List.setIfInBounds_toArray, List.set_cons_zero, List.set_cons_succ, Array.getD_eq_getD_getElem?, List.getElem?_toArray, List.getElem?_cons_zero, List.getElem?_cons_succ, Option.getD_some])
      refine eag_hard ?_
      go_wp2_with fail
      (try refine ⟨⟨HX, HS, HP, HR, bw⟩, ?_⟩)
      repeat ((first | with_reducible apply eag_move | with_reducible apply eag_assign | ((with_reducible refine eag_soft (v := ?_) (fun w' hw' => ?_) ?_); rotate_left 1; (focus (obtain ⟨hX, hS, hP, hR, hBw⟩ := hw'; obtain ⟨hcX, hfX⟩ := hX.facts; obtain ⟨hcS, hfS⟩ := hS.facts; obtain ⟨hcP, hfP⟩ := hP.facts; obtain ⟨hcR, hfR⟩ := hR.facts; go_simp; (try with_reducible rfl); done))) | ((refine eag_skip (by rfl) ?_)) | ((refine eag_soft_g (v := ?_) (by rfl) (fun w' hw' => ?_) ?_); rotate_left 1; (focus (obtain ⟨hX, hS, hP, hR, hBw⟩ := hw'; obtain ⟨hcX, hfX⟩ := hX.facts; obtain ⟨hcS, hfS⟩ := hS.facts; obtain ⟨hcP, hfP⟩ := hP.facts; obtain ⟨hcR, hfR⟩ := hR.facts; go_simp; (try with_reducible rfl); done)))); simp only [Act.put, Act.eval, List.setIfInBounds_toArray, List.set_cons_zero, List.set_cons_succ, Array.getD_eq_getD_getElem?, List.getElem?_toArray, List.getElem?_cons_zero, List.getElem?_cons_succ, Option.getD_some])
      refine eag_hard ?_
      go_wp2_with fail
      (try refine ⟨⟨HX, HS, HP, HR, bw⟩, ?_⟩)
      repeat ((first | with_reducible apply eag_move | with_reducible apply eag_assign | ((with_reducible refine eag_soft (v := ?_) (fun w' hw' => ?_) ?_); rotate_left 1; (focus (obtain ⟨hX, hS, hP, hR, hBw⟩ := hw'; obtain ⟨hcX, hfX⟩ := hX.facts; obtain ⟨hcS, hfS⟩ := hS.facts; obtain ⟨hcP, hfP⟩ := hP.facts; obtain ⟨hcR, hfR⟩ := hR.facts; go_simp; (try with_reducible rfl); done))) | ((refine eag_skip (by rfl) ?_)) | ((refine eag_soft_g (v := ?_) (by rfl) (fun w' hw' => ?_) ?_); rotate_left 1; (focus (obtain ⟨hX, hS, hP, hR, hBw⟩ := hw'; obtain ⟨hcX, hfX⟩ := hX.facts; obtain ⟨hcS, hfS⟩ := hS.facts; obtain ⟨hcP, hfP⟩ := hP.facts; obtain ⟨hcR, hfR⟩ := hR.facts; go_simp; (try with_reducible rfl); done)))); simp only [Act.put, Act.eval, List.setIfInBounds_toArray, List.set_cons_zero, List.set_cons_succ, Array.getD_eq_getD_getElem?, List.getElem?_toArray, List.getElem?_cons_zero, List.getElem?_cons_succ, Option.getD_some])
      refine eag_nil ?_
      go_wp2_with fail
      refine (awake_any _).mono ?_
      rintro e w7 ⟨rfl, hb7⟩
      replace bw : Below w.heap.size w w7 := below_next bw hb7
      replace HX := HX.call hb7
      replace HS := HS.call hb7
      replace HP := HP.call hb7
      replace HR := HR.call hb7
      have lw7 : w.heap.size ≤ w7.heap.size := bw.size
      clear hb7
      go_wp2
      go_ret
      exact ⟨rfl, by go_grown⟩
    · (refine wp_region_eag (fun w' => Hd w' w.heap.size 25 #[.int .i64 x.re.lo, .int .i64 x.re.hi, .int .i64 x.im.lo, .int .i64 x.im.hi] ∧ Hd w' (w.heap.size + 1) 23 #[.int .i64 s.lo, .int .i64 s.hi] ∧ Hd w' w1.heap.size 25 #[.int .i64 p.re.lo, .int .i64 p.re.hi, .int .i64 p.im.lo, .int .i64 p.im.hi] ∧ Hd w' gr 23 #[.int .i64 r.lo, .int .i64 r.hi] ∧ Below w.heap.size w w') [(0, true), (1, true), (2, false), (3, true), (4, true), (5, true), (7, true), (6, false), (8, false), (9, false), (10, true), (11, true)] (by kernel_rfl) (by kernel_rfl) (fun c d v a w h => by cases d <;> exact h) ⟨HX, HS, HP, HR, bw⟩ ?_; simp only [List.map_cons, List.map_nil, List.getD_cons_zero, List.getD_cons_succ, flMark, Nat.reduceEqDiff, ↓reduceIte])
      repeat ((first | with_reducible apply eag_move | with_reducible apply eag_assign | ((with_reducible refine eag_soft (v := ?_) (fun w' hw' => ?_) ?_); rotate_left 1; (focus (obtain ⟨hX, hS, hP, hR, hBw⟩ := hw'; obtain ⟨hcX, hfX⟩ := hX.facts; obtain ⟨hcS, hfS⟩ := hS.facts; obtain ⟨hcP, hfP⟩ := hP.facts; obtain ⟨hcR, hfR⟩ := hR.facts; go_simp; (try with_reducible rfl); done))) | ((refine eag_skip (by rfl) ?_)) | ((refine eag_soft_g (v := ?_) (by rfl) (fun w' hw' => ?_) ?_); rotate_left 1; (focus (obtain ⟨hX, hS, hP, hR, hBw⟩ := hw'; obtain ⟨hcX, hfX⟩ := hX.facts; obtain ⟨hcS, hfS⟩ := hS.facts; obtain ⟨hcP, hfP⟩ := hP.facts; obtain ⟨hcR, hfR⟩ := hR.facts; go_simp; (try with_reducible rfl); done)))); simp only [Act.put, Act.eval, List.setIfInBounds_toArray, List.set_cons_zero, List.set_cons_succ, Array.getD_eq_getD_getElem?, List.getElem?_toArray, List.getElem?_cons_zero, List.getElem?_cons_succ, Option.getD_some])
      refine eag_hard ?_
      go_wp2_with fail
      refine (I1.out _).mono ?_
      rintro e w6 ⟨rfl, hb6⟩
      replace bw : Below w.heap.size w w6 := below_next bw hb6
      replace HX := HX.call hb6
      replace HS := HS.call hb6
      replace HP := HP.call hb6
      replace HR := HR.call hb6
      have lw6 : w.heap.size ≤ w6.heap.size := bw.size
      clear hb6
      go_wp2_with fail
      (try refine ⟨⟨HX, HS, HP, HR, bw⟩, ?_⟩)
      repeat ((first | with_reducible apply eag_move | with_reducible apply eag_assign | ((with_reducible refine eag_soft (v := ?_) (fun w' hw' => ?_) ?_); rotate_left 1; (focus (obtain ⟨hX, hS, hP, hR, hBw⟩ := hw'; obtain ⟨hcX, hfX⟩ := hX.facts; obtain ⟨hcS, hfS⟩ := hS.facts; obtain ⟨hcP, hfP⟩ := hP.facts; obtain ⟨hcR, hfR⟩ := hR.facts; go_simp; (try with_reducible rfl); done))) | ((refine eag_skip (by rfl) ?_)) | ((refine eag_soft_g (v := ?_) (by rfl) (fun w' hw' => ?_) ?_); rotate_left 1; (focus (obtain ⟨hX, hS, hP, hR, hBw⟩ := hw'; obtain ⟨hcX, hfX⟩ := hX.facts; obtain ⟨hcS, hfS⟩ := hS.facts; obtain ⟨hcP, hfP⟩ := hP.facts; obtain ⟨hcR, hfR⟩ := hR.facts; go_simp; (try with_reducible rfl); done)))); simp only [Act.put, Act.eval, List.setIfInBounds_toArray, List.set_cons_zero, List.set_cons_succ, Array.getD_eq_getD_getElem?, List.getElem?_toArray, List.getElem?_cons_zero, List.getElem?_cons_succ, Option.getD_some])
      refine eag_hard ?_
      go_wp2_with fail
      refine (V1.out _).mono ?_
      rintro e w7 ⟨rfl, hb7⟩
      replace bw : Below w.heap.size w w7 := below_next bw hb7
      replace HX := HX.call hb7
      replace HS := HS.call hb7
      replace HP := HP.call hb7
      replace HR := HR.call hb7
      have lw7 : w.heap.size ≤ w7.heap.size := bw.size
      clear hb7
      go_wp2_with fail
      (try refine ⟨⟨HX, HS, HP, HR, bw⟩, ?_⟩)
      repeat ((first | with_reducible apply eag_move | with_reducible apply eag_assign | ((with_reducible refine eag_soft (v := ?_) (fun w' hw' => ?_) ?_); rotate_left 1; (focus (obtain ⟨hX, hS, hP, hR, hBw⟩ := hw'; obtain ⟨hcX, hfX⟩ := hX.facts; obtain ⟨hcS, hfS⟩ := hS.facts; obtain ⟨hcP, hfP⟩ := hP.facts; obtain ⟨hcR, hfR⟩ := hR.facts; go_simp; (try with_reducible rfl); done))) | ((refine eag_skip (by rfl) ?_)) | ((refine eag_soft_g (v := ?_) (by rfl) (fun w' hw' => ?_) ?_); rotate_left 1; (focus (obtain ⟨hX, hS, hP, hR, hBw⟩ := hw'; obtain ⟨hcX, hfX⟩ := hX.facts; obtain ⟨hcS, hfS⟩ := hS.facts; obtain ⟨hcP, hfP⟩ := hP.facts; obtain ⟨hcR, hfR⟩ := hR.facts; go_simp; (try with_reducible rfl); done)))); simp only [Act.put, Act.eval, List.setIfInBounds_toArray, List.set_cons_zero, List.set_cons_succ, Array.getD_eq_getD_getElem?, List.getElem?_toArray, List.getElem?_cons_zero, List.getElem?_cons_succ, Option.getD_some])
      refine eag_hard ?_
      go_wp2_with fail
      refine (V2.out _).mono ?_
      rintro e w8 ⟨rfl, hb8⟩
      replace bw : Below w.heap.size w w8 := below_next bw hb8
      replace HX := HX.call hb8
      replace HS := HS.call hb8
      replace HP := HP.call hb8
      replace HR := HR.call hb8
      have lw8 : w.heap.size ≤ w8.heap.size := bw.size
      clear hb8
      go_wp2_with fail
      (try refine ⟨⟨HX, HS, HP, HR, bw⟩, ?_⟩)
      repeat ((first | with_reducible apply eag_move | with_reducible apply eag_assign | ((with_reducible refine eag_soft (v := ?_) (fun w' hw' => ?_) ?_); rotate_left 1; (focus (obtain ⟨hX, hS, hP, hR, hBw⟩ := hw'; obtain ⟨hcX, hfX⟩ := hX.facts; obtain ⟨hcS, hfS⟩ := hS.facts; obtain ⟨hcP, hfP⟩ := hP.facts; obtain ⟨hcR, hfR⟩ := hR.facts; go_simp; (try with_reducible rfl); done))) | ((refine eag_skip (by rfl) ?_)) | ((refine eag_soft_g (v := ?_) (by rfl) (fun w' hw' => ?_) ?_); rotate_left 1; (focus (obtain ⟨hX, hS, hP, hR, hBw⟩ := hw'; obtain ⟨hcX, hfX⟩ := hX.facts; obtain ⟨hcS, hfS⟩ := hS.facts; obtain ⟨hcP, hfP⟩ := hP.facts; obtain ⟨hcR, hfR⟩ := hR.facts; go_simp; (try with_reducible rfl); done)))); simp only [Act.put, Act.eval, List.setIfInBounds_toArray, List.set_cons_zero, List.set_cons_succ, Array.getD_eq_getD_getElem?, List.getElem?_toArray, List.getElem?_cons_zero, List.getElem?_cons_succ, Option.getD_some])
      refine eag_hard ?_
      go_wp2_with fail
      refine (I2.out _).mono ?_
      rintro e w9 ⟨rfl, hb9⟩
      replace bw : Below w.heap.size w w9 := below_next bw hb9
      replace HX := HX.call hb9
      replace HS := HS.call hb9
      replace HP := HP.call hb9
      replace HR := HR.call hb9
      have lw9 : w.heap.size ≤ w9.heap.size := bw.size
      clear hb9
      go_wp2_with fail
      (try refine ⟨⟨HX, HS, HP, HR, bw⟩, ?_⟩)
      repeat ((first | with_reducible apply eag_move | with_reducible apply eag_assign | ((with_reducible refine eag_soft (v := ?_) (fun w' hw' => ?_) ?_); rotate_left 1; (focus (obtain ⟨hX, hS, hP, hR, hBw⟩ := hw'; obtain ⟨hcX, hfX⟩ := hX.facts; obtain ⟨hcS, hfS⟩ := hS.facts; obtain ⟨hcP, hfP⟩ := hP.facts; obtain ⟨hcR, hfR⟩ := hR.facts; go_simp; (try with_reducible rfl); done))) | ((refine eag_skip (by rfl) ?_)) | ((refine eag_soft_g (v := ?_) (by rfl) (fun w' hw' => ?_) ?_); rotate_left 1; (focus (obtain ⟨hX, hS, hP, hR, hBw⟩ := hw'; obtain ⟨hcX, hfX⟩ := hX.facts; obtain ⟨hcS, hfS⟩ := hS.facts; obtain ⟨hcP, hfP⟩ := hP.facts; obtain ⟨hcR, hfR⟩ := hR.facts; go_simp; (try with_reducible rfl); done)))); simp only [Act.put, Act.eval, List.setIfInBounds_toArray, List.set_cons_zero, List.set_cons_succ, Array.getD_eq_getD_getElem?, List.getElem?_toArray, List.getElem?_cons_zero, List.getElem?_cons_succ, Option.getD_some])
      refine eag_nil ?_
      cases i2
      · go_wp2_with fail
        refine (awake_any _).mono ?_
        rintro e w10 ⟨rfl, hb10⟩
        replace bw : Below w.heap.size w w10 := below_next bw hb10
        replace HX := HX.call hb10
        replace HS := HS.call hb10
        replace HP := HP.call hb10
        replace HR := HR.call hb10
        have lw10 : w.heap.size ≤ w10.heap.size := bw.size
        clear hb10
        go_wp2
        go_ret
        exact ⟨rfl, by go_grown⟩
      · obtain ⟨hcX, hfX⟩ := HX.facts
        obtain ⟨hcS, hfS⟩ := HS.facts
        obtain ⟨hcP, hfP⟩ := HP.facts
        obtain ⟨hcR, hfR⟩ := HR.facts
        have ltX1 := HX.lt
        have ltS1 := HS.lt
        have ltP1 := HP.lt
        have ltR1 := HR.lt
        go_wp2_with fail
        refine (P1.out _).mono ?_
        rintro e w10 ⟨rfl, hb10⟩
        replace bw : Below w.heap.size w w10 := below_next bw hb10
        replace HX := HX.call hb10
        replace HS := HS.call hb10
        replace HP := HP.call hb10
        replace HR := HR.call hb10
        have lw10 : w.heap.size ≤ w10.heap.size := bw.size
        clear hb10
        obtain ⟨hcX, hfX⟩ := HX.facts
        obtain ⟨hcS, hfS⟩ := HS.facts
        obtain ⟨hcP, hfP⟩ := HP.facts
        obtain ⟨hcR, hfR⟩ := HR.facts
        have ltX2 := HX.lt
        have ltS2 := HS.lt
        have ltP2 := HP.lt
        have ltR2 := HR.lt
        go_wp2_with fail
        replace HX : Hd (w10.alloc (.cells #[.int .i64 a1.lo, .int .i64 a1.hi] 23)) w.heap.size 25 #[.int .i64 x.re.lo, .int .i64 x.re.hi, .int .i64 x.im.lo, .int .i64 x.im.hi] := by (with_reducible repeat' (first | assumption | (apply hdN; (try simp only [sA, sS, sD]); done) | apply hdA | apply hdD | apply hdS | (apply hdF; case hp => first | (simp; done) | (simp; omega)) | with_unfolding_all rfl))
        replace HS : Hd (w10.alloc (.cells #[.int .i64 a1.lo, .int .i64 a1.hi] 23)) (w.heap.size + 1) 23 #[.int .i64 s.lo, .int .i64 s.hi] := by (with_reducible repeat' (first | assumption | (apply hdN; (try simp only [sA, sS, sD]); done) | apply hdA | apply hdD | apply hdS | (apply hdF; case hp => first | (simp; done) | (simp; omega)) | with_unfolding_all rfl))
        replace HP : Hd (w10.alloc (.cells #[.int .i64 a1.lo, .int .i64 a1.hi] 23)) w1.heap.size 25 #[.int .i64 p.re.lo, .int .i64 p.re.hi, .int .i64 p.im.lo, .int .i64 p.im.hi] := by (with_reducible repeat' (first | assumption | (apply hdN; (try simp only [sA, sS, sD]); done) | apply hdA | apply hdD | apply hdS | (apply hdF; case hp => first | (simp; done) | (simp; omega)) | with_unfolding_all rfl))
        replace HR : Hd (w10.alloc (.cells #[.int .i64 a1.lo, .int .i64 a1.hi] 23)) gr 23 #[.int .i64 r.lo, .int .i64 r.hi] := by (with_reducible repeat' (first | assumption | (apply hdN; (try simp only [sA, sS, sD]); done) | apply hdA | apply hdD | apply hdS | (apply hdF; case hp => first | (simp; done) | (simp; omega)) | with_unfolding_all rfl))
        replace bw : Below w.heap.size w (w10.alloc (.cells #[.int .i64 a1.lo, .int .i64 a1.hi] 23)) := by go_grown
        have HQ : Hd (w10.alloc (.cells #[.int .i64 a1.lo, .int .i64 a1.hi] 23)) w10.heap.size 23 #[.int .i64 a1.lo, .int .i64 a1.hi] := by (with_reducible repeat' (first | assumption | (apply hdN; (try simp only [sA, sS, sD]); done) | apply hdA | apply hdD | apply hdS | (apply hdF; case hp => first | (simp; done) | (simp; omega)) | with_unfolding_all rfl))
        refine (P2.out _).mono ?_
        rintro e w11 ⟨rfl, hb11⟩
        replace bw : Below w.heap.size w w11 := below_next bw hb11
        replace HX := HX.call hb11
        replace HS := HS.call hb11
        replace HP := HP.call hb11
        replace HR := HR.call hb11
        replace HQ := HQ.call hb11
        have lw11 : w.heap.size ≤ w11.heap.size := bw.size
        clear hb11
        obtain ⟨hcX, hfX⟩ := HX.facts
        obtain ⟨hcS, hfS⟩ := HS.facts
        obtain ⟨hcP, hfP⟩ := HP.facts
        obtain ⟨hcR, hfR⟩ := HR.facts
        obtain ⟨hcQ, hfQ⟩ := HQ.facts
        have ltX3 := HX.lt
        have ltS3 := HS.lt
        have ltP3 := HP.lt
        have ltR3 := HR.lt
        have ltQ3 := HQ.lt
        go_upto_region 7 with fail
        replace HX : Hd (w11.alloc (.cells #[.int .i64 a2.lo, .int .i64 a2.hi] 23)) w.heap.size 25 #[.int .i64 x.re.lo, .int .i64 x.re.hi, .int .i64 x.im.lo, .int .i64 x.im.hi] := by (with_reducible repeat' (first | assumption | (apply hdN; (try simp only [sA, sS, sD]); done) | apply hdA | apply hdD | apply hdS | (apply hdF; case hp => first | (simp; done) | (simp; omega)) | with_unfolding_all rfl))
        replace HS : Hd (w11.alloc (.cells #[.int .i64 a2.lo, .int .i64 a2.hi] 23)) (w.heap.size + 1) 23 #[.int .i64 s.lo, .int .i64 s.hi] := by (with_reducible repeat' (first | assumption | (apply hdN; (try simp only [sA, sS, sD]); done) | apply hdA | apply hdD | apply hdS | (apply hdF; case hp => first | (simp; done) | (simp; omega)) | with_unfolding_all rfl))
        replace HP : Hd (w11.alloc (.cells #[.int .i64 a2.lo, .int .i64 a2.hi] 23)) w1.heap.size 25 #[.int .i64 p.re.lo, .int .i64 p.re.hi, .int .i64 p.im.lo, .int .i64 p.im.hi] := by (with_reducible repeat' (first | assumption | (apply hdN; (try simp only [sA, sS, sD]); done) | apply hdA | apply hdD | apply hdS | (apply hdF; case hp => first | (simp; done) | (simp; omega)) | with_unfolding_all rfl))
        replace HR : Hd (w11.alloc (.cells #[.int .i64 a2.lo, .int .i64 a2.hi] 23)) gr 23 #[.int .i64 r.lo, .int .i64 r.hi] := by (with_reducible repeat' (first | assumption | (apply hdN; (try simp only [sA, sS, sD]); done) | apply hdA | apply hdD | apply hdS | (apply hdF; case hp => first | (simp; done) | (simp; omega)) | with_unfolding_all rfl))
        replace HQ : Hd (w11.alloc (.cells #[.int .i64 a2.lo, .int .i64 a2.hi] 23)) w10.heap.size 23 #[.int .i64 a1.lo, .int .i64 a1.hi] := by (with_reducible repeat' (first | assumption | (apply hdN; (try simp only [sA, sS, sD]); done) | apply hdA | apply hdD | apply hdS | (apply hdF; case hp => first | (simp; done) | (simp; omega)) | with_unfolding_all rfl))
        replace bw : Below w.heap.size w (w11.alloc (.cells #[.int .i64 a2.lo, .int .i64 a2.hi] 23)) := by go_grown
        have HZ : Hd (w11.alloc (.cells #[.int .i64 a2.lo, .int .i64 a2.hi] 23)) w11.heap.size 23 #[.int .i64 a2.lo, .int .i64 a2.hi] := by (with_reducible repeat' (first | assumption | (apply hdN; (try simp only [sA, sS, sD]); done) | apply hdA | apply hdD | apply hdS | (apply hdF; case hp => first | (simp; done) | (simp; omega)) | with_unfolding_all rfl))
        generalize hW : w11.alloc (.cells #[.int .i64 a2.lo, .int .i64 a2.hi] 23) = w12 at HX HS HP HR HQ HZ bw ⊢
        clear hW
        have lw12 : w.heap.size ≤ w12.heap.size := bw.size
        go_cut [61] from 48 to 60 (fun z wx => z = .bool false ∧ Hd wx (w.heap.size + 1) 23 #[.int .i64 s.lo, .int .i64 s.hi] ∧ Hd wx gr 23 #[.int .i64 r.lo, .int .i64 r.hi] ∧ Hd wx w10.heap.size 23 #[.int .i64 a1.lo, .int .i64 a1.hi] ∧ Hd wx w11.heap.size 23 #[.int .i64 a2.lo, .int .i64 a2.hi] ∧ Below w.heap.size w wx)
        case rest =>
          clear HX HS HP HR HQ HZ bw
          obtain ⟨rfl, HS, HR, HQ, HZ, bw⟩ := hcut
          have lwd : w.heap.size ≤ wc.heap.size := bw.size
          obtain ⟨hcS, hfS⟩ := HS.facts
          obtain ⟨hcR, hfR⟩ := HR.facts
          obtain ⟨hcQ, hfQ⟩ := HQ.facts
          obtain ⟨hcZ, hfZ⟩ := HZ.facts
          have ltS1 := HS.lt
          have ltR1 := HR.lt
          have ltQ1 := HQ.lt
          have ltZ1 := HZ.lt
          go_wp2_with fail
          refine (R1.out _).mono ?_
          rintro e w31 ⟨rfl, hb31⟩
          replace bw : Below w.heap.size w w31 := below_next bw hb31
          replace HS := HS.call hb31
          replace HR := HR.call hb31
          replace HQ := HQ.call hb31
          replace HZ := HZ.call hb31
          have lw31 : w.heap.size ≤ w31.heap.size := bw.size
          clear hb31
          obtain ⟨hcS, hfS⟩ := HS.facts
          obtain ⟨hcR, hfR⟩ := HR.facts
          obtain ⟨hcQ, hfQ⟩ := HQ.facts
          obtain ⟨hcZ, hfZ⟩ := HZ.facts
          have ltS2 := HS.lt
          have ltR2 := HR.lt
          have ltQ2 := HQ.lt
          have ltZ2 := HZ.lt
          go_wp2_with fail
          replace HS : Hd ((w31.setCell ⟨w10.heap.size, 0, none⟩ (.int .i64 c1.lo)).setCell ⟨w10.heap.size, 1, none⟩ (.int .i64 c1.hi)) (w.heap.size + 1) 23 #[.int .i64 s.lo, .int .i64 s.hi] := by (with_reducible repeat' (first | assumption | (apply hdN; (try simp only [sA, sS, sD]); done) | apply hdA | apply hdD | apply hdS | (apply hdF; case hp => first | (simp; done) | (simp; omega)) | with_unfolding_all rfl))
          replace HR : Hd ((w31.setCell ⟨w10.heap.size, 0, none⟩ (.int .i64 c1.lo)).setCell ⟨w10.heap.size, 1, none⟩ (.int .i64 c1.hi)) gr 23 #[.int .i64 r.lo, .int .i64 r.hi] := by (with_reducible repeat' (first | assumption | (apply hdN; (try simp only [sA, sS, sD]); done) | apply hdA | apply hdD | apply hdS | (apply hdF; case hp => first | (simp; done) | (simp; omega)) | with_unfolding_all rfl))
          replace HQ : Hd ((w31.setCell ⟨w10.heap.size, 0, none⟩ (.int .i64 c1.lo)).setCell ⟨w10.heap.size, 1, none⟩ (.int .i64 c1.hi)) w10.heap.size 23 #[.int .i64 c1.lo, .int .i64 c1.hi] := by (with_reducible repeat' (first | assumption | (apply hdN; (try simp only [sA, sS, sD]); done) | apply hdA | apply hdD | apply hdS | (apply hdF; case hp => first | (simp; done) | (simp; omega)) | with_unfolding_all rfl))
          replace HZ : Hd ((w31.setCell ⟨w10.heap.size, 0, none⟩ (.int .i64 c1.lo)).setCell ⟨w10.heap.size, 1, none⟩ (.int .i64 c1.hi)) w11.heap.size 23 #[.int .i64 a2.lo, .int .i64 a2.hi] := by (with_reducible repeat' (first | assumption | (apply hdN; (try simp only [sA, sS, sD]); done) | apply hdA | apply hdD | apply hdS | (apply hdF; case hp => first | (simp; done) | (simp; omega)) | with_unfolding_all rfl))
          replace bw : Below w.heap.size w ((w31.setCell ⟨w10.heap.size, 0, none⟩ (.int .i64 c1.lo)).setCell ⟨w10.heap.size, 1, none⟩ (.int .i64 c1.hi)) := by go_grown
          generalize hW : (w31.setCell ⟨w10.heap.size, 0, none⟩ (.int .i64 c1.lo)).setCell ⟨w10.heap.size, 1, none⟩ (.int .i64 c1.hi) = w32 at HS HR HQ HZ bw ⊢
          clear hW
          have lw32 : w.heap.size ≤ w32.heap.size := bw.size
          refine (R2.out _).mono ?_
          rintro e w33 ⟨rfl, hb33⟩
          replace bw : Below w.heap.size w w33 := below_next bw hb33
          replace HS := HS.call hb33
          replace HR := HR.call hb33
          replace HQ := HQ.call hb33
          replace HZ := HZ.call hb33
          have lw33 : w.heap.size ≤ w33.heap.size := bw.size
          clear hb33
          obtain ⟨hcS, hfS⟩ := HS.facts
          obtain ⟨hcR, hfR⟩ := HR.facts
          obtain ⟨hcQ, hfQ⟩ := HQ.facts
          obtain ⟨hcZ, hfZ⟩ := HZ.facts
          have ltS3 := HS.lt
          have ltR3 := HR.lt
          have ltQ3 := HQ.lt
          have ltZ3 := HZ.lt
          go_upto_region 11 with fail
          replace HS : Hd ((w33.setCell ⟨w11.heap.size, 0, none⟩ (.int .i64 c2.lo)).setCell ⟨w11.heap.size, 1, none⟩ (.int .i64 c2.hi)) (w.heap.size + 1) 23 #[.int .i64 s.lo, .int .i64 s.hi] := by (with_reducible repeat' (first | assumption | (apply hdN; (try simp only [sA, sS, sD]); done) | apply hdA | apply hdD | apply hdS | (apply hdF; case hp => first | (simp; done) | (simp; omega)) | with_unfolding_all rfl))
          replace HR : Hd ((w33.setCell ⟨w11.heap.size, 0, none⟩ (.int .i64 c2.lo)).setCell ⟨w11.heap.size, 1, none⟩ (.int .i64 c2.hi)) gr 23 #[.int .i64 r.lo, .int .i64 r.hi] := by (with_reducible repeat' (first | assumption | (apply hdN; (try simp only [sA, sS, sD]); done) | apply hdA | apply hdD | apply hdS | (apply hdF; case hp => first | (simp; done) | (simp; omega)) | with_unfolding_all rfl))
          replace HQ : Hd ((w33.setCell ⟨w11.heap.size, 0, none⟩ (.int .i64 c2.lo)).setCell ⟨w11.heap.size, 1, none⟩ (.int .i64 c2.hi)) w10.heap.size 23 #[.int .i64 c1.lo, .int .i64 c1.hi] := by (with_reducible repeat' (first | assumption | (apply hdN; (try simp only [sA, sS, sD]); done) | apply hdA | apply hdD | apply hdS | (apply hdF; case hp => first | (simp; done) | (simp; omega)) | with_unfolding_all rfl))
          replace HZ : Hd ((w33.setCell ⟨w11.heap.size, 0, none⟩ (.int .i64 c2.lo)).setCell ⟨w11.heap.size, 1, none⟩ (.int .i64 c2.hi)) w11.heap.size 23 #[.int .i64 c2.lo, .int .i64 c2.hi] := by (with_reducible repeat' (first | assumption | (apply hdN; (try simp only [sA, sS, sD]); done) | apply hdA | apply hdD | apply hdS | (apply hdF; case hp => first | (simp; done) | (simp; omega)) | with_unfolding_all rfl))
          replace bw : Below w.heap.size w ((w33.setCell ⟨w11.heap.size, 0, none⟩ (.int .i64 c2.lo)).setCell ⟨w11.heap.size, 1, none⟩ (.int .i64 c2.hi)) := by go_grown
          generalize hW : (w33.setCell ⟨w11.heap.size, 0, none⟩ (.int .i64 c2.lo)).setCell ⟨w11.heap.size, 1, none⟩ (.int .i64 c2.hi) = w34 at HS HR HQ HZ bw ⊢
          clear hW
          have lw34 : w.heap.size ≤ w34.heap.size := bw.size
          replace HS : Hd (w34.drew) (w.heap.size + 1) 23 #[.int .i64 s.lo, .int .i64 s.hi] := by (with_reducible repeat' (first | assumption | (apply hdN; (try simp only [sA, sS, sD]); done) | apply hdA | apply hdD | apply hdS | (apply hdF; case hp => first | (simp; done) | (simp; omega)) | with_unfolding_all rfl))
          replace HR : Hd (w34.drew) gr 23 #[.int .i64 r.lo, .int .i64 r.hi] := by (with_reducible repeat' (first | assumption | (apply hdN; (try simp only [sA, sS, sD]); done) | apply hdA | apply hdD | apply hdS | (apply hdF; case hp => first | (simp; done) | (simp; omega)) | with_unfolding_all rfl))
          replace HQ : Hd (w34.drew) w10.heap.size 23 #[.int .i64 c1.lo, .int .i64 c1.hi] := by (with_reducible repeat' (first | assumption | (apply hdN; (try simp only [sA, sS, sD]); done) | apply hdA | apply hdD | apply hdS | (apply hdF; case hp => first | (simp; done) | (simp; omega)) | with_unfolding_all rfl))
          replace HZ : Hd (w34.drew) w11.heap.size 23 #[.int .i64 c2.lo, .int .i64 c2.hi] := by (with_reducible repeat' (first | assumption | (apply hdN; (try simp only [sA, sS, sD]); done) | apply hdA | apply hdD | apply hdS | (apply hdF; case hp => first | (simp; done) | (simp; omega)) | with_unfolding_all rfl))
          replace bw : Below w.heap.size w (w34.drew) := by go_grown
          by_cases hf1 : f1 = 0
          · subst hf1
            by_cases hf2 : f2 = 0
            · subst hf2
              have hin := K2.out c1 c2 (by first | rfl | trivial | simp) (by first | rfl | trivial | simp) (by first | rfl | trivial | simp)
              have J3 := J2.out
              rw [hin] at J3
              replace J2 := Lib.hid J3
              clear J3 hin
              (refine wp_region_eag (fun w' => Hd w' w10.heap.size 23 #[.int .i64 c1.lo, .int .i64 c1.hi] ∧ Hd w' w11.heap.size 23 #[.int .i64 c2.lo, .int .i64 c2.hi] ∧ Below w.heap.size w w') [(0, true), (1, true), (2, true), (3, true), (4, true), (5, true), (6, true), (7, true), (9, true), (8, false), (10, false), (11, false), (12, true), (13, true), (14, false), (15, true), (16, true)] (by kernel_rfl) (by kernel_rfl) (fun c d v a w h => by cases d <;> exact h) ⟨HQ, HZ, bw⟩ ?_; simp only [List.map_cons, List.map_nil, List.getD_cons_zero, List.getD_cons_succ, flMark, Nat.reduceEqDiff, ↓reduceIte])
              repeat ((first | with_reducible apply eag_move | with_reducible apply eag_assign | ((with_reducible refine eag_soft (v := ?_) (fun w' hw' => ?_) ?_); rotate_left 1; (focus (obtain ⟨hQ, hZ, hBw⟩ := hw'; obtain ⟨hcQ, hfQ⟩ := hQ.facts; obtain ⟨hcZ, hfZ⟩ := hZ.facts; go_simp; (try with_reducible rfl); done))) | ((refine eag_skip (by rfl) ?_)) | ((refine eag_soft_g (v := ?_) (by rfl) (fun w' hw' => ?_) ?_); rotate_left 1; (focus (obtain ⟨hQ, hZ, hBw⟩ := hw'; obtain ⟨hcQ, hfQ⟩ := hQ.facts; obtain ⟨hcZ, hfZ⟩ := hZ.facts; go_simp; (try with_reducible rfl); done)))); simp only [Act.put, Act.eval, List.setIfInBounds_toArray, List.set_cons_zero, List.set_cons_succ, Array.getD_eq_getD_getElem?, List.getElem?_toArray, List.getElem?_cons_zero, List.getElem?_cons_succ, Option.getD_some])
              refine eag_hard ?_
              go_wp2_with fail
              refine (B1.out _).mono ?_
              rintro e w35 ⟨rfl, hb35⟩
              replace bw : Below w.heap.size w w35 := below_next bw hb35
              replace HS := HS.call hb35
              replace HR := HR.call hb35
              replace HQ := HQ.call hb35
              replace HZ := HZ.call hb35
              have lw35 : w.heap.size ≤ w35.heap.size := bw.size
              clear hb35
              go_wp2_with fail
              (try refine ⟨⟨HQ, HZ, bw⟩, ?_⟩)
              repeat ((first | with_reducible apply eag_move | with_reducible apply eag_assign | ((with_reducible refine eag_soft (v := ?_) (fun w' hw' => ?_) ?_); rotate_left 1; (focus (obtain ⟨hQ, hZ, hBw⟩ := hw'; obtain ⟨hcQ, hfQ⟩ := hQ.facts; obtain ⟨hcZ, hfZ⟩ := hZ.facts; go_simp; (try with_reducible rfl); done))) | ((refine eag_skip (by rfl) ?_)) | ((refine eag_soft_g (v := ?_) (by rfl) (fun w' hw' => ?_) ?_); rotate_left 1; (focus (obtain ⟨hQ, hZ, hBw⟩ := hw'; obtain ⟨hcQ, hfQ⟩ := hQ.facts; obtain ⟨hcZ, hfZ⟩ := hZ.facts; go_simp; (try with_reducible rfl); done)))); simp only [Act.put, Act.eval, List.setIfInBounds_toArray, List.set_cons_zero, List.set_cons_succ, Array.getD_eq_getD_getElem?, List.getElem?_toArray, List.getElem?_cons_zero, List.getElem?_cons_succ, Option.getD_some])
              refine eag_hard ?_
              go_wp2_with fail
              refine (B2.out _).mono ?_
              rintro e w36 ⟨rfl, hb36⟩
              replace bw : Below w.heap.size w w36 := below_next bw hb36
              replace HS := HS.call hb36
              replace HR := HR.call hb36
              replace HQ := HQ.call hb36
              replace HZ := HZ.call hb36
              have lw36 : w.heap.size ≤ w36.heap.size := bw.size
              clear hb36
              go_wp2_with fail
              (try refine ⟨⟨HQ, HZ, bw⟩, ?_⟩)
              repeat ((first | with_reducible apply eag_move | with_reducible apply eag_assign | ((with_reducible refine eag_soft (v := ?_) (fun w' hw' => ?_) ?_); rotate_left 1; (focus (obtain ⟨hQ, hZ, hBw⟩ := hw'; obtain ⟨hcQ, hfQ⟩ := hQ.facts; obtain ⟨hcZ, hfZ⟩ := hZ.facts; go_simp; (try with_reducible rfl); done))) | ((refine eag_skip (by rfl) ?_)) | ((refine eag_soft_g (v := ?_) (by rfl) (fun w' hw' => ?_) ?_); rotate_left 1; (focus (obtain ⟨hQ, hZ, hBw⟩ := hw'; obtain ⟨hcQ, hfQ⟩ := hQ.facts; obtain ⟨hcZ, hfZ⟩ := hZ.facts; go_simp; (try with_reducible rfl); done)))); simp only [Act.put, Act.eval, List.setIfInBounds_toArray, List.set_cons_zero, List.set_cons_succ, Array.getD_eq_getD_getElem?, List.getElem?_toArray, List.getElem?_cons_zero, List.getElem?_cons_succ, Option.getD_some])
              refine eag_hard ?_
              go_wp2_with fail
              refine (J2.out _).mono ?_
              rintro e w37 ⟨rfl, hb37⟩
              replace bw : Below w.heap.size w w37 := below_next bw hb37
              replace HS := HS.call hb37
              replace HR := HR.call hb37
              replace HQ := HQ.call hb37
              replace HZ := HZ.call hb37
              have lw37 : w.heap.size ≤ w37.heap.size := bw.size
              clear hb37
              go_wp2_with fail
              (try refine ⟨⟨HQ, HZ, bw⟩, ?_⟩)
              repeat ((first | with_reducible apply eag_move | with_reducible apply eag_assign | ((with_reducible refine eag_soft (v := ?_) (fun w' hw' => ?_) ?_); rotate_left 1; (focus (obtain ⟨hQ, hZ, hBw⟩ := hw'; obtain ⟨hcQ, hfQ⟩ := hQ.facts; obtain ⟨hcZ, hfZ⟩ := hZ.facts; go_simp; (try with_reducible rfl); done))) | ((refine eag_skip (by rfl) ?_)) | ((refine eag_soft_g (v := ?_) (by rfl) (fun w' hw' => ?_) ?_); rotate_left 1; (focus (obtain ⟨hQ, hZ, hBw⟩ := hw'; obtain ⟨hcQ, hfQ⟩ := hQ.facts; obtain ⟨hcZ, hfZ⟩ := hZ.facts; go_simp; (try with_reducible rfl); done)))); simp only [Act.put, Act.eval, List.setIfInBounds_toArray, List.set_cons_zero, List.set_cons_succ, Array.getD_eq_getD_getElem?, List.getElem?_toArray, List.getElem?_cons_zero, List.getElem?_cons_succ, Option.getD_some])
              refine eag_hard ?_
              go_wp2_with fail
              refine (awake_any _).mono ?_
              rintro e w38 ⟨rfl, hb38⟩
              replace bw : Below w.heap.size w w38 := below_next bw hb38
              replace HS := HS.call hb38
              replace HR := HR.call hb38
              replace HQ := HQ.call hb38
              replace HZ := HZ.call hb38
              have lw38 : w.heap.size ≤ w38.heap.size := bw.size
              clear hb38
              go_wp2_with fail
              (try refine ⟨⟨HQ, HZ, bw⟩, ?_⟩)
              repeat ((first | with_reducible apply eag_move | with_reducible apply eag_assign | ((with_reducible refine eag_soft (v := ?_) (fun w' hw' => ?_) ?_); rotate_left 1; (focus (obtain ⟨hQ, hZ, hBw⟩ := hw'; obtain ⟨hcQ, hfQ⟩ := hQ.facts; obtain ⟨hcZ, hfZ⟩ := hZ.facts; go_simp; (try with_reducible rfl); done))) | ((refine eag_skip (by rfl) ?_)) | ((refine eag_soft_g (v := ?_) (by rfl) (fun w' hw' => ?_) ?_); rotate_left 1; (focus (obtain ⟨hQ, hZ, hBw⟩ := hw'; obtain ⟨hcQ, hfQ⟩ := hQ.facts; obtain ⟨hcZ, hfZ⟩ := hZ.facts; go_simp; (try with_reducible rfl); done)))); simp only [Act.put, Act.eval, List.setIfInBounds_toArray, List.set_cons_zero, List.set_cons_succ, Array.getD_eq_getD_getElem?, List.getElem?_toArray, List.getElem?_cons_zero, List.getElem?_cons_succ, Option.getD_some])
              refine eag_nil ?_
              go_wp2
              go_ret
              exact ⟨rfl, by go_grown⟩
            · have hb2 : (f2 != 0) = true := by simpa using hf2
              (refine wp_region_eag (fun w' => Hd w' w10.heap.size 23 #[.int .i64 c1.lo, .int .i64 c1.hi] ∧ Hd w' w11.heap.size 23 #[.int .i64 c2.lo, .int .i64 c2.hi] ∧ Below w.heap.size w w') [(0, true), (1, true), (2, true), (3, true), (4, true), (5, true), (6, true), (7, true), (9, true), (8, false), (10, false), (11, false), (12, true), (13, true), (14, false), (15, true), (16, true)] (by kernel_rfl) (by kernel_rfl) (fun c d v a w h => by cases d <;> exact h) ⟨HQ, HZ, bw⟩ ?_; simp only [List.map_cons, List.map_nil, List.getD_cons_zero, List.getD_cons_succ, flMark, Nat.reduceEqDiff, ↓reduceIte])
              repeat ((first | with_reducible apply eag_move | with_reducible apply eag_assign | ((with_reducible refine eag_soft (v := ?_) (fun w' hw' => ?_) ?_); rotate_left 1; (focus (obtain ⟨hQ, hZ, hBw⟩ := hw'; obtain ⟨hcQ, hfQ⟩ := hQ.facts; obtain ⟨hcZ, hfZ⟩ := hZ.facts; go_simp; (try with_reducible rfl); done))) | ((refine eag_skip (by rfl) ?_)) | ((refine eag_soft_g (v := ?_) (by rfl) (fun w' hw' => ?_) ?_); rotate_left 1; (focus (obtain ⟨hQ, hZ, hBw⟩ := hw'; obtain ⟨hcQ, hfQ⟩ := hQ.facts; obtain ⟨hcZ, hfZ⟩ := hZ.facts; go_simp; (try with_reducible rfl); done)))); simp only [Act.put, Act.eval, List.setIfInBounds_toArray, List.set_cons_zero, List.set_cons_succ, Array.getD_eq_getD_getElem?, List.getElem?_toArray, List.getElem?_cons_zero, List.getElem?_cons_succ, Option.getD_some])
              refine eag_hard ?_
              go_wp2_with fail
              (try refine ⟨⟨HQ, HZ, bw⟩, ?_⟩)
              repeat ((first | with_reducible apply eag_move | with_reducible apply eag_assign | ((with_reducible refine eag_soft (v := ?_) (fun w' hw' => ?_) ?_); rotate_left 1; (focus (obtain ⟨hQ, hZ, hBw⟩ := hw'; obtain ⟨hcQ, hfQ⟩ := hQ.facts; obtain ⟨hcZ, hfZ⟩ := hZ.facts; go_simp; (try with_reducible rfl); done))) | ((refine eag_skip (by rfl) ?_)) | ((refine eag_soft_g (v := ?_) (by rfl) (fun w' hw' => ?_) ?_); rotate_left 1; (focus (obtain ⟨hQ, hZ, hBw⟩ := hw'; obtain ⟨hcQ, hfQ⟩ := hQ.facts; obtain ⟨hcZ, hfZ⟩ := hZ.facts; go_simp; (try with_reducible rfl); done)))); simp only [Act.put, Act.eval, List.setIfInBounds_toArray, List.set_cons_zero, List.set_cons_succ, Array.getD_eq_getD_getElem?, List.getElem?_toArray, List.getElem?_cons_zero, List.getElem?_cons_succ, Option.getD_some])
              refine eag_hard ?_
              go_wp2_with fail
              (try refine ⟨⟨HQ, HZ, bw⟩, ?_⟩)
              repeat ((first | with_reducible apply eag_move | with_reducible apply eag_assign | ((with_reducible refine eag_soft (v := ?_) (fun w' hw' => ?_) ?_); rotate_left 1; (focus (obtain ⟨hQ, hZ, hBw⟩ := hw'; obtain ⟨hcQ, hfQ⟩ := hQ.facts; obtain ⟨hcZ, hfZ⟩ := hZ.facts; go_simp; (try with_reducible rfl); done))) | ((refine eag_skip (by rfl) ?_)) | ((refine eag_soft_g (v := ?_) (by rfl) (fun w' hw' => ?_) ?_); rotate_left 1; (focus (obtain ⟨hQ, hZ, hBw⟩ := hw'; obtain ⟨hcQ, hfQ⟩ := hQ.facts; obtain ⟨hcZ, hfZ⟩ := hZ.facts; go_simp; (try with_reducible rfl); done)))); simp only [Act.put, Act.eval, List.setIfInBounds_toArray, List.set_cons_zero, List.set_cons_succ, Array.getD_eq_getD_getElem?, List.getElem?_toArray, List.getElem?_cons_zero, List.getElem?_cons_succ, Option.getD_some])
              refine eag_hard ?_
              go_wp2_with fail
              (try refine ⟨⟨HQ, HZ, bw⟩, ?_⟩)
              repeat ((first | with_reducible apply eag_move | with_reducible apply eag_assign | ((with_reducible refine eag_soft (v := ?_) (fun w' hw' => ?_) ?_); rotate_left 1; (focus (obtain ⟨hQ, hZ, hBw⟩ := hw'; obtain ⟨hcQ, hfQ⟩ := hQ.facts; obtain ⟨hcZ, hfZ⟩ := hZ.facts; go_simp; (try with_reducible rfl); done))) | ((refine eag_skip (by rfl) ?_)) | ((refine eag_soft_g (v := ?_) (by rfl) (fun w' hw' => ?_) ?_); rotate_left 1; (focus (obtain ⟨hQ, hZ, hBw⟩ := hw'; obtain ⟨hcQ, hfQ⟩ := hQ.facts; obtain ⟨hcZ, hfZ⟩ := hZ.facts; go_simp; (try with_reducible rfl); done)))); simp only [Act.put, Act.eval, List.setIfInBounds_toArray, List.set_cons_zero, List.set_cons_succ, Array.getD_eq_getD_getElem?, List.getElem?_toArray, List.getElem?_cons_zero, List.getElem?_cons_succ, Option.getD_some])
              refine eag_hard ?_
              go_wp2_with fail
              refine (awake_any _).mono ?_
              rintro e w35 ⟨rfl, hb35⟩
              replace bw : Below w.heap.size w w35 := below_next bw hb35
              replace HS := HS.call hb35
              replace HR := HR.call hb35
              replace HQ := HQ.call hb35
              replace HZ := HZ.call hb35
              have lw35 : w.heap.size ≤ w35.heap.size := bw.size
              clear hb35
              go_wp2_with fail
              (try refine ⟨⟨HQ, HZ, bw⟩, ?_⟩)
              repeat ((first | with_reducible apply eag_move | with_reducible apply eag_assign | ((with_reducible refine eag_soft (v := ?_) (fun w' hw' => ?_) ?_); rotate_left 1; (focus (obtain ⟨hQ, hZ, hBw⟩ := hw'; obtain ⟨hcQ, hfQ⟩ := hQ.facts; obtain ⟨hcZ, hfZ⟩ := hZ.facts; go_simp; (try with_reducible rfl); done))) | ((refine eag_skip (by rfl) ?_)) | ((refine eag_soft_g (v := ?_) (by rfl) (fun w' hw' => ?_) ?_); rotate_left 1; (focus (obtain ⟨hQ, hZ, hBw⟩ := hw'; obtain ⟨hcQ, hfQ⟩ := hQ.facts; obtain ⟨hcZ, hfZ⟩ := hZ.facts; go_simp; (try with_reducible rfl); done)))); simp only [Act.put, Act.eval, List.setIfInBounds_toArray, List.set_cons_zero, List.set_cons_succ, Array.getD_eq_getD_getElem?, List.getElem?_toArray, List.getElem?_cons_zero, List.getElem?_cons_succ, Option.getD_some])
              refine eag_nil ?_
              go_wp2
              go_ret
              exact ⟨rfl, by go_grown⟩
          · have hb1 : (f1 != 0) = true := by simpa using hf1
            (refine wp_region_eag (fun w' => Hd w' w10.heap.size 23 #[.int .i64 c1.lo, .int .i64 c1.hi] ∧ Hd w' w11.heap.size 23 #[.int .i64 c2.lo, .int .i64 c2.hi] ∧ Below w.heap.size w w') [(0, true), (1, true), (2, true), (3, true), (4, true), (5, true), (6, true), (7, true), (9, true), (8, false), (10, false), (11, false), (12, true), (13, true), (14, false), (15, true), (16, true)] (by kernel_rfl) (by kernel_rfl) (fun c d v a w h => by cases d <;> exact h) ⟨HQ, HZ, bw⟩ ?_; simp only [List.map_cons, List.map_nil, List.getD_cons_zero, List.getD_cons_succ, flMark, Nat.reduceEqDiff, ↓reduceIte])
            repeat ((first | with_reducible apply eag_move | with_reducible apply eag_assign | ((with_reducible refine eag_soft (v := ?_) (fun w' hw' => ?_) ?_); rotate_left 1; (focus (obtain ⟨hQ, hZ, hBw⟩ := hw'; obtain ⟨hcQ, hfQ⟩ := hQ.facts; obtain ⟨hcZ, hfZ⟩ := hZ.facts; go_simp; (try with_reducible rfl); done))) | ((refine eag_skip (by rfl) ?_)) | ((refine eag_soft_g (v := ?_) (by rfl) (fun w' hw' => ?_) ?_); rotate_left 1; (focus (obtain ⟨hQ, hZ, hBw⟩ := hw'; obtain ⟨hcQ, hfQ⟩ := hQ.facts; obtain ⟨hcZ, hfZ⟩ := hZ.facts; go_simp; (try with_reducible rfl); done)))); simp only [Act.put, Act.eval, List.setIfInBounds_toArray, List.set_cons_zero, List.set_cons_succ, Array.getD_eq_getD_getElem?, List.getElem?_toArray, List.getElem?_cons_zero, List.getElem?_cons_succ, Option.getD_some])
            refine eag_hard ?_
            go_wp2_with fail
            (try refine ⟨⟨HQ, HZ, bw⟩, ?_⟩)
            repeat ((first | with_reducible apply eag_move | with_reducible apply eag_assign | ((with_reducible refine eag_soft (v := ?_) (fun w' hw' => ?_) ?_); rotate_left 1; (focus (obtain ⟨hQ, hZ, hBw⟩ := hw'; obtain ⟨hcQ, hfQ⟩ := hQ.facts; obtain ⟨hcZ, hfZ⟩ := hZ.facts; go_simp; (try with_reducible rfl); done))) | ((refine eag_skip (by rfl) ?_)) | ((refine eag_soft_g (v := ?_) (by rfl) (fun w' hw' => ?_) ?_); rotate_left 1; (focus (obtain ⟨hQ, hZ, hBw⟩ := hw'; obtain ⟨hcQ, hfQ⟩ := hQ.facts; obtain ⟨hcZ, hfZ⟩ := hZ.facts; go_simp; (try with_reducible rfl); done)))); simp only [Act.put, Act.eval, List.setIfInBounds_toArray, List.set_cons_zero, List.set_cons_succ, Array.getD_eq_getD_getElem?, List.getElem?_toArray, List.getElem?_cons_zero, List.getElem?_cons_succ, Option.getD_some])
            refine eag_hard ?_
            go_wp2_with fail
            (try refine ⟨⟨HQ, HZ, bw⟩, ?_⟩)
            repeat ((first | with_reducible apply eag_move | with_reducible apply eag_assign | ((with_reducible refine eag_soft (v := ?_) (fun w' hw' => ?_) ?_); rotate_left 1; (focus (obtain ⟨hQ, hZ, hBw⟩ := hw'; obtain ⟨hcQ, hfQ⟩ := hQ.facts; obtain ⟨hcZ, hfZ⟩ := hZ.facts; go_simp; (try with_reducible rfl); done))) | ((refine eag_skip (by rfl) ?_)) | ((refine eag_soft_g (v := ?_) (by rfl) (fun w' hw' => ?_) ?_); rotate_left 1; (focus (obtain ⟨hQ, hZ, hBw⟩ := hw'; obtain ⟨hcQ, hfQ⟩ := hQ.facts; obtain ⟨hcZ, hfZ⟩ := hZ.facts; go_simp; (try with_reducible rfl); done)))); simp only [Act.put, Act.eval, List.setIfInBounds_toArray, List.set_cons_zero, List.set_cons_succ, Array.getD_eq_getD_getElem?, List.getElem?_toArray, List.getElem?_cons_zero, List.getElem?_cons_succ, Option.getD_some])
            refine eag_hard ?_
            go_wp2_with fail
            (try refine ⟨⟨HQ, HZ, bw⟩, ?_⟩)
            repeat ((first | with_reducible apply eag_move | with_reducible apply eag_assign | ((with_reducible refine eag_soft (v := ?_) (fun w' hw' => ?_) ?_); rotate_left 1; (focus (obtain ⟨hQ, hZ, hBw⟩ := hw'; obtain ⟨hcQ, hfQ⟩ := hQ.facts; obtain ⟨hcZ, hfZ⟩ := hZ.facts; go_simp; (try with_reducible rfl); done))) | ((refine eag_skip (by rfl) ?_)) | ((refine eag_soft_g (v := ?_) (by rfl) (fun w' hw' => ?_) ?_); rotate_left 1; (focus (obtain ⟨hQ, hZ, hBw⟩ := hw'; obtain ⟨hcQ, hfQ⟩ := hQ.facts; obtain ⟨hcZ, hfZ⟩ := hZ.facts; go_simp; (try with_reducible rfl); done)))); simp only [Act.put, Act.eval, List.setIfInBounds_toArray, List.set_cons_zero, List.set_cons_succ, Array.getD_eq_getD_getElem?, List.getElem?_toArray, List.getElem?_cons_zero, List.getElem?_cons_succ, Option.getD_some])
            refine eag_hard ?_
            go_wp2_with fail
            refine (awake_any _).mono ?_
            rintro e w35 ⟨rfl, hb35⟩
            replace bw : Below w.heap.size w w35 := below_next bw hb35
            replace HS := HS.call hb35
            replace HR := HR.call hb35
            replace HQ := HQ.call hb35
            replace HZ := HZ.call hb35
            have lw35 : w.heap.size ≤ w35.heap.size := bw.size
            clear hb35
            go_wp2_with fail
            (try refine ⟨⟨HQ, HZ, bw⟩, ?_⟩)
            repeat ((first | with_reducible apply eag_move | with_reducible apply eag_assign | ((with_reducible refine eag_soft (v := ?_) (fun w' hw' => ?_) ?_); rotate_left 1; (focus (obtain ⟨hQ, hZ, hBw⟩ := hw'; obtain ⟨hcQ, hfQ⟩ := hQ.facts; obtain ⟨hcZ, hfZ⟩ := hZ.facts; go_simp; (try with_reducible rfl); done))) | ((refine eag_skip (by rfl) ?_)) | ((refine eag_soft_g (v := ?_) (by rfl) (fun w' hw' => ?_) ?_); rotate_left 1; (focus (obtain ⟨hQ, hZ, hBw⟩ := hw'; obtain ⟨hcQ, hfQ⟩ := hQ.facts; obtain ⟨hcZ, hfZ⟩ := hZ.facts; go_simp; (try with_reducible rfl); done)))); simp only [Act.put, Act.eval, List.setIfInBounds_toArray, List.set_cons_zero, List.set_cons_succ, Array.getD_eq_getD_getElem?, List.getElem?_toArray, List.getElem?_cons_zero, List.getElem?_cons_succ, Option.getD_some])
            refine eag_nil ?_
            go_wp2
            go_ret
            exact ⟨rfl, by go_grown⟩
        case first =>
          replace HX : Hd (w12.drew) w.heap.size 25 #[.int .i64 x.re.lo, .int .i64 x.re.hi, .int .i64 x.im.lo, .int .i64 x.im.hi] := by (with_reducible repeat' (first | assumption | (apply hdN; (try simp only [sA, sS, sD]); done) | apply hdA | apply hdD | apply hdS | (apply hdF; case hp => first | (simp; done) | (simp; omega)) | with_unfolding_all rfl))
          replace HS : Hd (w12.drew) (w.heap.size + 1) 23 #[.int .i64 s.lo, .int .i64 s.hi] := by (with_reducible repeat' (first | assumption | (apply hdN; (try simp only [sA, sS, sD]); done) | apply hdA | apply hdD | apply hdS | (apply hdF; case hp => first | (simp; done) | (simp; omega)) | with_unfolding_all rfl))
          replace HP : Hd (w12.drew) w1.heap.size 25 #[.int .i64 p.re.lo, .int .i64 p.re.hi, .int .i64 p.im.lo, .int .i64 p.im.hi] := by (with_reducible repeat' (first | assumption | (apply hdN; (try simp only [sA, sS, sD]); done) | apply hdA | apply hdD | apply hdS | (apply hdF; case hp => first | (simp; done) | (simp; omega)) | with_unfolding_all rfl))
          replace HR : Hd (w12.drew) gr 23 #[.int .i64 r.lo, .int .i64 r.hi] := by (with_reducible repeat' (first | assumption | (apply hdN; (try simp only [sA, sS, sD]); done) | apply hdA | apply hdD | apply hdS | (apply hdF; case hp => first | (simp; done) | (simp; omega)) | with_unfolding_all rfl))
          replace HQ : Hd (w12.drew) w10.heap.size 23 #[.int .i64 a1.lo, .int .i64 a1.hi] := by (with_reducible repeat' (first | assumption | (apply hdN; (try simp only [sA, sS, sD]); done) | apply hdA | apply hdD | apply hdS | (apply hdF; case hp => first | (simp; done) | (simp; omega)) | with_unfolding_all rfl))
          replace HZ : Hd (w12.drew) w11.heap.size 23 #[.int .i64 a2.lo, .int .i64 a2.hi] := by (with_reducible repeat' (first | assumption | (apply hdN; (try simp only [sA, sS, sD]); done) | apply hdA | apply hdD | apply hdS | (apply hdF; case hp => first | (simp; done) | (simp; omega)) | with_unfolding_all rfl))
          replace bw : Below w.heap.size w (w12.drew) := by go_grown
          by_cases he1 : e1 = 0
          · subst he1
            by_cases he2 : e2 = 0
            · subst he2
              have hin := K1.out a1 a2 (by first | rfl | trivial | simp) (by first | rfl | trivial | simp) (by first | rfl | trivial | simp)
              have J3 := J1.out
              rw [hin] at J3
              replace J1 := Lib.hid J3
              clear J3 hin
              (refine wp_region_eag (fun w' => Hd w' w10.heap.size 23 #[.int .i64 a1.lo, .int .i64 a1.hi] ∧ Hd w' w11.heap.size 23 #[.int .i64 a2.lo, .int .i64 a2.hi] ∧ Below w.heap.size w w') [(0, true), (1, true), (2, true), (3, true), (4, true), (5, true), (6, true), (7, true), (9, true), (8, false), (10, false), (11, false), (12, true), (13, true)] (by kernel_rfl) (by kernel_rfl) (fun c d v a w h => by cases d <;> exact h) ⟨HQ, HZ, bw⟩ ?_; simp only [List.map_cons, List.map_nil, List.getD_cons_zero, List.getD_cons_succ, flMark, Nat.reduceEqDiff, ↓reduceIte])
              repeat ((first | with_reducible apply eag_move | with_reducible apply eag_assign | ((with_reducible refine eag_soft (v := ?_) (fun w' hw' => ?_) ?_); rotate_left 1; (focus (obtain ⟨hQ, hZ, hBw⟩ := hw'; obtain ⟨hcQ, hfQ⟩ := hQ.facts; obtain ⟨hcZ, hfZ⟩ := hZ.facts; go_simp; (try with_reducible rfl); done))) | ((refine eag_skip (by rfl) ?_)) | ((refine eag_soft_g (v := ?_) (by rfl) (fun w' hw' => ?_) ?_); rotate_left 1; (focus (obtain ⟨hQ, hZ, hBw⟩ := hw'; obtain ⟨hcQ, hfQ⟩ := hQ.facts; obtain ⟨hcZ, hfZ⟩ := hZ.facts; go_simp; (try with_reducible rfl); done)))); simp only [Act.put, Act.eval, List.setIfInBounds_toArray, List.set_cons_zero, List.set_cons_succ, Array.getD_eq_getD_getElem?, List.getElem?_toArray, List.getElem?_cons_zero, List.getElem?_cons_succ, Option.getD_some])
              refine eag_hard ?_
              go_wp2_with fail
              refine (A1.out _).mono ?_
              rintro e w13 ⟨rfl, hb13⟩
              replace bw : Below w.heap.size w w13 := below_next bw hb13
              replace HX := HX.call hb13
              replace HS := HS.call hb13
              replace HP := HP.call hb13
              replace HR := HR.call hb13
              replace HQ := HQ.call hb13
              replace HZ := HZ.call hb13
              have lw13 : w.heap.size ≤ w13.heap.size := bw.size
              clear hb13
              go_wp2_with fail
              (try refine ⟨⟨HQ, HZ, bw⟩, ?_⟩)
              repeat ((first | with_reducible apply eag_move | with_reducible apply eag_assign | ((with_reducible refine eag_soft (v := ?_) (fun w' hw' => ?_) ?_); rotate_left 1; (focus (obtain ⟨hQ, hZ, hBw⟩ := hw'; obtain ⟨hcQ, hfQ⟩ := hQ.facts; obtain ⟨hcZ, hfZ⟩ := hZ.facts; go_simp; (try with_reducible rfl); done))) | ((refine eag_skip (by rfl) ?_)) | ((refine eag_soft_g (v := ?_) (by rfl) (fun w' hw' => ?_) ?_); rotate_left 1; (focus (obtain ⟨hQ, hZ, hBw⟩ := hw'; obtain ⟨hcQ, hfQ⟩ := hQ.facts; obtain ⟨hcZ, hfZ⟩ := hZ.facts; go_simp; (try with_reducible rfl); done)))); simp only [Act.put, Act.eval, List.setIfInBounds_toArray, List.set_cons_zero, List.set_cons_succ, Array.getD_eq_getD_getElem?, List.getElem?_toArray, List.getElem?_cons_zero, List.getElem?_cons_succ, Option.getD_some])
              refine eag_hard ?_
              go_wp2_with fail
              refine (A2.out _).mono ?_
              rintro e w14 ⟨rfl, hb14⟩
              replace bw : Below w.heap.size w w14 := below_next bw hb14
              replace HX := HX.call hb14
              replace HS := HS.call hb14
              replace HP := HP.call hb14
              replace HR := HR.call hb14
              replace HQ := HQ.call hb14
              replace HZ := HZ.call hb14
              have lw14 : w.heap.size ≤ w14.heap.size := bw.size
              clear hb14
              go_wp2_with fail
              (try refine ⟨⟨HQ, HZ, bw⟩, ?_⟩)
              repeat ((first | with_reducible apply eag_move | with_reducible apply eag_assign | ((with_reducible refine eag_soft (v := ?_) (fun w' hw' => ?_) ?_); rotate_left 1; (focus (obtain ⟨hQ, hZ, hBw⟩ := hw'; obtain ⟨hcQ, hfQ⟩ := hQ.facts; obtain ⟨hcZ, hfZ⟩ := hZ.facts; go_simp; (try with_reducible rfl); done))) | ((refine eag_skip (by rfl) ?_)) | ((refine eag_soft_g (v := ?_) (by rfl) (fun w' hw' => ?_) ?_); rotate_left 1; (focus (obtain ⟨hQ, hZ, hBw⟩ := hw'; obtain ⟨hcQ, hfQ⟩ := hQ.facts; obtain ⟨hcZ, hfZ⟩ := hZ.facts; go_simp; (try with_reducible rfl); done)))); simp only [Act.put, Act.eval, List.setIfInBounds_toArray, List.set_cons_zero, List.set_cons_succ, Array.getD_eq_getD_getElem?, List.getElem?_toArray, List.getElem?_cons_zero, List.getElem?_cons_succ, Option.getD_some])
              refine eag_hard ?_
              go_wp2_with fail
              refine (J1.out _).mono ?_
              rintro e w15 ⟨rfl, hb15⟩
              replace bw : Below w.heap.size w w15 := below_next bw hb15
              replace HX := HX.call hb15
              replace HS := HS.call hb15
              replace HP := HP.call hb15
              replace HR := HR.call hb15
              replace HQ := HQ.call hb15
              replace HZ := HZ.call hb15
              have lw15 : w.heap.size ≤ w15.heap.size := bw.size
              clear hb15
              go_wp2_with fail
              (try refine ⟨⟨HQ, HZ, bw⟩, ?_⟩)
              repeat ((first | with_reducible apply eag_move | with_reducible apply eag_assign | ((with_reducible refine eag_soft (v := ?_) (fun w' hw' => ?_) ?_); rotate_left 1; (focus (obtain ⟨hQ, hZ, hBw⟩ := hw'; obtain ⟨hcQ, hfQ⟩ := hQ.facts; obtain ⟨hcZ, hfZ⟩ := hZ.facts; go_simp; (try with_reducible rfl); done))) | ((refine eag_skip (by rfl) ?_)) | ((refine eag_soft_g (v := ?_) (by rfl) (fun w' hw' => ?_) ?_); rotate_left 1; (focus (obtain ⟨hQ, hZ, hBw⟩ := hw'; obtain ⟨hcQ, hfQ⟩ := hQ.facts; obtain ⟨hcZ, hfZ⟩ := hZ.facts; go_simp; (try with_reducible rfl); done)))); simp only [Act.put, Act.eval, List.setIfInBounds_toArray, List.set_cons_zero, List.set_cons_succ, Array.getD_eq_getD_getElem?, List.getElem?_toArray, List.getElem?_cons_zero, List.getElem?_cons_succ, Option.getD_some])
              refine eag_nil ?_
              go_wp2_with fail
              go_meet
              exact ⟨rfl, HS, HR, HQ, HZ, bw⟩
            · have hb2 : (e2 == 0) = false := by simpa using he2
              (refine wp_region_eag (fun w' => Hd w' w10.heap.size 23 #[.int .i64 a1.lo, .int .i64 a1.hi] ∧ Hd w' w11.heap.size 23 #[.int .i64 a2.lo, .int .i64 a2.hi] ∧ Below w.heap.size w w') [(0, true), (1, true), (2, true), (3, true), (4, true), (5, true), (6, true), (7, true), (9, true), (8, false), (10, false), (11, false), (12, true), (13, true)] (by kernel_rfl) (by kernel_rfl) (fun c d v a w h => by cases d <;> exact h) ⟨HQ, HZ, bw⟩ ?_; simp only [List.map_cons, List.map_nil, List.getD_cons_zero, List.getD_cons_succ, flMark, Nat.reduceEqDiff, ↓reduceIte])
              repeat ((first | with_reducible apply eag_move | with_reducible apply eag_assign | ((with_reducible refine eag_soft (v := ?_) (fun w' hw' => ?_) ?_); rotate_left 1; (focus (obtain ⟨hQ, hZ, hBw⟩ := hw'; obtain ⟨hcQ, hfQ⟩ := hQ.facts; obtain ⟨hcZ, hfZ⟩ := hZ.facts; go_simp; (try with_reducible rfl); done))) | ((refine eag_skip (by rfl) ?_)) | ((refine eag_soft_g (v := ?_) (by rfl) (fun w' hw' => ?_) ?_); rotate_left 1; (focus (obtain ⟨hQ, hZ, hBw⟩ := hw'; obtain ⟨hcQ, hfQ⟩ := hQ.facts; obtain ⟨hcZ, hfZ⟩ := hZ.facts; go_simp; (try with_reducible rfl); done)))); simp only [Act.put, Act.eval, List.setIfInBounds_toArray, List.set_cons_zero, List.set_cons_succ, Array.getD_eq_getD_getElem?, List.getElem?_toArray, List.getElem?_cons_zero, List.getElem?_cons_succ, Option.getD_some])
              refine eag_hard ?_
              go_wp2_with fail
              (try refine ⟨⟨HQ, HZ, bw⟩, ?_⟩)
              repeat ((first | with_reducible apply eag_move | with_reducible apply eag_assign | ((with_reducible refine eag_soft (v := ?_) (fun w' hw' => ?_) ?_); rotate_left 1; (focus (obtain ⟨hQ, hZ, hBw⟩ := hw'; obtain ⟨hcQ, hfQ⟩ := hQ.facts; obtain ⟨hcZ, hfZ⟩ := hZ.facts; go_simp; (try with_reducible rfl); done))) | ((refine eag_skip (by rfl) ?_)) | ((refine eag_soft_g (v := ?_) (by rfl) (fun w' hw' => ?_) ?_); rotate_left 1; (focus (obtain ⟨hQ, hZ, hBw⟩ := hw'; obtain ⟨hcQ, hfQ⟩ := hQ.facts; obtain ⟨hcZ, hfZ⟩ := hZ.facts; go_simp; (try with_reducible rfl); done)))); simp only [Act.put, Act.eval, List.setIfInBounds_toArray, List.set_cons_zero, List.set_cons_succ, Array.getD_eq_getD_getElem?, List.getElem?_toArray, List.getElem?_cons_zero, List.getElem?_cons_succ, Option.getD_some])
              refine eag_hard ?_
              go_wp2_with fail
              (try refine ⟨⟨HQ, HZ, bw⟩, ?_⟩)
              repeat ((first | with_reducible apply eag_move | with_reducible apply eag_assign | ((with_reducible refine eag_soft (v := ?_) (fun w' hw' => ?_) ?_); rotate_left 1; (focus (obtain ⟨hQ, hZ, hBw⟩ := hw'; obtain ⟨hcQ, hfQ⟩ := hQ.facts; obtain ⟨hcZ, hfZ⟩ := hZ.facts; go_simp; (try with_reducible rfl); done))) | ((refine eag_skip (by rfl) ?_)) | ((refine eag_soft_g (v := ?_) (by rfl) (fun w' hw' => ?_) ?_); rotate_left 1; (focus (obtain ⟨hQ, hZ, hBw⟩ := hw'; obtain ⟨hcQ, hfQ⟩ := hQ.facts; obtain ⟨hcZ, hfZ⟩ := hZ.facts; go_simp; (try with_reducible rfl); done)))); simp only [Act.put, Act.eval, List.setIfInBounds_toArray, List.set_cons_zero, List.set_cons_succ, Array.getD_eq_getD_getElem?, List.getElem?_toArray, List.getElem?_cons_zero, List.getElem?_cons_succ, Option.getD_some])
              refine eag_hard ?_
              go_wp2_with fail
              (try refine ⟨⟨HQ, HZ, bw⟩, ?_⟩)
              repeat ((first | with_reducible apply eag_move | with_reducible apply eag_assign | ((with_reducible refine eag_soft (v := ?_) (fun w' hw' => ?_) ?_); rotate_left 1; (focus (obtain ⟨hQ, hZ, hBw⟩ := hw'; obtain ⟨hcQ, hfQ⟩ := hQ.facts; obtain ⟨hcZ, hfZ⟩ := hZ.facts; go_simp; (try with_reducible rfl); done))) | ((refine eag_skip (by rfl) ?_)) | ((refine eag_soft_g (v := ?_) (by rfl) (fun w' hw' => ?_) ?_); rotate_left 1; (focus (obtain ⟨hQ, hZ, hBw⟩ := hw'; obtain ⟨hcQ, hfQ⟩ := hQ.facts; obtain ⟨hcZ, hfZ⟩ := hZ.facts; go_simp; (try with_reducible rfl); done)))); simp only [Act.put, Act.eval, List.setIfInBounds_toArray, List.set_cons_zero, List.set_cons_succ, Array.getD_eq_getD_getElem?, List.getElem?_toArray, List.getElem?_cons_zero, List.getElem?_cons_succ, Option.getD_some])
              refine eag_nil ?_
              go_wp2_with fail
              go_meet
              exact ⟨rfl, HS, HR, HQ, HZ, bw⟩
          · have hb1 : (e1 == 0) = false := by simpa using he1
            (refine wp_region_eag (fun w' => Hd w' w10.heap.size 23 #[.int .i64 a1.lo, .int .i64 a1.hi] ∧ Hd w' w11.heap.size 23 #[.int .i64 a2.lo, .int .i64 a2.hi] ∧ Below w.heap.size w w') [(0, true), (1, true), (2, true), (3, true), (4, true), (5, true), (6, true), (7, true), (9, true), (8, false), (10, false), (11, false), (12, true), (13, true)] (by kernel_rfl) (by kernel_rfl) (fun c d v a w h => by cases d <;> exact h) ⟨HQ, HZ, bw⟩ ?_; simp only [List.map_cons, List.map_nil, List.getD_cons_zero, List.getD_cons_succ, flMark, Nat.reduceEqDiff, ↓reduceIte])
            repeat ((first | with_reducible apply eag_move | with_reducible apply eag_assign | ((with_reducible refine eag_soft (v := ?_) (fun w' hw' => ?_) ?_); rotate_left 1; (focus (obtain ⟨hQ, hZ, hBw⟩ := hw'; obtain ⟨hcQ, hfQ⟩ := hQ.facts; obtain ⟨hcZ, hfZ⟩ := hZ.facts; go_simp; (try with_reducible rfl); done))) | ((refine eag_skip (by rfl) ?_)) | ((refine eag_soft_g (v := ?_) (by rfl) (fun w' hw' => ?_) ?_); rotate_left 1; (focus (obtain ⟨hQ, hZ, hBw⟩ := hw'; obtain ⟨hcQ, hfQ⟩ := hQ.facts; obtain ⟨hcZ, hfZ⟩ := hZ.facts; go_simp; (try with_reducible rfl); done)))); simp only [Act.put, Act.eval, List.setIfInBounds_toArray, List.set_cons_zero, List.set_cons_succ, Array.getD_eq_getD_getElem?, List.getElem?_toArray, List.getElem?_cons_zero, List.getElem?_cons_succ, Option.getD_some])
            refine eag_hard ?_
            go_wp2_with fail
            (try refine ⟨⟨HQ, HZ, bw⟩, ?_⟩)
            repeat ((first | with_reducible apply eag_move | with_reducible apply eag_assign | ((with_reducible refine eag_soft (v := ?_) (fun w' hw' => ?_) ?_); rotate_left 1; (focus (obtain ⟨hQ, hZ, hBw⟩ := hw'; obtain ⟨hcQ, hfQ⟩ := hQ.facts; obtain ⟨hcZ, hfZ⟩ := hZ.facts; go_simp; (try with_reducible rfl); done))) | ((refine eag_skip (by rfl) ?_)) | ((refine eag_soft_g (v := ?_) (by rfl) (fun w' hw' => ?_) ?_); rotate_left 1; (focus (obtain ⟨hQ, hZ, hBw⟩ := hw'; obtain ⟨hcQ, hfQ⟩ := hQ.facts; obtain ⟨hcZ, hfZ⟩ := hZ.facts; go_simp; (try with_reducible rfl); done)))); simp only [Act.put, Act.eval, List.setIfInBounds_toArray, List.set_cons_zero, List.set_cons_succ, Array.getD_eq_getD_getElem?, List.getElem?_toArray, List.getElem?_cons_zero, List.getElem?_cons_succ, Option.getD_some])
            refine eag_hard ?_
            go_wp2_with fail
            (try refine ⟨⟨HQ, HZ, bw⟩, ?_⟩)
            repeat ((first | with_reducible apply eag_move | with_reducible apply eag_assign | ((with_reducible refine eag_soft (v := ?_) (fun w' hw' => ?_) ?_); rotate_left 1; (focus (obtain ⟨hQ, hZ, hBw⟩ := hw'; obtain ⟨hcQ, hfQ⟩ := hQ.facts; obtain ⟨hcZ, hfZ⟩ := hZ.facts; go_simp; (try with_reducible rfl); done))) | ((refine eag_skip (by rfl) ?_)) | ((refine eag_soft_g (v := ?_) (by rfl) (fun w' hw' => ?_) ?_); rotate_left 1; (focus (obtain ⟨hQ, hZ, hBw⟩ := hw'; obtain ⟨hcQ, hfQ⟩ := hQ.facts; obtain ⟨hcZ, hfZ⟩ := hZ.facts; go_simp; (try with_reducible rfl); done)))); simp only [Act.put, Act.eval, List.setIfInBounds_toArray, List.set_cons_zero, List.set_cons_succ, Array.getD_eq_getD_getElem?, List.getElem?_toArray, List.getElem?_cons_zero, List.getElem?_cons_succ, Option.getD_some])
            refine eag_hard ?_
            go_wp2_with fail
            (try refine ⟨⟨HQ, HZ, bw⟩, ?_⟩)
            repeat ((first | with_reducible apply eag_move | with_reducible apply eag_assign | ((with_reducible refine eag_soft (v := ?_) (fun w' hw' => ?_) ?_); rotate_left 1; (focus (obtain ⟨hQ, hZ, hBw⟩ := hw'; obtain ⟨hcQ, hfQ⟩ := hQ.facts; obtain ⟨hcZ, hfZ⟩ := hZ.facts; go_simp; (try with_reducible rfl); done))) | ((refine eag_skip (by rfl) ?_)) | ((refine eag_soft_g (v := ?_) (by rfl) (fun w' hw' => ?_) ?_); rotate_left 1; (focus (obtain ⟨hQ, hZ, hBw⟩ := hw'; obtain ⟨hcQ, hfQ⟩ := hQ.facts; obtain ⟨hcZ, hfZ⟩ := hZ.facts; go_simp; (try with_reducible rfl); done)))); simp only [Act.put, Act.eval, List.setIfInBounds_toArray, List.set_cons_zero, List.set_cons_succ, Array.getD_eq_getD_getElem?, List.getElem?_toArray, List.getElem?_cons_zero, List.getElem?_cons_succ, Option.getD_some])
            refine eag_nil ?_
            go_wp2_with fail
            go_meet
            exact ⟨rfl, HS, HR, HQ, HZ, bw⟩
  case first =>
    replace HX : Hd (w2.drew) w.heap.size 25 #[.int .i64 x.re.lo, .int .i64 x.re.hi, .int .i64 x.im.lo, .int .i64 x.im.hi] := by (with_reducible repeat' (first | assumption | (apply hdN; (try simp only [sA, sS, sD]); done) | apply hdA | apply hdD | apply hdS | (apply hdF; case hp => first | (simp; done) | (simp; omega)) | with_unfolding_all rfl))
    replace HS : Hd (w2.drew) (w.heap.size + 1) 23 #[.int .i64 s.lo, .int .i64 s.hi] := by (with_reducible repeat' (first | assumption | (apply hdN; (try simp only [sA, sS, sD]); done) | apply hdA | apply hdD | apply hdS | (apply hdF; case hp => first | (simp; done) | (simp; omega)) | with_unfolding_all rfl))
    replace HB : Hd (w2.drew) (w.heap.size + 2) 54 #[.int .u16 a, .int .u16 b, .int .u16 c, .int .u16 d] := by (with_reducible repeat' (first | assumption | (apply hdN; (try simp only [sA, sS, sD]); done) | apply hdA | apply hdD | apply hdS | (apply hdF; case hp => first | (simp; done) | (simp; omega)) | with_unfolding_all rfl))
    replace HP : Hd (w2.drew) w1.heap.size 25 #[.int .i64 p.re.lo, .int .i64 p.re.hi, .int .i64 p.im.lo, .int .i64 p.im.hi] := by (with_reducible repeat' (first | assumption | (apply hdN; (try simp only [sA, sS, sD]); done) | apply hdA | apply hdD | apply hdS | (apply hdF; case hp => first | (simp; done) | (simp; omega)) | with_unfolding_all rfl))
    replace bw : Below w.heap.size w (w2.drew) := by go_grown
    (refine wp_region_fl (fun w' => Hd w' (w.heap.size + 1) 23 #[.int .i64 s.lo, .int .i64 s.hi] ∧ Hd w' (w.heap.size + 2) 54 #[.int .u16 a, .int .u16 b, .int .u16 c, .int .u16 d] ∧ Below w.heap.size w w') 9 [(0, 0), (2, 0), (3, 0), (4, 0), (5, 0), (6, 0), (1, 2), (7, 2), (8, 2), (9, 1), (10, 1)] (by kernel_rfl) (by kernel_rfl) (fun c d v a w h => by cases d <;> exact h) ⟨HS, HB, bw⟩ ?_; simp only [List.map_cons, List.map_nil, List.getD_cons_zero, List.getD_cons_succ, flMark, Nat.reduceEqDiff, ↓reduceIte])
    generalize hW : w2.drew = w3 at HX HS HB HP bw ⊢
    clear hW
    have lw3 : w.heap.size ≤ w3.heap.size := bw.size
    repeat ((first | with_reducible apply fl_move | with_reducible apply fl_assign | ((with_reducible refine fl_soft (v := ?_) (fun w' hw' => ?_) ?_); rotate_left 1; (focus (obtain ⟨hS, hB, hBw⟩ := hw'; obtain ⟨hcS, hfS⟩ := hS.facts; obtain ⟨hcB, hfB⟩ := hB.facts; go_simp; (try with_reducible rfl); done)))); simp only [Act.put, Act.eval, List.setIfInBounds_toArray, List.set_cons_zero, List.set_cons_succ, Array.getD_eq_getD_getElem?, List.getElem?_toArray, List.getElem?_cons_zero, List.getElem?_cons_succ, Option.getD_some])
    refine fl_both ?_ ?_
    · go_wp2_with fail
      refine (V1.out _).mono ?_
      rintro e w4 ⟨rfl, hb4⟩
      replace bw : Below w.heap.size w w4 := below_next bw hb4
      replace HX := HX.call hb4
      replace HS := HS.call hb4
      replace HB := HB.call hb4
      replace HP := HP.call hb4
      have lw4 : w.heap.size ≤ w4.heap.size := bw.size
      clear hb4
      go_wp2_with fail
      (try refine ⟨⟨HS, HB, bw⟩, ?_⟩)
      repeat ((first | with_reducible apply fl_move | with_reducible apply fl_assign | ((with_reducible refine fl_soft (v := ?_) (fun w' hw' => ?_) ?_); rotate_left 1; (focus (obtain ⟨hS, hB, hBw⟩ := hw'; obtain ⟨hcS, hfS⟩ := hS.facts; obtain ⟨hcB, hfB⟩ := hB.facts; go_simp; (try with_reducible rfl); done)))); simp only [Act.put, Act.eval, List.setIfInBounds_toArray, List.set_cons_zero, List.set_cons_succ, Array.getD_eq_getD_getElem?, List.getElem?_toArray, List.getElem?_cons_zero, List.getElem?_cons_succ, Option.getD_some])
      refine fl_both ?_ ?_
      · go_wp2_with fail
        refine (W2.out _).mono ?_
        rintro e w5 ⟨rfl, hb5⟩
        replace bw : Below w.heap.size w w5 := below_next bw hb5
        replace HX := HX.call hb5
        replace HS := HS.call hb5
        replace HB := HB.call hb5
        replace HP := HP.call hb5
        have lw5 : w.heap.size ≤ w5.heap.size := bw.size
        clear hb5
        go_wp2_with fail
        (try refine ⟨⟨HS, HB, bw⟩, ?_⟩)
        repeat ((first | with_reducible apply fl_move | with_reducible apply fl_assign | ((with_reducible refine fl_soft (v := ?_) (fun w' hw' => ?_) ?_); rotate_left 1; (focus (obtain ⟨hS, hB, hBw⟩ := hw'; obtain ⟨hcS, hfS⟩ := hS.facts; obtain ⟨hcB, hfB⟩ := hB.facts; go_simp; (try with_reducible rfl); done)))); simp only [Act.put, Act.eval, List.setIfInBounds_toArray, List.set_cons_zero, List.set_cons_succ, Array.getD_eq_getD_getElem?, List.getElem?_toArray, List.getElem?_cons_zero, List.getElem?_cons_succ, Option.getD_some])
        refine fl_both ?_ ?_
        · go_wp2_with fail
          (try refine ⟨⟨HS, HB, bw⟩, ?_⟩)
          repeat ((first | with_reducible apply fl_move | with_reducible apply fl_assign | ((with_reducible refine fl_soft (v := ?_) (fun w' hw' => ?_) ?_); rotate_left 1; (focus (obtain ⟨hS, hB, hBw⟩ := hw'; obtain ⟨hcS, hfS⟩ := hS.facts; obtain ⟨hcB, hfB⟩ := hB.facts; go_simp; (try with_reducible rfl); done)))); simp only [Act.put, Act.eval, List.setIfInBounds_toArray, List.set_cons_zero, List.set_cons_succ, Array.getD_eq_getD_getElem?, List.getElem?_toArray, List.getElem?_cons_zero, List.getElem?_cons_succ, Option.getD_some])
          refine fl_must ?_
          go_wp2_with fail
          have PX := HX
          have PS := HS
          have PB := HB
          have PP := HP
          have Pbw := bw
          have ltXR : w.heap.size < w5.heap.size := by (have := HX.lt; (try simp only [World.size_alloc, World.size_setCell, World.size_drew] at this); omega)
          have ltSR : (w.heap.size + 1) < w5.heap.size := by (have := HS.lt; (try simp only [World.size_alloc, World.size_setCell, World.size_drew] at this); omega)
          have ltBR : (w.heap.size + 2) < w5.heap.size := by (have := HB.lt; (try simp only [World.size_alloc, World.size_setCell, World.size_drew] at this); omega)
          have ltPR : w1.heap.size < w5.heap.size := by (have := HP.lt; (try simp only [World.size_alloc, World.size_setCell, World.size_drew] at this); omega)
          replace HX : Hd (w5.alloc (.cells #[.int .i64 0, .int .i64 0] 23)) w.heap.size 25 #[.int .i64 x.re.lo, .int .i64 x.re.hi, .int .i64 x.im.lo, .int .i64 x.im.hi] := by (with_reducible repeat' (first | assumption | (apply hdN; (try simp only [sA, sS, sD]); done) | apply hdA | apply hdD | apply hdS | (apply hdF; case hp => first | (simp; done) | (simp; omega)) | with_unfolding_all rfl))
          replace HS : Hd (w5.alloc (.cells #[.int .i64 0, .int .i64 0] 23)) (w.heap.size + 1) 23 #[.int .i64 s.lo, .int .i64 s.hi] := by (with_reducible repeat' (first | assumption | (apply hdN; (try simp only [sA, sS, sD]); done) | apply hdA | apply hdD | apply hdS | (apply hdF; case hp => first | (simp; done) | (simp; omega)) | with_unfolding_all rfl))
          replace HB : Hd (w5.alloc (.cells #[.int .i64 0, .int .i64 0] 23)) (w.heap.size + 2) 54 #[.int .u16 a, .int .u16 b, .int .u16 c, .int .u16 d] := by (with_reducible repeat' (first | assumption | (apply hdN; (try simp only [sA, sS, sD]); done) | apply hdA | apply hdD | apply hdS | (apply hdF; case hp => first | (simp; done) | (simp; omega)) | with_unfolding_all rfl))
          replace HP : Hd (w5.alloc (.cells #[.int .i64 0, .int .i64 0] 23)) w1.heap.size 25 #[.int .i64 p.re.lo, .int .i64 p.re.hi, .int .i64 p.im.lo, .int .i64 p.im.hi] := by (with_reducible repeat' (first | assumption | (apply hdN; (try simp only [sA, sS, sD]); done) | apply hdA | apply hdD | apply hdS | (apply hdF; case hp => first | (simp; done) | (simp; omega)) | with_unfolding_all rfl))
          replace bw : Below w.heap.size w (w5.alloc (.cells #[.int .i64 0, .int .i64 0] 23)) := by go_grown
          have HR : Hd (w5.alloc (.cells #[.int .i64 0, .int .i64 0] 23)) w5.heap.size 23 #[.int .i64 0, .int .i64 0] := by (with_reducible repeat' (first | assumption | (apply hdN; (try simp only [sA, sS, sD]); done) | apply hdA | apply hdD | apply hdS | (apply hdF; case hp => first | (simp; done) | (simp; omega)) | with_unfolding_all rfl))
          (try refine ⟨⟨HS, HB, bw⟩, ?_⟩)
          repeat ((first | with_reducible apply fl_move | with_reducible apply fl_assign | ((with_reducible refine fl_soft (v := ?_) (fun w' hw' => ?_) ?_); rotate_left 1; (focus (obtain ⟨hS, hB, hBw⟩ := hw'; obtain ⟨hcS, hfS⟩ := hS.facts; obtain ⟨hcB, hfB⟩ := hB.facts; go_simp; (try with_reducible rfl); done)))); simp only [Act.put, Act.eval, List.setIfInBounds_toArray, List.set_cons_zero, List.set_cons_succ, Array.getD_eq_getD_getElem?, List.getElem?_toArray, List.getElem?_cons_zero, List.getElem?_cons_succ, Option.getD_some])
          repeat ((first | with_reducible apply fl_move | with_reducible apply fl_assign | ((with_reducible refine fl_soft (v := ?_) (fun w' hw' => ?_) ?_); rotate_left 1; (focus (obtain ⟨hS, hB, hBw⟩ := hw'; obtain ⟨hcS, hfS⟩ := hS.facts; obtain ⟨hcB, hfB⟩ := hB.facts; go_simp; (try with_reducible rfl); done)))); simp only [Act.put, Act.eval, List.setIfInBounds_toArray, List.set_cons_zero, List.set_cons_succ, Array.getD_eq_getD_getElem?, List.getElem?_toArray, List.getElem?_cons_zero, List.getElem?_cons_succ, Option.getD_some])
          refine fl_hard ?_
          obtain ⟨hcR, hfR⟩ := HR.facts
          go_wp2_with fail
          replace HX : Hd (w5.alloc (.cells #[.int .i64 r.lo, .int .i64 r.hi] 23)) w.heap.size 25 #[.int .i64 x.re.lo, .int .i64 x.re.hi, .int .i64 x.im.lo, .int .i64 x.im.hi] := by (with_reducible repeat' (first | assumption | (apply hdN; (try simp only [sA, sS, sD]); done) | apply hdA | apply hdD | apply hdS | (apply hdF; case hp => first | (simp; done) | (simp; omega)) | with_unfolding_all rfl))
          replace HS : Hd (w5.alloc (.cells #[.int .i64 r.lo, .int .i64 r.hi] 23)) (w.heap.size + 1) 23 #[.int .i64 s.lo, .int .i64 s.hi] := by (with_reducible repeat' (first | assumption | (apply hdN; (try simp only [sA, sS, sD]); done) | apply hdA | apply hdD | apply hdS | (apply hdF; case hp => first | (simp; done) | (simp; omega)) | with_unfolding_all rfl))
          replace HB : Hd (w5.alloc (.cells #[.int .i64 r.lo, .int .i64 r.hi] 23)) (w.heap.size + 2) 54 #[.int .u16 a, .int .u16 b, .int .u16 c, .int .u16 d] := by (with_reducible repeat' (first | assumption | (apply hdN; (try simp only [sA, sS, sD]); done) | apply hdA | apply hdD | apply hdS | (apply hdF; case hp => first | (simp; done) | (simp; omega)) | with_unfolding_all rfl))
          replace HP : Hd (w5.alloc (.cells #[.int .i64 r.lo, .int .i64 r.hi] 23)) w1.heap.size 25 #[.int .i64 p.re.lo, .int .i64 p.re.hi, .int .i64 p.im.lo, .int .i64 p.im.hi] := by (with_reducible repeat' (first | assumption | (apply hdN; (try simp only [sA, sS, sD]); done) | apply hdA | apply hdD | apply hdS | (apply hdF; case hp => first | (simp; done) | (simp; omega)) | with_unfolding_all rfl))
          replace HR : Hd (w5.alloc (.cells #[.int .i64 r.lo, .int .i64 r.hi] 23)) w5.heap.size 23 #[.int .i64 r.lo, .int .i64 r.hi] := by (with_reducible repeat' (first | assumption | (apply hdN; (try simp only [sA, sS, sD]); done) | apply hdA | apply hdD | apply hdS | (apply hdF; case hp => first | (simp; done) | (simp; omega)) | with_unfolding_all rfl))
          replace bw : Below w.heap.size w (w5.alloc (.cells #[.int .i64 r.lo, .int .i64 r.hi] 23)) := by go_grown
          (try refine ⟨⟨HS, HB, bw⟩, ?_⟩)
          repeat ((first | with_reducible apply fl_move | with_reducible apply fl_assign | ((with_reducible refine fl_soft (v := ?_) (fun w' hw' => ?_) ?_); rotate_left 1; (focus (obtain ⟨hS, hB, hBw⟩ := hw'; obtain ⟨hcS, hfS⟩ := hS.facts; obtain ⟨hcB, hfB⟩ := hB.facts; go_simp; (try with_reducible rfl); done)))); simp only [Act.put, Act.eval, List.setIfInBounds_toArray, List.set_cons_zero, List.set_cons_succ, Array.getD_eq_getD_getElem?, List.getElem?_toArray, List.getElem?_cons_zero, List.getElem?_cons_succ, Option.getD_some])
          refine fl_nil ?_
          go_wp2_with fail
          go_meet
          exact ⟨w5.heap.size, rfl, by omega, by omega, HX, HS, HP, HR, bw⟩
        · go_wp2_with fail
          have PX := HX
          have PS := HS
          have PB := HB
          have PP := HP
          have Pbw := bw
          have ltXR : w.heap.size < w5.heap.size := by (have := HX.lt; (try simp only [World.size_alloc, World.size_setCell, World.size_drew] at this); omega)
          have ltSR : (w.heap.size + 1) < w5.heap.size := by (have := HS.lt; (try simp only [World.size_alloc, World.size_setCell, World.size_drew] at this); omega)
          have ltBR : (w.heap.size + 2) < w5.heap.size := by (have := HB.lt; (try simp only [World.size_alloc, World.size_setCell, World.size_drew] at this); omega)
          have ltPR : w1.heap.size < w5.heap.size := by (have := HP.lt; (try simp only [World.size_alloc, World.size_setCell, World.size_drew] at this); omega)
          replace HX : Hd (w5.alloc (.cells #[.int .i64 0, .int .i64 0] 23)) w.heap.size 25 #[.int .i64 x.re.lo, .int .i64 x.re.hi, .int .i64 x.im.lo, .int .i64 x.im.hi] := by (with_reducible repeat' (first | assumption | (apply hdN; (try simp only [sA, sS, sD]); done) | apply hdA | apply hdD | apply hdS | (apply hdF; case hp => first | (simp; done) | (simp; omega)) | with_unfolding_all rfl))
          replace HS : Hd (w5.alloc (.cells #[.int .i64 0, .int .i64 0] 23)) (w.heap.size + 1) 23 #[.int .i64 s.lo, .int .i64 s.hi] := by (with_reducible repeat' (first | assumption | (apply hdN; (try simp only [sA, sS, sD]); done) | apply hdA | apply hdD | apply hdS | (apply hdF; case hp => first | (simp; done) | (simp; omega)) | with_unfolding_all rfl))
          replace HB : Hd (w5.alloc (.cells #[.int .i64 0, .int .i64 0] 23)) (w.heap.size + 2) 54 #[.int .u16 a, .int .u16 b, .int .u16 c, .int .u16 d] := by (with_reducible repeat' (first | assumption | (apply hdN; (try simp only [sA, sS, sD]); done) | apply hdA | apply hdD | apply hdS | (apply hdF; case hp => first | (simp; done) | (simp; omega)) | with_unfolding_all rfl))
          replace HP : Hd (w5.alloc (.cells #[.int .i64 0, .int .i64 0] 23)) w1.heap.size 25 #[.int .i64 p.re.lo, .int .i64 p.re.hi, .int .i64 p.im.lo, .int .i64 p.im.hi] := by (with_reducible repeat' (first | assumption | (apply hdN; (try simp only [sA, sS, sD]); done) | apply hdA | apply hdD | apply hdS | (apply hdF; case hp => first | (simp; done) | (simp; omega)) | with_unfolding_all rfl))
          replace bw : Below w.heap.size w (w5.alloc (.cells #[.int .i64 0, .int .i64 0] 23)) := by go_grown
          have HR : Hd (w5.alloc (.cells #[.int .i64 0, .int .i64 0] 23)) w5.heap.size 23 #[.int .i64 0, .int .i64 0] := by (with_reducible repeat' (first | assumption | (apply hdN; (try simp only [sA, sS, sD]); done) | apply hdA | apply hdD | apply hdS | (apply hdF; case hp => first | (simp; done) | (simp; omega)) | with_unfolding_all rfl))
          (try refine ⟨⟨HS, HB, bw⟩, ?_⟩)
          repeat ((first | with_reducible apply eag_move | with_reducible apply eag_assign | ((with_reducible refine eag_soft (v := ?_) (fun w' hw' => ?_) ?_); rotate_left 1; (focus (obtain ⟨hS, hB, hBw⟩ := hw'; obtain ⟨hcS, hfS⟩ := hS.facts; obtain ⟨hcB, hfB⟩ := hB.facts; go_simp; (try with_reducible rfl); done)))); simp only [Act.put, Act.eval, List.setIfInBounds_toArray, List.set_cons_zero, List.set_cons_succ, Array.getD_eq_getD_getElem?, List.getElem?_toArray, List.getElem?_cons_zero, List.getElem?_cons_succ, Option.getD_some])
          repeat ((first | with_reducible apply eag_move | with_reducible apply eag_assign | ((with_reducible refine eag_soft (v := ?_) (fun w' hw' => ?_) ?_); rotate_left 1; (focus (obtain ⟨hS, hB, hBw⟩ := hw'; obtain ⟨hcS, hfS⟩ := hS.facts; obtain ⟨hcB, hfB⟩ := hB.facts; go_simp; (try with_reducible rfl); done)))); simp only [Act.put, Act.eval, List.setIfInBounds_toArray, List.set_cons_zero, List.set_cons_succ, Array.getD_eq_getD_getElem?, List.getElem?_toArray, List.getElem?_cons_zero, List.getElem?_cons_succ, Option.getD_some])
          refine eag_hard ?_
          go_wp2_with fail
          (try refine ⟨⟨HS, HB, bw⟩, ?_⟩)
          repeat ((first | with_reducible apply eag_move | with_reducible apply eag_assign | ((with_reducible refine eag_soft (v := ?_) (fun w' hw' => ?_) ?_); rotate_left 1; (focus (obtain ⟨hS, hB, hBw⟩ := hw'; obtain ⟨hcS, hfS⟩ := hS.facts; obtain ⟨hcB, hfB⟩ := hB.facts; go_simp; (try with_reducible rfl); done)))); simp only [Act.put, Act.eval, List.setIfInBounds_toArray, List.set_cons_zero, List.set_cons_succ, Array.getD_eq_getD_getElem?, List.getElem?_toArray, List.getElem?_cons_zero, List.getElem?_cons_succ, Option.getD_some])
          refine eag_hard ?_
          obtain ⟨hcR, hfR⟩ := HR.facts
          go_wp2_with fail
          replace HX : Hd (w5.alloc (.cells #[.int .i64 r.lo, .int .i64 r.hi] 23)) w.heap.size 25 #[.int .i64 x.re.lo, .int .i64 x.re.hi, .int .i64 x.im.lo, .int .i64 x.im.hi] := by (with_reducible repeat' (first | assumption | (apply hdN; (try simp only [sA, sS, sD]); done) | apply hdA | apply hdD | apply hdS | (apply hdF; case hp => first | (simp; done) | (simp; omega)) | with_unfolding_all rfl))
          replace HS : Hd (w5.alloc (.cells #[.int .i64 r.lo, .int .i64 r.hi] 23)) (w.heap.size + 1) 23 #[.int .i64 s.lo, .int .i64 s.hi] := by (with_reducible repeat' (first | assumption | (apply hdN; (try simp only [sA, sS, sD]); done) | apply hdA | apply hdD | apply hdS | (apply hdF; case hp => first | (simp; done) | (simp; omega)) | with_unfolding_all rfl))
          replace HB : Hd (w5.alloc (.cells #[.int .i64 r.lo, .int .i64 r.hi] 23)) (w.heap.size + 2) 54 #[.int .u16 a, .int .u16 b, .int .u16 c, .int .u16 d] := by (with_reducible repeat' (first | assumption | (apply hdN; (try simp only [sA, sS, sD]); done) | apply hdA | apply hdD | apply hdS | (apply hdF; case hp => first | (simp; done) | (simp; omega)) | with_unfolding_all rfl))
          replace HP : Hd (w5.alloc (.cells #[.int .i64 r.lo, .int .i64 r.hi] 23)) w1.heap.size 25 #[.int .i64 p.re.lo, .int .i64 p.re.hi, .int .i64 p.im.lo, .int .i64 p.im.hi] := by (with_reducible repeat' (first | assumption | (apply hdN; (try simp only [sA, sS, sD]); done) | apply hdA | apply hdD | apply hdS | (apply hdF; case hp => first | (simp; done) | (simp; omega)) | with_unfolding_all rfl))
          replace HR : Hd (w5.alloc (.cells #[.int .i64 r.lo, .int .i64 r.hi] 23)) w5.heap.size 23 #[.int .i64 r.lo, .int .i64 r.hi] := by (with_reducible repeat' (first | assumption | (apply hdN; (try simp only [sA, sS, sD]); done) | apply hdA | apply hdD | apply hdS | (apply hdF; case hp => first | (simp; done) | (simp; omega)) | with_unfolding_all rfl))
          replace bw : Below w.heap.size w (w5.alloc (.cells #[.int .i64 r.lo, .int .i64 r.hi] 23)) := by go_grown
          (try refine ⟨⟨HS, HB, bw⟩, ?_⟩)
          repeat ((first | with_reducible apply eag_move | with_reducible apply eag_assign | ((with_reducible refine eag_soft (v := ?_) (fun w' hw' => ?_) ?_); rotate_left 1; (focus (obtain ⟨hS, hB, hBw⟩ := hw'; obtain ⟨hcS, hfS⟩ := hS.facts; obtain ⟨hcB, hfB⟩ := hB.facts; go_simp; (try with_reducible rfl); done)))); simp only [Act.put, Act.eval, List.setIfInBounds_toArray, List.set_cons_zero, List.set_cons_succ, Array.getD_eq_getD_getElem?, List.getElem?_toArray, List.getElem?_cons_zero, List.getElem?_cons_succ, Option.getD_some])
          refine eag_nil ?_
          go_wp2_with fail
          go_meet
          exact ⟨w5.heap.size, rfl, by omega, by omega, HX, HS, HP, HR, bw⟩
      · go_wp2_with fail
        have PX := HX
        have PS := HS
        have PB := HB
        have PP := HP
        have Pbw := bw
        have ltXR : w.heap.size < w4.heap.size := by (have := HX.lt; (try simp only [World.size_alloc, World.size_setCell, World.size_drew] at this); omega)
        have ltSR : (w.heap.size + 1) < w4.heap.size := by (have := HS.lt; (try simp only [World.size_alloc, World.size_setCell, World.size_drew] at this); omega)
        have ltBR : (w.heap.size + 2) < w4.heap.size := by (have := HB.lt; (try simp only [World.size_alloc, World.size_setCell, World.size_drew] at this); omega)
        have ltPR : w1.heap.size < w4.heap.size := by (have := HP.lt; (try simp only [World.size_alloc, World.size_setCell, World.size_drew] at this); omega)
        replace HX : Hd (w4.alloc (.cells #[.int .i64 0, .int .i64 0] 23)) w.heap.size 25 #[.int .i64 x.re.lo, .int .i64 x.re.hi, .int .i64 x.im.lo, .int .i64 x.im.hi] := by (with_reducible repeat' (first | assumption | (apply hdN; (try simp only [sA, sS, sD]); done) | apply hdA | apply hdD | apply hdS | (apply hdF; case hp => first | (simp; done) | (simp; omega)) | with_unfolding_all rfl))
        replace HS : Hd (w4.alloc (.cells #[.int .i64 0, .int .i64 0] 23)) (w.heap.size + 1) 23 #[.int .i64 s.lo, .int .i64 s.hi] := by (with_reducible repeat' (first | assumption | (apply hdN; (try simp only [sA, sS, sD]); done) | apply hdA | apply hdD | apply hdS | (apply hdF; case hp => first | (simp; done) | (simp; omega)) | with_unfolding_all rfl))
        replace HB : Hd (w4.alloc (.cells #[.int .i64 0, .int .i64 0] 23)) (w.heap.size + 2) 54 #[.int .u16 a, .int .u16 b, .int .u16 c, .int .u16 d] := by (with_reducible repeat' (first | assumption | (apply hdN; (try simp only [sA, sS, sD]); done) | apply hdA | apply hdD | apply hdS | (apply hdF; case hp => first | (simp; done) | (simp; omega)) | with_unfolding_all rfl))
        replace HP : Hd (w4.alloc (.cells #[.int .i64 0, .int .i64 0] 23)) w1.heap.size 25 #[.int .i64 p.re.lo, .int .i64 p.re.hi, .int .i64 p.im.lo, .int .i64 p.im.hi] := by (with_reducible repeat' (first | assumption | (apply hdN; (try simp only [sA, sS, sD]); done) | apply hdA | apply hdD | apply hdS | (apply hdF; case hp => first | (simp; done) | (simp; omega)) | with_unfolding_all rfl))
        replace bw : Below w.heap.size w (w4.alloc (.cells #[.int .i64 0, .int .i64 0] 23)) := by go_grown
        have HR : Hd (w4.alloc (.cells #[.int .i64 0, .int .i64 0] 23)) w4.heap.size 23 #[.int .i64 0, .int .i64 0] := by (with_reducible repeat' (first | assumption | (apply hdN; (try simp only [sA, sS, sD]); done) | apply hdA | apply hdD | apply hdS | (apply hdF; case hp => first | (simp; done) | (simp; omega)) | with_unfolding_all rfl))
        (try refine ⟨⟨HS, HB, bw⟩, ?_⟩)
        repeat ((first | with_reducible apply eag_move | with_reducible apply eag_assign | ((with_reducible refine eag_soft (v := ?_) (fun w' hw' => ?_) ?_); rotate_left 1; (focus (obtain ⟨hS, hB, hBw⟩ := hw'; obtain ⟨hcS, hfS⟩ := hS.facts; obtain ⟨hcB, hfB⟩ := hB.facts; go_simp; (try with_reducible rfl); done)))); simp only [Act.put, Act.eval, List.setIfInBounds_toArray, List.set_cons_zero, List.set_cons_succ, Array.getD_eq_getD_getElem?, List.getElem?_toArray, List.getElem?_cons_zero, List.getElem?_cons_succ, Option.getD_some])
        repeat ((first | with_reducible apply eag_move | with_reducible apply eag_assign | ((with_reducible refine eag_soft (v := ?_) (fun w' hw' => ?_) ?_); rotate_left 1; (focus (obtain ⟨hS, hB, hBw⟩ := hw'; obtain ⟨hcS, hfS⟩ := hS.facts; obtain ⟨hcB, hfB⟩ := hB.facts; go_simp; (try with_reducible rfl); done)))); simp only [Act.put, Act.eval, List.setIfInBounds_toArray, List.set_cons_zero, List.set_cons_succ, Array.getD_eq_getD_getElem?, List.getElem?_toArray, List.getElem?_cons_zero, List.getElem?_cons_succ, Option.getD_some])
        refine eag_hard ?_
        go_wp2_with fail
        refine (W2.out _).mono ?_
        rintro e w5 ⟨rfl, hb5⟩
        replace bw : Below w.heap.size w w5 := below_next bw hb5
        replace HX := HX.call hb5
        replace HS := HS.call hb5
        replace HB := HB.call hb5
        replace HP := HP.call hb5
        replace HR := HR.call hb5
        have lw5 : w.heap.size ≤ w5.heap.size := bw.size
        clear hb5
        go_wp2_with fail
        (try refine ⟨⟨HS, HB, bw⟩, ?_⟩)
        repeat ((first | with_reducible apply eag_move | with_reducible apply eag_assign | ((with_reducible refine eag_soft (v := ?_) (fun w' hw' => ?_) ?_); rotate_left 1; (focus (obtain ⟨hS, hB, hBw⟩ := hw'; obtain ⟨hcS, hfS⟩ := hS.facts; obtain ⟨hcB, hfB⟩ := hB.facts; go_simp; (try with_reducible rfl); done)))); simp only [Act.put, Act.eval, List.setIfInBounds_toArray, List.set_cons_zero, List.set_cons_succ, Array.getD_eq_getD_getElem?, List.getElem?_toArray, List.getElem?_cons_zero, List.getElem?_cons_succ, Option.getD_some])
        refine eag_hard ?_
        go_wp2_with fail
        (try refine ⟨⟨HS, HB, bw⟩, ?_⟩)
        repeat ((first | with_reducible apply eag_move | with_reducible apply eag_assign | ((with_reducible refine eag_soft (v := ?_) (fun w' hw' => ?_) ?_); rotate_left 1; (focus (obtain ⟨hS, hB, hBw⟩ := hw'; obtain ⟨hcS, hfS⟩ := hS.facts; obtain ⟨hcB, hfB⟩ := hB.facts; go_simp; (try with_reducible rfl); done)))); simp only [Act.put, Act.eval, List.setIfInBounds_toArray, List.set_cons_zero, List.set_cons_succ, Array.getD_eq_getD_getElem?, List.getElem?_toArray, List.getElem?_cons_zero, List.getElem?_cons_succ, Option.getD_some])
        refine eag_hard ?_
        obtain ⟨hcR, hfR⟩ := HR.facts
        go_wp2_with fail
        have PX := HX
        have PS := HS
        have PB := HB
        have PP := HP
        have PR := HR
        have Pbw := bw
        replace HX : Hd ((w5.setCell ⟨w4.heap.size, 0, none⟩ (.int .i64 r.lo)).setCell ⟨w4.heap.size, 1, none⟩ (.int .i64 r.hi)) w.heap.size 25 #[.int .i64 x.re.lo, .int .i64 x.re.hi, .int .i64 x.im.lo, .int .i64 x.im.hi] := by (with_reducible repeat' (first | assumption | (apply hdN; (try simp only [sA, sS, sD]); done) | apply hdA | apply hdD | apply hdS | (apply hdF; case hp => first | (simp; done) | (simp; omega)) | with_unfolding_all rfl))
        replace HS : Hd ((w5.setCell ⟨w4.heap.size, 0, none⟩ (.int .i64 r.lo)).setCell ⟨w4.heap.size, 1, none⟩ (.int .i64 r.hi)) (w.heap.size + 1) 23 #[.int .i64 s.lo, .int .i64 s.hi] := by (with_reducible repeat' (first | assumption | (apply hdN; (try simp only [sA, sS, sD]); done) | apply hdA | apply hdD | apply hdS | (apply hdF; case hp => first | (simp; done) | (simp; omega)) | with_unfolding_all rfl))
        replace HB : Hd ((w5.setCell ⟨w4.heap.size, 0, none⟩ (.int .i64 r.lo)).setCell ⟨w4.heap.size, 1, none⟩ (.int .i64 r.hi)) (w.heap.size + 2) 54 #[.int .u16 a, .int .u16 b, .int .u16 c, .int .u16 d] := by (with_reducible repeat' (first | assumption | (apply hdN; (try simp only [sA, sS, sD]); done) | apply hdA | apply hdD | apply hdS | (apply hdF; case hp => first | (simp; done) | (simp; omega)) | with_unfolding_all rfl))
        replace HP : Hd ((w5.setCell ⟨w4.heap.size, 0, none⟩ (.int .i64 r.lo)).setCell ⟨w4.heap.size, 1, none⟩ (.int .i64 r.hi)) w1.heap.size 25 #[.int .i64 p.re.lo, .int .i64 p.re.hi, .int .i64 p.im.lo, .int .i64 p.im.hi] := by (with_reducible repeat' (first | assumption | (apply hdN; (try simp only [sA, sS, sD]); done) | apply hdA | apply hdD | apply hdS | (apply hdF; case hp => first | (simp; done) | (simp; omega)) | with_unfolding_all rfl))
        replace HR : Hd ((w5.setCell ⟨w4.heap.size, 0, none⟩ (.int .i64 r.lo)).setCell ⟨w4.heap.size, 1, none⟩ (.int .i64 r.hi)) w4.heap.size 23 #[.int .i64 r.lo, .int .i64 r.hi] := by (with_reducible repeat' (first | assumption | (apply hdN; (try simp only [sA, sS, sD]); done) | apply hdA | apply hdD | apply hdS | (apply hdF; case hp => first | (simp; done) | (simp; omega)) | with_unfolding_all rfl))
        replace bw : Below w.heap.size w ((w5.setCell ⟨w4.heap.size, 0, none⟩ (.int .i64 r.lo)).setCell ⟨w4.heap.size, 1, none⟩ (.int .i64 r.hi)) := by go_grown
        (try refine ⟨⟨HS, HB, bw⟩, ?_⟩)
        repeat ((first | with_reducible apply eag_move | with_reducible apply eag_assign | ((with_reducible refine eag_soft (v := ?_) (fun w' hw' => ?_) ?_); rotate_left 1; (focus (obtain ⟨hS, hB, hBw⟩ := hw'; obtain ⟨hcS, hfS⟩ := hS.facts; obtain ⟨hcB, hfB⟩ := hB.facts; go_simp; (try with_reducible rfl); done)))); simp only [Act.put, Act.eval, List.setIfInBounds_toArray, List.set_cons_zero, List.set_cons_succ, Array.getD_eq_getD_getElem?, List.getElem?_toArray, List.getElem?_cons_zero, List.getElem?_cons_succ, Option.getD_some])
        refine eag_nil ?_
        go_wp2_with fail
        go_meet
        exact ⟨w4.heap.size, rfl, by omega, by omega, HX, HS, HP, HR, bw⟩
    · go_wp2_with fail
      have PX := HX
      have PS := HS
      have PB := HB
      have PP := HP
      have Pbw := bw
      have ltXR : w.heap.size < w3.heap.size := by (have := HX.lt; (try simp only [World.size_alloc, World.size_setCell, World.size_drew] at this); omega)
      have ltSR : (w.heap.size + 1) < w3.heap.size := by (have := HS.lt; (try simp only [World.size_alloc, World.size_setCell, World.size_drew] at this); omega)
      have ltBR : (w.heap.size + 2) < w3.heap.size := by (have := HB.lt; (try simp only [World.size_alloc, World.size_setCell, World.size_drew] at this); omega)
      have ltPR : w1.heap.size < w3.heap.size := by (have := HP.lt; (try simp only [World.size_alloc, World.size_setCell, World.size_drew] at this); omega)
      replace HX : Hd (w3.alloc (.cells #[.int .i64 0, .int .i64 0] 23)) w.heap.size 25 #[.int .i64 x.re.lo, .int .i64 x.re.hi, .int .i64 x.im.lo, .int .i64 x.im.hi] := by (with_reducible repeat' (first | assumption | (apply hdN; (try simp only [sA, sS, sD]); done) | apply hdA | apply hdD | apply hdS | (apply hdF; case hp => first | (simp; done) | (simp; omega)) | with_unfolding_all rfl))
      replace HS : Hd (w3.alloc (.cells #[.int .i64 0, .int .i64 0] 23)) (w.heap.size + 1) 23 #[.int .i64 s.lo, .int .i64 s.hi] := by (with_reducible repeat' (first | assumption | (apply hdN; (try simp only [sA, sS, sD]); done) | apply hdA | apply hdD | apply hdS | (apply hdF; case hp => first | (simp; done) | (simp; omega)) | with_unfolding_all rfl))
      replace HB : Hd (w3.alloc (.cells #[.int .i64 0, .int .i64 0] 23)) (w.heap.size + 2) 54 #[.int .u16 a, .int .u16 b, .int .u16 c, .int .u16 d] := by (with_reducible repeat' (first | assumption | (apply hdN; (try simp only [sA, sS, sD]); done) | apply hdA | apply hdD | apply hdS | (apply hdF; case hp => first | (simp; done) | (simp; omega)) | with_unfolding_all rfl))
      replace HP : Hd (w3.alloc (.cells #[.int .i64 0, .int .i64 0] 23)) w1.heap.size 25 #[.int .i64 p.re.lo, .int .i64 p.re.hi, .int .i64 p.im.lo, .int .i64 p.im.hi] := by (with_reducible repeat' (first | assumption | (apply hdN; (try simp only [sA, sS, sD]); done) | apply hdA | apply hdD | apply hdS | (apply hdF; case hp => first | (simp; done) | (simp; omega)) | with_unfolding_all rfl))
      replace bw : Below w.heap.size w (w3.alloc (.cells #[.int .i64 0, .int .i64 0] 23)) := by go_grown
      have HR : Hd (w3.alloc (.cells #[.int .i64 0, .int .i64 0] 23)) w3.heap.size 23 #[.int .i64 0, .int .i64 0] := by (with_reducible repeat' (first | assumption | (apply hdN; (try simp only [sA, sS, sD]); done) | apply hdA | apply hdD | apply hdS | (apply hdF; case hp => first | (simp; done) | (simp; omega)) | with_unfolding_all rfl))
      (try refine ⟨⟨HS, HB, bw⟩, ?_⟩)
      repeat ((first | with_reducible apply eag_move | with_reducible apply eag_assign | ((with_reducible refine eag_soft (v := ?_) (fun w' hw' => ?_) ?_); rotate_left 1; (focus (obtain ⟨hS, hB, hBw⟩ := hw'; obtain ⟨hcS, hfS⟩ := hS.facts; obtain ⟨hcB, hfB⟩ := hB.facts; go_simp; (try with_reducible rfl); done)))); simp only [Act.put, Act.eval, List.setIfInBounds_toArray, List.set_cons_zero, List.set_cons_succ, Array.getD_eq_getD_getElem?, List.getElem?_toArray, List.getElem?_cons_zero, List.getElem?_cons_succ, Option.getD_some])
      repeat ((first | with_reducible apply eag_move | with_reducible apply eag_assign | ((with_reducible refine eag_soft (v := ?_) (fun w' hw' => ?_) ?_); rotate_left 1; (focus (obtain ⟨hS, hB, hBw⟩ := hw'; obtain ⟨hcS, hfS⟩ := hS.facts; obtain ⟨hcB, hfB⟩ := hB.facts; go_simp; (try with_reducible rfl); done)))); simp only [Act.put, Act.eval, List.setIfInBounds_toArray, List.set_cons_zero, List.set_cons_succ, Array.getD_eq_getD_getElem?, List.getElem?_toArray, List.getElem?_cons_zero, List.getElem?_cons_succ, Option.getD_some])
      refine eag_hard ?_
      go_wp2_with fail
      refine (V1.out _).mono ?_
      rintro e w4 ⟨rfl, hb4⟩
      replace bw : Below w.heap.size w w4 := below_next bw hb4
      replace HX := HX.call hb4
      replace HS := HS.call hb4
      replace HB := HB.call hb4
      replace HP := HP.call hb4
      replace HR := HR.call hb4
      have lw4 : w.heap.size ≤ w4.heap.size := bw.size
      clear hb4
      go_wp2_with fail
      (try refine ⟨⟨HS, HB, bw⟩, ?_⟩)
      repeat ((first | with_reducible apply eag_move | with_reducible apply eag_assign | ((with_reducible refine eag_soft (v := ?_) (fun w' hw' => ?_) ?_); rotate_left 1; (focus (obtain ⟨hS, hB, hBw⟩ := hw'; obtain ⟨hcS, hfS⟩ := hS.facts; obtain ⟨hcB, hfB⟩ := hB.facts; go_simp; (try with_reducible rfl); done)))); simp only [Act.put, Act.eval, List.setIfInBounds_toArray, List.set_cons_zero, List.set_cons_succ, Array.getD_eq_getD_getElem?, List.getElem?_toArray, List.getElem?_cons_zero, List.getElem?_cons_succ, Option.getD_some])
      refine eag_hard ?_
      go_wp2_with fail
      refine (W2.out _).mono ?_
      rintro e w5 ⟨rfl, hb5⟩
      replace bw : Below w.heap.size w w5 := below_next bw hb5
      replace HX := HX.call hb5
      replace HS := HS.call hb5
      replace HB := HB.call hb5
      replace HP := HP.call hb5
      replace HR := HR.call hb5
      have lw5 : w.heap.size ≤ w5.heap.size := bw.size
      clear hb5
      go_wp2_with fail
      (try refine ⟨⟨HS, HB, bw⟩, ?_⟩)
      repeat ((first | with_reducible apply eag_move | with_reducible apply eag_assign | ((with_reducible refine eag_soft (v := ?_) (fun w' hw' => ?_) ?_); rotate_left 1; (focus (obtain ⟨hS, hB, hBw⟩ := hw'; obtain ⟨hcS, hfS⟩ := hS.facts; obtain ⟨hcB, hfB⟩ := hB.facts; go_simp; (try with_reducible rfl); done)))); simp only [Act.put, Act.eval, List.setIfInBounds_toArray, List.set_cons_zero, List.set_cons_succ, Array.getD_eq_getD_getElem?, List.getElem?_toArray, List.getElem?_cons_zero, List.getElem?_cons_succ, Option.getD_some])
      refine eag_hard ?_
      go_wp2_with fail
      (try refine ⟨⟨HS, HB, bw⟩, ?_⟩)
      repeat ((first | with_reducible apply eag_move | with_reducible apply eag_assign | ((with_reducible refine eag_soft (v := ?_) (fun w' hw' => ?_) ?_); rotate_left 1; (focus (obtain ⟨hS, hB, hBw⟩ := hw'; obtain ⟨hcS, hfS⟩ := hS.facts; obtain ⟨hcB, hfB⟩ := hB.facts; go_simp; (try with_reducible rfl); done)))); simp only [Act.put, Act.eval, List.setIfInBounds_toArray, List.set_cons_zero, List.set_cons_succ, Array.getD_eq_getD_getElem?, List.getElem?_toArray, List.getElem?_cons_zero, List.getElem?_cons_succ, Option.getD_some])
      refine eag_hard ?_
      obtain ⟨hcR, hfR⟩ := HR.facts
      go_wp2_with fail
      have PX := HX
      have PS := HS
      have PB := HB
      have PP := HP
      have PR := HR
      have Pbw := bw
      replace HX : Hd ((w5.setCell ⟨w3.heap.size, 0, none⟩ (.int .i64 r.lo)).setCell ⟨w3.heap.size, 1, none⟩ (.int .i64 r.hi)) w.heap.size 25 #[.int .i64 x.re.lo, .int .i64 x.re.hi, .int .i64 x.im.lo, .int .i64 x.im.hi] := by (with_reducible repeat' (first | assumption | (apply hdN; (try simp only [sA, sS, sD]); done) | apply hdA | apply hdD | apply hdS | (apply hdF; case hp => first | (simp; done) | (simp; omega)) | with_unfolding_all rfl))
      replace HS : Hd ((w5.setCell ⟨w3.heap.size, 0, none⟩ (.int .i64 r.lo)).setCell ⟨w3.heap.size, 1, none⟩ (.int .i64 r.hi)) (w.heap.size + 1) 23 #[.int .i64 s.lo, .int .i64 s.hi] := by (with_reducible repeat' (first | assumption | (apply hdN; (try simp only [sA, sS, sD]); done) | apply hdA | apply hdD | apply hdS | (apply hdF; case hp => first | (simp; done) | (simp; omega)) | with_unfolding_all rfl))
      replace HB : Hd ((w5.setCell ⟨w3.heap.size, 0, none⟩ (.int .i64 r.lo)).setCell ⟨w3.heap.size, 1, none⟩ (.int .i64 r.hi)) (w.heap.size + 2) 54 #[.int .u16 a, .int .u16 b, .int .u16 c, .int .u16 d] := by (with_reducible repeat' (first | assumption | (apply hdN; (try simp only [sA, sS, sD]); done) | apply hdA | apply hdD | apply hdS | (apply hdF; case hp => first | (simp; done) | (simp; omega)) | with_unfolding_all rfl))
      replace HP : Hd ((w5.setCell ⟨w3.heap.size, 0, none⟩ (.int .i64 r.lo)).setCell ⟨w3.heap.size, 1, none⟩ (.int .i64 r.hi)) w1.heap.size 25 #[.int .i64 p.re.lo, .int .i64 p.re.hi, .int .i64 p.im.lo, .int .i64 p.im.hi] := by (with_reducible repeat' (first | assumption | (apply hdN; (try simp only [sA, sS, sD]); done) | apply hdA | apply hdD | apply hdS | (apply hdF; case hp => first | (simp; done) | (simp; omega)) | with_unfolding_all rfl))
      replace HR : Hd ((w5.setCell ⟨w3.heap.size, 0, none⟩ (.int .i64 r.lo)).setCell ⟨w3.heap.size, 1, none⟩ (.int .i64 r.hi)) w3.heap.size 23 #[.int .i64 r.lo, .int .i64 r.hi] := by (with_reducible repeat' (first | assumption | (apply hdN; (try simp only [sA, sS, sD]); done) | apply hdA | apply hdD | apply hdS | (apply hdF; case hp => first | (simp; done) | (simp; omega)) | with_unfolding_all rfl))
      replace bw : Below w.heap.size w ((w5.setCell ⟨w3.heap.size, 0, none⟩ (.int .i64 r.lo)).setCell ⟨w3.heap.size, 1, none⟩ (.int .i64 r.hi)) := by go_grown
      (try refine ⟨⟨HS, HB, bw⟩, ?_⟩)
      repeat ((first | with_reducible apply eag_move | with_reducible apply eag_assign | ((with_reducible refine eag_soft (v := ?_) (fun w' hw' => ?_) ?_); rotate_left 1; (focus (obtain ⟨hS, hB, hBw⟩ := hw'; obtain ⟨hcS, hfS⟩ := hS.facts; obtain ⟨hcB, hfB⟩ := hB.facts; go_simp; (try with_reducible rfl); done)))); simp only [Act.put, Act.eval, List.setIfInBounds_toArray, List.set_cons_zero, List.set_cons_succ, Array.getD_eq_getD_getElem?, List.getElem?_toArray, List.getElem?_cons_zero, List.getElem?_cons_succ, Option.getD_some])
      refine eag_nil ?_
      go_wp2_with fail
      go_meet
      exact ⟨w3.heap.size, rfl, by omega, by omega, HX, HS, HP, HR, bw⟩

theorem own : ownKnob Try.prog.godebug = none := by kernel_rfl

set_option maxRecDepth 100000 in
theorem lifted (os : Os) (started : os.Started) (H : Type) (enc : TypeId × Value → H) :
    ReturnsInHanded {} Try.checked os 9 .any (Rows.encloseHoldsSpec.pre6 enc Try.prog Try.f9 Rows.encloseHoldsRow.domain false) (Rows.encloseHoldsSpec.post enc Try.prog Try.f9 false true false false) := by
  refine returnsInHanded_of_change (C := Try.checked) own started (by kernel_rfl) Try.func9
    (ChangeSpec.witness6 (enc := enc) (C := Try.checked) false ⟨#[], #[.agg #[.int .i64 0, .int .i64 0, .int .i64 0, .int .i64 0], .agg #[.int .i64 0, .int .i64 0], .agg #[.int .u16 0, .int .u16 0, .int .u16 0, .int .u16 0]], []⟩ 8 (by kernel_rfl) (by kernel_rfl) (by kernel_rfl) (by kernel_rfl)) ?_
  intro W base args ds gs before hval0 hW hcnd _
  have hval : ∀ (j : Nat) t v, Try.f9.params[j]? = some t → args[j]? = some v → Value.okWide Try.prog W .any base t v := hval0
  have hW' := hW
  obtain ⟨p, q, hA0, hV, rfl, hfz, hnd⟩ := hW
  have hA : DataW.TrodAll enc Try.prog W 0 (fun _ => true) true Try.f9.params.toList args.toList ds p := hA0
  rw [Try.params9] at hA hval
  obtain ⟨rfl, hread⟩ := trodAll_flat (n := 8) (by kernel_rfl) hA
  obtain ⟨v0, vs0, d0, ds0, p0, q0, hargs, rfl, -, h0, r0⟩ := trodAll_cons hA
  obtain ⟨v1, vs1, d1, ds1, p1, q1, rfl, rfl, -, h1, r1⟩ := trodAll_cons r0
  obtain ⟨v2, vs2, d2, ds2, p2, q2, rfl, rfl, -, h2, r2⟩ := trodAll_cons r1
  obtain ⟨rfl, rfl, -⟩ := trodAll_nil r2
  obtain rfl : args = #[v0, v1, v2] := by cases args; simp_all
  obtain ⟨rfl, rfl⟩ := trodVars_none hV
  obtain ⟨x0, rfl⟩ := open_rect (hval 0 25 v0 rfl rfl)
  obtain ⟨x1, rfl⟩ := open_span (hval 1 23 v1 rfl rfl)
  obtain ⟨a, b, c, d, rfl, ba, bb, bc, bd⟩ := open_u16x4 (hval 2 54 v2 rfl rfl) h2
  clear hA0 hval0
  simp only [List.append_nil] at hW'
  refine (walk x0 x1 a b c d ba bb bc bd W).mono fun e W' ⟨he, hg⟩ => ?_
  subst he
  exact ⟨_, rfl, post_flat hW' (fun _ _ _ => (trodAll_cons_mk (shut_bool Try.underlying4 _) trodAll_mk0)) (fun sp => hread _ _ _ _) (fun _ => rfl)
    hg (ok_one (by kernel_rfl) rfl (okWide_bool_mk Try.underlying4 _))⟩

theorem holds : Rows.EncloseHoldsSaid :=
  OpenClaim.holds_of_wide 9 Try.f9 rfl rfl rfl rfl rfl rfl rfl ⟨rfl, rfl, rfl, rfl, rfl⟩ rfl rfl rfl rfl rfl (by kernel_rfl) Try.func9 closed
    (of_decide_eq_true (by kernel_rfl)) (by unfold Func.isWrapper; rw [if_neg (of_decide_eq_false (by kernel_rfl))]; exact ⟨rfl, rfl⟩)
    (fun os started H enc _ => lifted os started H enc)
#print axioms holds
end LawHolds
end Go.Proofs.Ytpbbbfglecbceaa
