/- Package enclose: which rectangles are valid. -/
import Derived.Test.YtpbbbfglecbceaaEn5
namespace Go.Proofs.Ytpbbbfglecbceaa
set_option linter.all false
open Go.RowKit

theorem valid1_any (x : En.Rc) (w : World) : Calls Try.prog 122 #[rcV x] w fun e w' => e = .returned (.bool (!x.ok)) ∧ Below w.heap.size w w' := by
  have CA := valid_any x.re.lo x.re.hi
  have CB := valid_any x.im.lo x.im.hi
  obtain ⟨a, ha⟩ : ∃ a, En.okS x.re.lo x.re.hi = a := ⟨_, rfl⟩
  obtain ⟨b, hb⟩ : ∃ b, En.okS x.im.lo x.im.hi = b := ⟨_, rfl⟩
  have hx : x.ok = (a && b) := by rw [← ha, ← hb]; rfl
  rw [hx]
  rw [ha] at CA
  rw [hb] at CB
  replace CA := Lib.hid CA
  replace CB := Lib.hid CB
  clear ha hb hx
  have HA : Hd (w.alloc (.cells #[.int .i64 x.re.lo, .int .i64 x.re.hi, .int .i64 x.im.lo, .int .i64 x.im.hi] 25)) w.heap.size 25 #[.int .i64 x.re.lo, .int .i64 x.re.hi, .int .i64 x.im.lo, .int .i64 x.im.hi] := hdx
  cases a
  · go_enter Try.func122, Try.ntmps122
    go_wp2_with (go_at_call_of 25 (x.re.lo); refine (CA.out _).mono ?_; rintro e w1 ⟨rfl, hb1⟩; have bw1 : Below w.heap.size w w1 := below_next (by go_grown) hb1; have HA1 := HA.call hb1; obtain ⟨hcA, hfA⟩ := HA1.facts)
    go_ret
    exact ⟨rfl, bw1⟩
  · cases b
    all_goals
      go_enter Try.func122, Try.ntmps122
      go_wp2_with (first | (go_at_call_of 25 (x.re.lo); refine (CA.out _).mono ?_; rintro e w1 ⟨rfl, hb1⟩; have bw1 : Below w.heap.size w w1 := below_next (by go_grown) hb1; have HA1 := HA.call hb1; obtain ⟨hcA, hfA⟩ := HA1.facts) |
        (go_at_call_of 25 (x.im.lo); refine (CB.out _).mono ?_; rintro e w2 ⟨rfl, hb2⟩; have bw2 : Below w.heap.size w w2 := below_next bw1 hb2))
      go_ret
      exact ⟨rfl, bw2⟩

/-- A row of rectangles at the head of block b. -/
structure RcRow (w : World) (b n : Nat) (f : Nat → En.Rc) : Prop where
  c0 : ∀ i, i < n → w.cell? ⟨b, i * 4, none⟩ = some (.int .i64 (f i).re.lo)
  c1 : ∀ i, i < n → w.cell? ⟨b, i * 4 + 1, none⟩ = some (.int .i64 (f i).re.hi)
  c2 : ∀ i, i < n → w.cell? ⟨b, i * 4 + 2, none⟩ = some (.int .i64 (f i).im.lo)
  c3 : ∀ i, i < n → w.cell? ⟨b, i * 4 + 3, none⟩ = some (.int .i64 (f i).im.hi)

def allOk (f : Nat → En.Rc) : Nat → Bool
  | 0 => true
  | n + 1 => allOk f n && (f n).ok

theorem allOk_false {f : Nat → En.Rc} {i : Nat} (h : (f i).ok = false) : ∀ n, i < n → allOk f n = false
  | 0, hn => by omega
  | n + 1, hn => by
    by_cases hi : i = n
    · subst hi; simp [allOk, h]
    · simp [allOk, allOk_false h n (by omega)]

theorem index_any (b n : Nat) (f : Nat → En.Rc) (hn : n ≤ 8) (w : World) (hb : b < w.heap.size) (hr : RcRow w b n f) :
    Calls Try.prog 139 #[.slice (some ⟨b, 0, none⟩) n n, .func (.func 122) #[] #[]] w
      fun e w' => (∃ r : Int, e = .returned (.int .i64 r) ∧ (0 ≤ r ↔ allOk f n = false)) ∧ Below w.heap.size w w' := by
  have HR := Lib.hid hr
  clear hr
  go_enter Try.func139, Try.ntmps139
  go_wp2
  go_loopw [8] (fun k wr => ∃ i : Nat, i ≤ n ∧ k = .int .i64 i ∧ allOk f i = true ∧ Below w.heap.size w wr) (fun k _ => n - (intOf k).toNat)
  case atStart => exact ⟨0, by omega, rfl, rfl, by go_grown⟩
  case round =>
    obtain ⟨i, hi, rfl, hall, hbr⟩ := hrel
    by_cases hlt : i < n
    · have hlt' : (i : Int) < (n : Int) := by omega
      have r0 := HR.out.c0 i hlt
      have r1 := HR.out.c1 i hlt
      have r2 := HR.out.c2 i hlt
      have r3 := HR.out.c3 i hlt
      rw [← hbr.cell hb] at r0 r1 r2 r3
      have CV := valid1_any (f i)
      have hnext : allOk f (i + 1) = (f i).ok := by simp [allOk, hall]
      cases hok : (f i).ok
      · have hbad := allOk_false hok n hlt
        rw [hok] at CV
        replace CV := Lib.hid CV
        clear hok hnext
        go_wp2_with (go_at_call 122; refine (CV.out _).mono ?_; rintro e w1 ⟨rfl, hb1⟩; have bw1 : Below w.heap.size w w1 := below_next hbr hb1)
        go_ret
        exact ⟨⟨(i : Int), rfl, by simp [hbad]⟩, bw1⟩
      · rw [hok] at CV hnext
        replace CV := Lib.hid CV
        clear hok
        have HN := Lib.hid hnext
        clear hnext
        go_wp2_with (go_at_call 122; refine (CV.out _).mono ?_; rintro e w1 ⟨rfl, hb1⟩; have bw1 : Below w.heap.size w w1 := below_next hbr hb1)
        go_roundw
        case rel => exact ⟨i + 1, by omega, by go_num, HN.out, bw1⟩
        case measure => simp [intOf]; omega
    · have hlt' : ¬ (i : Int) < (n : Int) := by omega
      obtain rfl : i = n := by omega
      go_wp2
      go_ret
      exact ⟨⟨-1, rfl, by simp [hall]⟩, hbr⟩

theorem contains_any (b n : Nat) (f : Nat → En.Rc) (hn : n ≤ 8) (w : World) (hb : b < w.heap.size) (hr : RcRow w b n f) :
    Calls Try.prog 121 #[.slice (some ⟨b, 0, none⟩) n n, .func (.func 122) #[] #[]] w
      fun e w' => e = .returned (.bool (!allOk f n)) ∧ Below w.heap.size w w' := by
  have C := Lib.hid (index_any b n f hn w hb hr)
  clear hr
  go_enter Try.func121, Try.ntmps121
  go_wp2_with fail
  refine C.out.mono ?_
  rintro e w1 ⟨⟨r, rfl, hr⟩, hb1⟩
  have HR := Lib.hid hr
  clear hr
  have bw1 : Below w.heap.size w w1 := below_next (by go_grown) hb1
  go_wp2
  go_ret
  refine ⟨?_, bw1⟩
  have := HR.out
  cases h : allOk f n <;> rw [h] at this <;> simp at this <;> simp <;> omega

theorem validN_any (b n : Nat) (f : Nat → En.Rc) (hn : n ≤ 8) (w : World) (hb : b < w.heap.size) (hr : RcRow w b n f) :
    Calls Try.prog 80 #[.slice (some ⟨b, 0, none⟩) n n] w fun e w' => e = .returned (.bool (allOk f n)) ∧ Below w.heap.size w w' := by
  have C := Lib.hid (contains_any b n f hn w hb hr)
  clear hr
  go_enter Try.func80, Try.ntmps80
  go_wp2_with fail
  refine C.out.mono ?_
  rintro e w1 ⟨rfl, hb1⟩
  have bw1 : Below w.heap.size w w1 := below_next (by go_grown) hb1
  go_wp2
  go_ret
  exact ⟨by simp, bw1⟩

def rc1 (x : En.Rc) : Nat → En.Rc := fun _ => x
def rc2 (x y : En.Rc) : Nat → En.Rc
  | 0 => x
  | _ => y
def rc4 (x y z u : En.Rc) : Nat → En.Rc
  | 0 => x
  | 1 => y
  | 2 => z
  | _ => u
theorem rcRow1 {w : World} {b t : Nat} {x : En.Rc} (h : Hd w b t #[.int .i64 x.re.lo, .int .i64 x.re.hi, .int .i64 x.im.lo, .int .i64 x.im.hi]) : RcRow w b 1 (rc1 x) := by
  constructor <;> intro i hi <;> rw [h.cell] <;> (have hi' : i = 0 := by omega) <;> subst hi' <;> rfl
theorem rcRow2 {w : World} {b t : Nat} {x y : En.Rc} (h : Hd w b t #[.int .i64 x.re.lo, .int .i64 x.re.hi, .int .i64 x.im.lo, .int .i64 x.im.hi, .int .i64 y.re.lo, .int .i64 y.re.hi, .int .i64 y.im.lo, .int .i64 y.im.hi]) : RcRow w b 2 (rc2 x y) := by
  constructor <;> intro i hi <;> rw [h.cell] <;> (have hi' : i = 0 ∨ i = 1 := by omega) <;> rcases hi' with rfl | rfl <;> rfl
theorem rcRow4 {w : World} {b t : Nat} {x y z u : En.Rc} (h : Hd w b t #[.int .i64 x.re.lo, .int .i64 x.re.hi, .int .i64 x.im.lo, .int .i64 x.im.hi, .int .i64 y.re.lo, .int .i64 y.re.hi, .int .i64 y.im.lo, .int .i64 y.im.hi, .int .i64 z.re.lo, .int .i64 z.re.hi, .int .i64 z.im.lo, .int .i64 z.im.hi, .int .i64 u.re.lo, .int .i64 u.re.hi, .int .i64 u.im.lo, .int .i64 u.im.hi]) : RcRow w b 4 (rc4 x y z u) := by
  constructor <;> intro i hi <;> rw [h.cell] <;> (have hi' : i = 0 ∨ i = 1 ∨ i = 2 ∨ i = 3 := by omega) <;> rcases hi' with rfl | rfl | rfl | rfl <;> rfl
theorem validR1_any (x : En.Rc) (g t : Nat) (w : World) (h : Hd w g t #[.int .i64 x.re.lo, .int .i64 x.re.hi, .int .i64 x.im.lo, .int .i64 x.im.hi]) :
    Calls Try.prog 80 #[.slice (some ⟨g, 0, none⟩) 1 1] w fun e w' => e = .returned (.bool x.ok) ∧ Below w.heap.size w w' :=
  (validN_any g 1 (rc1 x) (by omega) w h.lt (rcRow1 h)).mono fun e w' ⟨a, b⟩ => ⟨by rw [a]; simp [allOk, rc1], b⟩
theorem validR2_any (x y : En.Rc) (g t : Nat) (w : World) (h : Hd w g t #[.int .i64 x.re.lo, .int .i64 x.re.hi, .int .i64 x.im.lo, .int .i64 x.im.hi, .int .i64 y.re.lo, .int .i64 y.re.hi, .int .i64 y.im.lo, .int .i64 y.im.hi]) :
    Calls Try.prog 80 #[.slice (some ⟨g, 0, none⟩) 2 2] w fun e w' => e = .returned (.bool (x.ok && y.ok)) ∧ Below w.heap.size w w' :=
  (validN_any g 2 (rc2 x y) (by omega) w h.lt (rcRow2 h)).mono fun e w' ⟨a, b⟩ => ⟨by rw [a]; simp [allOk, rc2], b⟩
theorem validR4_any (x y z u : En.Rc) (g t : Nat) (w : World) (h : Hd w g t #[.int .i64 x.re.lo, .int .i64 x.re.hi, .int .i64 x.im.lo, .int .i64 x.im.hi, .int .i64 y.re.lo, .int .i64 y.re.hi, .int .i64 y.im.lo, .int .i64 y.im.hi, .int .i64 z.re.lo, .int .i64 z.re.hi, .int .i64 z.im.lo, .int .i64 z.im.hi, .int .i64 u.re.lo, .int .i64 u.re.hi, .int .i64 u.im.lo, .int .i64 u.im.hi]) :
    Calls Try.prog 80 #[.slice (some ⟨g, 0, none⟩) 4 4] w fun e w' => e = .returned (.bool (x.ok && y.ok && z.ok && u.ok)) ∧ Below w.heap.size w w' :=
  (validN_any g 4 (rc4 x y z u) (by omega) w h.lt (rcRow4 h)).mono fun e w' ⟨a, b⟩ => ⟨by rw [a]; simp [allOk, rc4], b⟩
end Go.Proofs.Ytpbbbfglecbceaa
