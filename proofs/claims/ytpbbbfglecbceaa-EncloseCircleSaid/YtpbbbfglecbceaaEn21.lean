/- The statements' own functions: wide, wider, in. -/
import Derived.Test.YtpbbbfglecbceaaEn18
namespace Go.Proofs.Ytpbbbfglecbceaa
set_option linter.all false
open Go.RowKit

/-- Whether a rectangle lies in another one, both valid. -/
def inB (x y : En.Rc) : Bool := (x.ok && y.ok) && (En.within x.re y.re && En.within x.im y.im)
theorem inR_eq (x y : En.Rc) : inR x y = if x.ok && y.ok then (inB x y, 0) else (false, 50) := by
  unfold inR inB
  cases h : (x.ok && y.ok) <;> simp
def wideR (x : En.Rc) (a b c d : Int) : En.Rc := ⟨⟨wrap64 (x.re.lo - a), wrap64 (x.re.hi + b)⟩, ⟨wrap64 (x.im.lo - c), wrap64 (x.im.hi + d)⟩⟩

theorem wideV_any (s : En.Sp) (w : World) : Calls Try.prog 42 #[spV s] w fun e w' => e = .returned (rcV ⟨s, ⟨0, 0⟩⟩) ∧ Below w.heap.size w w' := by
  go_enter Try.func42, Try.ntmps42
  go_wp2
  refine bodyPost_ret (run_results1 rfl rfl (by (show Hd _ (w.heap.size + 1) 25 #[.int .i64 s.lo, .int .i64 s.hi, .int .i64 0, .int .i64 0]); exact hdx) Try.underlying25 rfl (by kernel_rfl)) rfl ⟨rfl, by go_grown⟩
theorem in_any (x y : En.Rc) (w : World) : Calls Try.prog 43 #[rcV x, rcV y] w fun e w' => e = .returned (.bool (inB x y)) ∧ Below w.heap.size w w' := by
  have CI := insideE_any x y
  rw [inR_eq] at CI
  cases hv : (x.ok && y.ok)
  · have hb : inB x y = false := by unfold inB; rw [hv]; rfl
    rw [hv] at CI
    rw [hb]
    clear hv hb
    replace CI := Lib.hid CI
    go_enter Try.func43, Try.ntmps43
    go_wp2_with fail
    have HA : Hd ((w.alloc (.cells #[.int .i64 x.re.lo, .int .i64 x.re.hi, .int .i64 x.im.lo, .int .i64 x.im.hi] 25)).alloc (.cells #[.int .i64 y.re.lo, .int .i64 y.re.hi, .int .i64 y.im.lo, .int .i64 y.im.hi] 25)) w.heap.size 25 #[.int .i64 x.re.lo, .int .i64 x.re.hi, .int .i64 x.im.lo, .int .i64 x.im.hi] := hdx
    have HB : Hd ((w.alloc (.cells #[.int .i64 x.re.lo, .int .i64 x.re.hi, .int .i64 x.im.lo, .int .i64 x.im.hi] 25)).alloc (.cells #[.int .i64 y.re.lo, .int .i64 y.re.hi, .int .i64 y.im.lo, .int .i64 y.im.hi] 25)) (w.heap.size + 1) 25 #[.int .i64 y.re.lo, .int .i64 y.re.hi, .int .i64 y.im.lo, .int .i64 y.im.hi] := hdx
    have bw : Below w.heap.size w ((w.alloc (.cells #[.int .i64 x.re.lo, .int .i64 x.re.hi, .int .i64 x.im.lo, .int .i64 x.im.hi] 25)).alloc (.cells #[.int .i64 y.re.lo, .int .i64 y.re.hi, .int .i64 y.im.lo, .int .i64 y.im.hi] 25)) := by go_grown
    refine (CI.out _).mono ?_
    rintro e w1 ⟨rfl, hb1⟩
    replace bw : Below w.heap.size w w1 := below_next bw hb1
    replace HA := HA.call hb1
    replace HB := HB.call hb1
    have lw1 : w.heap.size ≤ w1.heap.size := bw.size
    clear hb1
    go_wp2_with fail
    go_ret
    exact ⟨rfl, by go_grown⟩
  · rw [hv] at CI
    clear hv
    obtain ⟨b, hb⟩ : ∃ b, inB x y = b := ⟨_, rfl⟩
    rw [hb] at CI
    rw [hb]
    clear hb
    replace CI := Lib.hid CI
    cases b
    all_goals
      go_enter Try.func43, Try.ntmps43
      go_wp2_with fail
      have HA : Hd ((w.alloc (.cells #[.int .i64 x.re.lo, .int .i64 x.re.hi, .int .i64 x.im.lo, .int .i64 x.im.hi] 25)).alloc (.cells #[.int .i64 y.re.lo, .int .i64 y.re.hi, .int .i64 y.im.lo, .int .i64 y.im.hi] 25)) w.heap.size 25 #[.int .i64 x.re.lo, .int .i64 x.re.hi, .int .i64 x.im.lo, .int .i64 x.im.hi] := hdx
      have HB : Hd ((w.alloc (.cells #[.int .i64 x.re.lo, .int .i64 x.re.hi, .int .i64 x.im.lo, .int .i64 x.im.hi] 25)).alloc (.cells #[.int .i64 y.re.lo, .int .i64 y.re.hi, .int .i64 y.im.lo, .int .i64 y.im.hi] 25)) (w.heap.size + 1) 25 #[.int .i64 y.re.lo, .int .i64 y.re.hi, .int .i64 y.im.lo, .int .i64 y.im.hi] := hdx
      have bw : Below w.heap.size w ((w.alloc (.cells #[.int .i64 x.re.lo, .int .i64 x.re.hi, .int .i64 x.im.lo, .int .i64 x.im.hi] 25)).alloc (.cells #[.int .i64 y.re.lo, .int .i64 y.re.hi, .int .i64 y.im.lo, .int .i64 y.im.hi] 25)) := by go_grown
      refine (CI.out _).mono ?_
      rintro e w1 ⟨rfl, hb1⟩
      replace bw : Below w.heap.size w w1 := below_next bw hb1
      replace HA := HA.call hb1
      replace HB := HB.call hb1
      have lw1 : w.heap.size ≤ w1.heap.size := bw.size
      clear hb1
      go_wp2_with fail
      go_ret
      exact ⟨rfl, by go_grown⟩
theorem wider_any (x : En.Rc) (a b c d : Int) (a0 : 0 ≤ a) (a1 : a ≤ 65535) (b0 : 0 ≤ b) (b1 : b ≤ 65535) (c0 : 0 ≤ c) (c1 : c ≤ 65535) (d0 : 0 ≤ d) (d1 : d ≤ 65535) (w : World) : Calls Try.prog 41 #[rcV x, .agg #[.int .u16 a, .int .u16 b, .int .u16 c, .int .u16 d]] w fun e w' => e = .returned (rcV (wideR x a b c d)) ∧ Below w.heap.size w w' := by
  go_enter Try.func41, Try.ntmps41
  go_wp2
  refine bodyPost_ret (run_results1 rfl rfl (by (show Hd _ (w.heap.size + 1 + 1) 25 #[.int .i64 (wrap64 (x.re.lo - a)), .int .i64 (wrap64 (x.re.hi + b)), .int .i64 (wrap64 (x.im.lo - c)), .int .i64 (wrap64 (x.im.hi + d))]); exact hdx) Try.underlying25 rfl (by kernel_rfl)) rfl ⟨rfl, by go_grown⟩
end Go.Proofs.Ytpbbbfglecbceaa
