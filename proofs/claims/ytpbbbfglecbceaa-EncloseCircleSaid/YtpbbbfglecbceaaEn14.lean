/- Package enclose: the exported operations. -/
import Derived.Test.YtpbbbfglecbceaaEn12
import Derived.Test.YtpbbbfglecbceaaEn13
namespace Go.Proofs.Ytpbbbfglecbceaa
set_option linter.all false
open Go.RowKit

def outS (r : En.R En.Sp) : En.Sp × Int :=
  match r with
  | .ok z => (z, 0)
  | .error c => (⟨0, 0⟩, c)
abbrev spE (p : En.Sp × Int) : Value := .tuple #[spV p.1, .int .i64 p.2]
def powerR (x : En.Rc) : En.Sp × Int := if x.ok then outS (En.power x) else (⟨0, 0⟩, 50)
def partR (n d : Int) : En.Sp × Int := if 1 ≤ d ∧ d ≤ 1000000000 ∧ -1000000000 ≤ n ∧ n ≤ 1000000000 then outS (En.part n d) else (⟨0, 0⟩, 2)
def rootR (s : En.Sp) : En.Sp × Int := if s.ok then (if s.lo < 0 then (⟨0, 0⟩, 2) else outS (En.roots s)) else (⟨0, 0⟩, 50)

theorem addE_any (x y : En.Rc) (w : World) : Calls Try.prog 21 #[rcV x, rcV y] w fun e w' => e = .returned (rcE (twoR En.plus x y)) ∧ Below w.heap.size w w' := by
  have CT := Lib.hid (two_plus x y)
  obtain ⟨z, hz⟩ : ∃ z, twoR En.plus x y = z := ⟨_, rfl⟩
  rw [hz] at CT ⊢
  clear hz
  have HC : Hd (((w.alloc (.cells #[.int .i64 x.re.lo, .int .i64 x.re.hi, .int .i64 x.im.lo, .int .i64 x.im.hi] 25)).alloc (.cells #[.int .i64 y.re.lo, .int .i64 y.re.hi, .int .i64 y.im.lo, .int .i64 y.im.hi] 25)).alloc (.cells #[.int .i64 0, .int .i64 0, .int .i64 0, .int .i64 0] 25)) (w.heap.size + 2) 25 #[.int .i64 0, .int .i64 0, .int .i64 0, .int .i64 0] := hdx
  go_enter Try.func21, Try.ntmps21
  go_wp2_with fail
  refine (CT.out _).mono ?_
  rintro e w1 ⟨rfl, hb1⟩
  have bw1 : Below w.heap.size w w1 := below_next (by go_grown) hb1
  have HC1 := HC.call hb1
  obtain ⟨hcC, hfC⟩ := HC1.facts
  go_wp2
  refine bodyPost_ret (run_results2 rfl rfl (by (show Hd _ (w.heap.size + 2) 25 #[.int .i64 z.1.re.lo, .int .i64 z.1.re.hi, .int .i64 z.1.im.lo, .int .i64 z.1.im.hi]); exact hdx) Try.underlying25 rfl (by kernel_rfl)) rfl ⟨rfl, by go_grown⟩

theorem subE_any (x y : En.Rc) (w : World) : Calls Try.prog 23 #[rcV x, rcV y] w fun e w' => e = .returned (rcE (twoR En.minus x y)) ∧ Below w.heap.size w w' := by
  have CT := Lib.hid (two_minus x y)
  obtain ⟨z, hz⟩ : ∃ z, twoR En.minus x y = z := ⟨_, rfl⟩
  rw [hz] at CT ⊢
  clear hz
  have HC : Hd (((w.alloc (.cells #[.int .i64 x.re.lo, .int .i64 x.re.hi, .int .i64 x.im.lo, .int .i64 x.im.hi] 25)).alloc (.cells #[.int .i64 y.re.lo, .int .i64 y.re.hi, .int .i64 y.im.lo, .int .i64 y.im.hi] 25)).alloc (.cells #[.int .i64 0, .int .i64 0, .int .i64 0, .int .i64 0] 25)) (w.heap.size + 2) 25 #[.int .i64 0, .int .i64 0, .int .i64 0, .int .i64 0] := hdx
  go_enter Try.func23, Try.ntmps23
  go_wp2_with fail
  refine (CT.out _).mono ?_
  rintro e w1 ⟨rfl, hb1⟩
  have bw1 : Below w.heap.size w w1 := below_next (by go_grown) hb1
  have HC1 := HC.call hb1
  obtain ⟨hcC, hfC⟩ := HC1.facts
  go_wp2
  refine bodyPost_ret (run_results2 rfl rfl (by (show Hd _ (w.heap.size + 2) 25 #[.int .i64 z.1.re.lo, .int .i64 z.1.re.hi, .int .i64 z.1.im.lo, .int .i64 z.1.im.hi]); exact hdx) Try.underlying25 rfl (by kernel_rfl)) rfl ⟨rfl, by go_grown⟩

theorem mulE_any (x y : En.Rc) (w : World) : Calls Try.prog 45 #[rcV x, rcV y] w fun e w' => e = .returned (rcE (twoR En.times x y)) ∧ Below w.heap.size w w' := by
  have CT := Lib.hid (two_times x y)
  obtain ⟨z, hz⟩ : ∃ z, twoR En.times x y = z := ⟨_, rfl⟩
  rw [hz] at CT ⊢
  clear hz
  have HC : Hd (((w.alloc (.cells #[.int .i64 x.re.lo, .int .i64 x.re.hi, .int .i64 x.im.lo, .int .i64 x.im.hi] 25)).alloc (.cells #[.int .i64 y.re.lo, .int .i64 y.re.hi, .int .i64 y.im.lo, .int .i64 y.im.hi] 25)).alloc (.cells #[.int .i64 0, .int .i64 0, .int .i64 0, .int .i64 0] 25)) (w.heap.size + 2) 25 #[.int .i64 0, .int .i64 0, .int .i64 0, .int .i64 0] := hdx
  go_enter Try.func45, Try.ntmps45
  go_wp2_with fail
  refine (CT.out _).mono ?_
  rintro e w1 ⟨rfl, hb1⟩
  have bw1 : Below w.heap.size w w1 := below_next (by go_grown) hb1
  have HC1 := HC.call hb1
  obtain ⟨hcC, hfC⟩ := HC1.facts
  go_wp2
  refine bodyPost_ret (run_results2 rfl rfl (by (show Hd _ (w.heap.size + 2) 25 #[.int .i64 z.1.re.lo, .int .i64 z.1.re.hi, .int .i64 z.1.im.lo, .int .i64 z.1.im.hi]); exact hdx) Try.underlying25 rfl (by kernel_rfl)) rfl ⟨rfl, by go_grown⟩

theorem divE_any (x y : En.Rc) (w : World) : Calls Try.prog 47 #[rcV x, rcV y] w fun e w' => e = .returned (rcE (twoR En.quotient x y)) ∧ Below w.heap.size w w' := by
  have CT := Lib.hid (two_quotient x y)
  obtain ⟨z, hz⟩ : ∃ z, twoR En.quotient x y = z := ⟨_, rfl⟩
  rw [hz] at CT ⊢
  clear hz
  have HC : Hd (((w.alloc (.cells #[.int .i64 x.re.lo, .int .i64 x.re.hi, .int .i64 x.im.lo, .int .i64 x.im.hi] 25)).alloc (.cells #[.int .i64 y.re.lo, .int .i64 y.re.hi, .int .i64 y.im.lo, .int .i64 y.im.hi] 25)).alloc (.cells #[.int .i64 0, .int .i64 0, .int .i64 0, .int .i64 0] 25)) (w.heap.size + 2) 25 #[.int .i64 0, .int .i64 0, .int .i64 0, .int .i64 0] := hdx
  go_enter Try.func47, Try.ntmps47
  go_wp2_with fail
  refine (CT.out _).mono ?_
  rintro e w1 ⟨rfl, hb1⟩
  have bw1 : Below w.heap.size w w1 := below_next (by go_grown) hb1
  have HC1 := HC.call hb1
  obtain ⟨hcC, hfC⟩ := HC1.facts
  go_wp2
  refine bodyPost_ret (run_results2 rfl rfl (by (show Hd _ (w.heap.size + 2) 25 #[.int .i64 z.1.re.lo, .int .i64 z.1.re.hi, .int .i64 z.1.im.lo, .int .i64 z.1.im.hi]); exact hdx) Try.underlying25 rfl (by kernel_rfl)) rfl ⟨rfl, by go_grown⟩

end Go.Proofs.Ytpbbbfglecbceaa
