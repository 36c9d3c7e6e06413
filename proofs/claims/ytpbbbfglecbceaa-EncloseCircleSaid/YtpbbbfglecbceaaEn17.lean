/- Package enclose: Unit; the statements' check that it is awake. -/
import Derived.Test.YtpbbbfglecbceaaEn15
import Derived.Test.YtpbbbfglecbceaaEn16
namespace Go.Proofs.Ytpbbbfglecbceaa
set_option linter.all false
open Go.RowKit

theorem unitE_any (n : Int) (w : World) : Calls Try.prog 18 #[.int .i64 n] w fun e w' => e = .returned (rcE (outR (En.unit n))) ∧ Below w.heap.size w w' := by
  go_enter_defers Try.func18, Try.ntmps18
  go_wp2_with fail
  have HC : Hd ((w.alloc (.cells #[.int .i64 0, .int .i64 0, .int .i64 0, .int .i64 0] 25)).alloc (.cells #[.int .i64 0] 26)) w.heap.size 25 #[.int .i64 0, .int .i64 0, .int .i64 0, .int .i64 0] := hdx
  have HE : Hd ((w.alloc (.cells #[.int .i64 0, .int .i64 0, .int .i64 0, .int .i64 0] 25)).alloc (.cells #[.int .i64 0] 26)) (w.heap.size + 1) 26 #[.int .i64 0] := hdx
  have bw : Below w.heap.size w ((w.alloc (.cells #[.int .i64 0, .int .i64 0, .int .i64 0, .int .i64 0] 25)).alloc (.cells #[.int .i64 0] 26)) := by go_grown
  refine (unit_any n _).mono ?_
  intro e w1 hp
  obtain ⟨hb1, hcase⟩ := hp.cases
  clear hp
  replace bw : Below w.heap.size w w1 := below_next bw hb1
  replace HC := HC.call hb1
  replace HE := HE.call hb1
  have lw1 : w.heap.size ≤ w1.heap.size := bw.size
  clear hb1
  rcases hcase with ⟨s, hs, rfl⟩ | ⟨c, hs, rfl⟩
  · obtain ⟨hcC, hfC⟩ := HC.facts
    obtain ⟨hcE, hfE⟩ := HE.facts
    go_wp2
    refine leaves_cons (f := 62) (args := #[.pointer (some ⟨w.heap.size + 1, 0, none⟩)]) (by simp) (by simp [go_sem]) ?_
    refine (guard_idle _ _).mono ?_
    rintro e u' w'' ⟨rfl, rfl, rfl⟩
    exact ⟨_, run_results_ce rfl rfl (by (show Hd _ (w.heap.size) 25 #[.int .i64 s.re.lo, .int .i64 s.re.hi, .int .i64 s.im.lo, .int .i64 s.im.hi]); exact hdx) Try.underlying25 rfl (by kernel_rfl) rfl (by (show Hd _ (w.heap.size + 1) 26 #[.int .i64 (0)]); exact hdx) Try.underlying26, (by rw [hs]; rfl), by go_grown⟩
  · refine leaves_cons (f := 62) (args := #[.pointer (some ⟨w.heap.size + 1, 0, none⟩)]) (by simp) (by simp [go_sem]) ?_
    refine (guard_panicking _ _ _ _ HE).mono ?_
    rintro e u' w'' ⟨rfl, rfl, rfl⟩
    exact ⟨_, run_results_ce rfl rfl (by (show Hd _ (w.heap.size) 25 #[.int .i64 0, .int .i64 0, .int .i64 0, .int .i64 0]); exact hdx) Try.underlying25 rfl (by kernel_rfl) rfl (by (show Hd _ (w.heap.size + 1) 26 #[.int .i64 (c)]); exact hdx) Try.underlying26, (by rw [hs]; rfl), by go_grown⟩

theorem unit256 : En.unit 256 = .ok ⟨⟨0, 0⟩, ⟨1073741824, 1073741824⟩⟩ := by kernel_rfl
theorem awake_any (w : World) : Calls Try.prog 20 #[] w fun e w' => e = .returned (.bool true) ∧ Below w.heap.size w w' := by
  have CU := unitE_any 256
  rw [unit256] at CU
  replace CU := Lib.hid CU
  go_enter Try.func20, Try.ntmps20
  go_wp2_with fail
  refine (CU.out _).mono ?_
  rintro e w1 ⟨rfl, hb1⟩
  have bw : Below w.heap.size w w1 := hb1
  have lw1 := bw.size
  go_wp2_with fail
  go_ret
  exact ⟨rfl, by go_grown⟩
end Go.Proofs.Ytpbbbfglecbceaa
