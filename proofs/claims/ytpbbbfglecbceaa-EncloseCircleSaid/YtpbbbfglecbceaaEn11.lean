/- Package enclose: guard. -/
import Derived.Test.YtpbbbfglecbceaaEn1
import Derived.Defers
import Derived.Recover
namespace Go.Proofs.Ytpbbbfglecbceaa
set_option linter.all false
open Go.RowKit

abbrev nonevR (c : Int) : List PanicEntry := [{ v := .iface 106 (.agg #[.int .i64 c]), recovered := true }]

theorem assert_none (c : Int) (w : World) : (Instr.typeAssert (.iface 106 (.agg #[.int .i64 c])) 20 106 true).run Try.prog w = .ok (.tuple #[.agg #[.int .i64 c], .bool true]) w := by kernel_rfl
theorem eql_none (c : Int) (w : World) : (binOp .eql 20 (.iface 106 (.agg #[.int .i64 c])) .nilIface).run Try.prog w = .ok (.bool false) w := by kernel_rfl
theorem eql_nil (w : World) : (binOp .eql 20 .nilIface .nilIface).run Try.prog w = .ok (.bool true) w := by kernel_rfl

theorem guard_panicking (g : Nat) (x c : Int) (w : World) (h : Hd w g 26 #[.int .i64 x]) :
    CallsD Try.prog 62 #[.pointer (some ⟨g, 0, none⟩)] (.panicking (nonev c)) w fun e u' w' =>
      e = .returned (.tuple #[]) ∧ u' = .panicking (nonevR c) ∧ w' = (w.setCell ⟨g, 0, none⟩ (.int .i64 c)).alloc (.cells #[.int .i64 c] 106) := by
  have hlt := h.lt
  obtain ⟨hc, hf⟩ := h.facts
  refine callsD_of_wpS Try.func62 rfl fun c₀ cs hu => ?_
  apply wpS_seq
  apply wpS_region
  simp [wpOpsS, go_sem, recoverD, hu, Try.ntmps62, Exit.thenS]
  rw [show (#[Value.pointer (some ⟨g, 0, none⟩)] ++ (Array.replicate 14 undef).setIfInBounds 4 (Value.iface 106 (Value.agg #[Value.int .i64 c]))) = #[.pointer (some ⟨g, 0, none⟩), undef, undef, undef, undef, .iface 106 (.agg #[.int .i64 c]), undef, undef, undef, undef, undef, undef, undef, undef, undef] from rfl]
  have ha := assert_none c
  have he := eql_none c
  refine wpS_of_wp ?_
  go_wp2
  exact ⟨rfl, _, rfl, _, results_none rfl _ _ _, rfl, rfl, rfl⟩

theorem guard_idle (p : Addr) (w : World) :
    CallsD Try.prog 62 #[.pointer (some p)] .returning w fun e u' w' => e = .returned (.tuple #[]) ∧ u' = .returning ∧ w' = w := by
  refine callsD_of_wpS Try.func62 rfl fun c₀ cs hu => ?_
  apply wpS_seq
  apply wpS_region
  simp [wpOpsS, go_sem, recoverD, hu, Try.ntmps62, Exit.thenS]
  rw [show (#[Value.pointer (some p)] ++ (Array.replicate 14 undef).setIfInBounds 4 Value.nilIface) = #[.pointer (some p), undef, undef, undef, undef, .nilIface, undef, undef, undef, undef, undef, undef, undef, undef, undef] from rfl]
  have he := eql_nil
  refine wpS_of_wp ?_
  go_wp2
  cases c₀
  simp only at hu
  subst hu
  exact ⟨rfl, _, rfl, _, results_none rfl _ _ _, rfl, rfl, rfl⟩
end Go.Proofs.Ytpbbbfglecbceaa
