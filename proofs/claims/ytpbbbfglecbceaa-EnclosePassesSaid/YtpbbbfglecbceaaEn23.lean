/- Package enclose: Passes. -/
import Derived.Test.YtpbbbfglecbceaaEn22
import Derived.Test.YtpbbbfglecbceaaEagD
namespace Go.Proofs.Ytpbbbfglecbceaa
set_option linter.all false
open Go.RowKit

theorem passes1_zero (ea aa ba : Nat) (w : World) (HE : Hd w ea 26 #[.int .i64 0]) :
    CallsD Try.prog 91 #[.pointer (some ⟨ea, 0, none⟩), .pointer (some ⟨aa, 0, none⟩), .pointer (some ⟨ba, 0, none⟩)] .returning w fun e u' w' => e = .returned (.tuple #[]) ∧ u' = .returning ∧ w' = w := by
  have hlt := HE.lt
  obtain ⟨hcE, hfE⟩ := HE.facts
  refine callsD_of_wpS Try.func91 rfl fun c₀ cs hu => ?_
  refine wpS_of_wp ?_
  simp only [Try.ntmps91]
  go_wp2
  cases c₀
  simp only at hu
  subst hu
  exact ⟨rfl, _, rfl, _, results_none rfl _ _ _, rfl, rfl, rfl⟩
theorem passes1_err (ea aa ba : Nat) (hab : aa ≠ ba) (hea : ea ≠ aa) (heb : ea ≠ ba) (c : Int) (hc : c ≠ 0) (w : World) (HE : Hd w ea 26 #[.int .i64 c]) (s1 s2 : En.Sp) (HA : Hd w aa 23 #[.int .i64 s1.lo, .int .i64 s1.hi]) (HB : Hd w ba 23 #[.int .i64 s2.lo, .int .i64 s2.hi]) :
    CallsD Try.prog 91 #[.pointer (some ⟨ea, 0, none⟩), .pointer (some ⟨aa, 0, none⟩), .pointer (some ⟨ba, 0, none⟩)] .returning w fun e u' w' => e = .returned (.tuple #[]) ∧ u' = .returning ∧
      w' = (((w.setCell ⟨aa, 0, none⟩ (.int .i64 0)).setCell ⟨aa, 1, none⟩ (.int .i64 0)).setCell ⟨ba, 0, none⟩ (.int .i64 0)).setCell ⟨ba, 1, none⟩ (.int .i64 0) := by
  have hlt := HE.lt
  have hab' := hab.symm
  have hea' := hea.symm
  have heb' := heb.symm
  have ltA := HA.lt
  have ltB := HB.lt
  obtain ⟨hcE, hfE⟩ := HE.facts
  obtain ⟨hcA, hfA⟩ := HA.facts
  obtain ⟨hcB, hfB⟩ := HB.facts
  refine callsD_of_wpS Try.func91 rfl fun c₀ cs hu => ?_
  refine wpS_of_wp ?_
  simp only [Try.ntmps91]
  go_wp2
  cases c₀
  simp only at hu
  subst hu
  exact ⟨rfl, _, rfl, _, results_none rfl _ _ _, rfl, rfl, rfl⟩
end Go.Proofs.Ytpbbbfglecbceaa
