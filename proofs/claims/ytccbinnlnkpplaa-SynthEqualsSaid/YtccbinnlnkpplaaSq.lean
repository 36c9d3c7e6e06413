/- Closing tactics as terms whose argument is filled by the tactic. -/
import Derived.Test.YtccbinnlnkpplaaFa
namespace Go.Proofs.Ytccbinnlnkpplaa
set_option linter.all false
open Go.RowKit
theorem Kx {p : Prop} (h : p := by kernel_rfl) : p := h
theorem Ox {p : Prop} (h : p := by omega) : p := h
theorem Rx {p : Prop} (h : p := by rfl) : p := h
theorem Ax {p : Prop} (h : p := by (simp only [qm, qs, Act.eval]; exact rfl)) : p := h
theorem Nl {a b : Nat} (h : Nat.ble a b = true := by rfl) : a ≤ b := Nat.le_of_ble_eq_true h
theorem Nz {q : List Blk × List Blk → Prop} : ∀ z ∈ (none : Option (List Blk × List Blk)), q z := fun _ h => by cases h
section
variable {R : Option Nat} {P : Program} {ops : Array Oper} {Q : Exit → Act → World → Prop} {B : World} {F : List Nat}
variable {l : List (Oper × Nat)} {a : Act} {s : List Blk} {d : Option Tmp} {op : Op} {t : TypeId} {p : String} {af : Array Edge}
theorem Rgn {cs : Array Value} {ty : Nat} {gd : Option (Nat × Bool)} (h : ∀ g, Rg R P ops Q B F none l (a.put d (.pointer (some ⟨g, 0, none⟩))) ((g, .cells cs ty) :: s))
    (hg : Region.wanted ⟨d, op, t, p, af, gd⟩ (yielded ops a.tmps) = true := by rfl) (hr : ∀ w : World, (execOp a.eval ⟨d, op, t, p, af, gd⟩).run P w = .ok (.value (.pointer (some ⟨w.heap.size, 0, none⟩))) (w.alloc (.cells cs ty)) := by (intro w; go_simp; rfl)) :
    Rg R P ops Q B F none ((⟨d, op, t, p, af, gd⟩, 1) :: l) a s := rg_new hg hr (fun _ h => by cases h) h
end
end Go.Proofs.Ytccbinnlnkpplaa
