/- A region that draws its order, walked along every order: the steps by hand. -/
import Derived.Test.YtccbinnlnkpplaaEag
namespace Go.Proofs.Ytccbinnlnkpplaa
set_option linter.all false
open Go.RowKit

/-- The rest of the region. -/
def wpT (P : Program) (md : Region.Mode) (ops : Array Oper) (Q : Exit → Act → World → Prop) (S : World → Prop) (fuel : Nat) (listed : Array Bool) (a : Act) (w : World) : Prop :=
  wpAnyH P md ops Q S fuel listed a w

section
variable {P : Program} {ops : Array Oper} {Q : Exit → Act → World → Prop} {md : Region.Mode} {S : World → Prop} {fuel : Nat} {listed : Array Bool} {a : Act} {w : World}

theorem tr_soft {i : Nat} {oi : Oper} {v : Value} (ho : ops[i]? = some oi) (hg : oi.guard = none)
    (hB : (Region.noSelect ops && (Region.free md ops listed i && (Region.ready md ops listed).contains i)) = true)
    (hQ : ∀ c d v a w, Q (.panic c) (Act.put a d v) w → Q (.panic c) a w)
    (hy : ∀ w', S w' → (execOp a.eval oi).run P w' = .ok (.value v) w') (hS : S w)
    (h : wpT P md ops Q S fuel (listed.setIfInBounds i true) (a.put oi.dst v) w) : wpT P md ops Q S (fuel + 1) listed a w := by
  simp only [Bool.and_eq_true] at hB
  exact wpAnyH_take ho hB.1 hB.2.1 hB.2.2 (fun c a w => hQ c _ _ a w) (.inl ⟨by simp [Region.wanted, hg], hy⟩) hS h

theorem tr_hard1 {i : Nat} {o : Oper} (hr : Region.ready md ops listed = [i]) (ho : ops[i]? = some o)
    (h : wpList P ops (Exit.then (fun a' w' => S w' ∧ wpT P md ops Q S fuel (listed.setIfInBounds i true) a' w') Q) [o] a w) : wpT P md ops Q S (fuel + 1) listed a w := by
  refine wpAnyH_all hr (by simp) fun k hk => ?_
  obtain rfl : k = i := by simpa using hk
  exact wpOp_of_list ho h

theorem tr_hard2 {i j : Nat} {o u : Oper} (hr : Region.ready md ops listed = [i, j]) (ho : ops[i]? = some o) (hu : ops[j]? = some u)
    (h : wpList P ops (Exit.then (fun a' w' => S w' ∧ wpT P md ops Q S fuel (listed.setIfInBounds i true) a' w') Q) [o] a w)
    (h' : wpList P ops (Exit.then (fun a' w' => S w' ∧ wpT P md ops Q S fuel (listed.setIfInBounds j true) a' w') Q) [u] a w) : wpT P md ops Q S (fuel + 1) listed a w := by
  refine wpAnyH_all hr (by simp) fun k hk => ?_
  have hk' : k = i ∨ k = j := by simpa using hk
  rcases hk' with rfl | rfl
  · exact wpOp_of_list ho h
  · exact wpOp_of_list hu h'

theorem tr_hard3 {i j l : Nat} {o u r : Oper} (hr : Region.ready md ops listed = [i, j, l]) (ho : ops[i]? = some o) (hu : ops[j]? = some u) (hv : ops[l]? = some r)
    (h : wpList P ops (Exit.then (fun a' w' => S w' ∧ wpT P md ops Q S fuel (listed.setIfInBounds i true) a' w') Q) [o] a w)
    (h' : wpList P ops (Exit.then (fun a' w' => S w' ∧ wpT P md ops Q S fuel (listed.setIfInBounds j true) a' w') Q) [u] a w)
    (h'' : wpList P ops (Exit.then (fun a' w' => S w' ∧ wpT P md ops Q S fuel (listed.setIfInBounds l true) a' w') Q) [r] a w) : wpT P md ops Q S (fuel + 1) listed a w := by
  refine wpAnyH_all hr (by simp) fun k hk => ?_
  have hk' : k = i ∨ k = j ∨ k = l := by simpa using hk
  rcases hk' with rfl | rfl | rfl
  · exact wpOp_of_list ho h
  · exact wpOp_of_list hu h'
  · exact wpOp_of_list hv h''

theorem tr_nil (hr : (Region.ready md ops listed).isEmpty = true) (h : Q .normal a w) : wpT P md ops Q S 0 listed a w := ⟨by simpa using hr, h⟩

theorem wp_region_tr {id : Nat} (S : World → Prop) (hm : P.follows .mixedOrders = true) (h : wpT P .any ops Q S ops.size (Array.replicate ops.size false) a w.drew) : (Code.region id ops true).wp P Q a w :=
  wp_region_held hm h
end

end Go.Proofs.Ytccbinnlnkpplaa
