/- A region that draws its order in a round of a loop over a function, along every order. -/
import Derived.Test.YtjeijnjaleldkaaRt
import Derived.Test.YtjeijnjaleldkaaSr
import Derived.OrdersIn
namespace Go.Proofs.Ytjeijnjaleldkaa
set_option linter.all false
open Go.RowKit
section
variable {R : Option Nat} {P : Program} {ops : Array Oper} {Q : Exit → Act → World → Prop} {B : World} {F : List Nat} {fuel : Nat} {listed : Array Bool} {a : Act} {s : List Blk}
def RR (R : Option Nat) (P : Program) (ops : Array Oper) (Q : Exit → Act → World → Prop) (B : World) (F : List Nat) (fuel : Nat) (listed : Array Bool) (a : Act) (s : List Blk) : Prop :=
  ∀ w, Kn B F s w → wpAnyIn (FR R) 0 P .any ops Q fuel listed a w
abbrev QR (R : Option Nat) (P : Program) (ops : Array Oper) (Q : Exit → Act → World → Prop) (fuel : Nat) (listed : Array Bool) : Exit → Act → World → Prop :=
  Exit.then (wpAnyIn (FR R) 0 P .any ops Q fuel listed) Q
theorem ek_rr (h : RR R P ops Q B F fuel listed a s) : Ek B F (QR R P ops Q fuel listed) .normal a s := h
theorem oper_out {K : Act → World → Prop} {o : Oper} {w : World} (h : o.wpIn (FR R) 0 P a w K (Exit.then K Q)) : o.wpIn (FR R) 0 P a w K Q := by
  unfold Oper.wpIn at *
  refine ⟨h.1, ?_⟩
  have h := h.2
  generalize (o.semAt (FR R).round a.eval).run P w = r at *
  cases r with
  | ok n w' =>
    cases n <;> simp only [Oper.uponIn] at h ⊢ <;>
      first
        | exact h
        | exact ⟨h.1, CallsIn.mono h.2 (fun e w'' he => by cases e <;> first | exact he | (obtain ⟨a₀, w₀, h₀⟩ := he; exact ⟨a₀, w₀, h₀⟩))⟩
        | exact ⟨h.1, RoundIn.mono h.2 (fun e w'' he => by cases e <;> first | exact he | (obtain ⟨a₀, w₀, h₀⟩ := he; exact ⟨a₀, w₀, h₀⟩))⟩
  | halt x w' => cases x <;> simp only [Oper.uponIn] at h ⊢ <;> exact h
theorem op_one {i : Nat} {o : Oper} {K : Act → World → Prop} {w : World} (ho : ops[i]? = some o) (h : wpListIn (FR R) 0 P ops (Exit.then K Q) [o] a w) : wpOpIn (FR R) 0 P ops Q i K a w := by
  unfold wpOpIn
  simp only [ho]
  unfold wpListIn at h
  split
  · next hw =>
    rw [if_pos hw] at h
    exact oper_out h
  · next hw =>
    rw [if_neg hw] at h
    exact h
theorem rr_step {f : Nat} {o : Oper} {listed' : Array Bool} (hd : noDefer [o] = true) (h : Rg R P ops (QR R P ops Q fuel listed') B F none [(o, f)] a s) (w : World) (K : Kn B F s w) :
    wpListIn (FR R) 0 P ops (QR R P ops Q fuel listed') [o] a w := rg_text [(o, f)] a s hd h w K
theorem any_ready {rs : List Nat} {w : World} (hr : Region.ready .any ops listed = rs) (hne : rs ≠ []) (h : ∀ i ∈ rs, wpOpIn (FR R) 0 P ops Q i (wpAnyIn (FR R) 0 P .any ops Q fuel (listed.setIfInBounds i true)) a w) : wpAnyIn (FR R) 0 P .any ops Q (fuel + 1) listed a w :=
  ⟨fun h0 => absurd (hr ▸ h0) hne, hr ▸ h⟩
theorem rr_hard1 {i f : Nat} {o : Oper} (hr : Region.ready .any ops listed = [i]) (ho : ops[i]? = some o) (hd : noDefer [o] = true)
    (h : Rg R P ops (QR R P ops Q fuel (listed.setIfInBounds i true)) B F none [(o, f)] a s) : RR R P ops Q B F (fuel + 1) listed a s := fun w K =>
  any_ready hr (by simp) fun k hk => by
    obtain rfl : k = i := by simpa using hk
    exact op_one ho (rr_step hd h w K)
theorem rr_hard2 {i j f g : Nat} {o u : Oper} (hr : Region.ready .any ops listed = [i, j]) (ho : ops[i]? = some o) (hu : ops[j]? = some u) (hd : noDefer [o] = true) (hd' : noDefer [u] = true)
    (h : Rg R P ops (QR R P ops Q fuel (listed.setIfInBounds i true)) B F none [(o, f)] a s)
    (h' : Rg R P ops (QR R P ops Q fuel (listed.setIfInBounds j true)) B F none [(u, g)] a s) : RR R P ops Q B F (fuel + 1) listed a s := fun w K =>
  any_ready hr (by simp) fun k hk => by
    rcases (by simpa using hk : k = i ∨ k = j) with rfl | rfl
    · exact op_one ho (rr_step hd h w K)
    · exact op_one hu (rr_step hd' h' w K)
theorem rr_hard3 {i j k f g e : Nat} {o u v : Oper} (hr : Region.ready .any ops listed = [i, j, k]) (ho : ops[i]? = some o) (hu : ops[j]? = some u) (hv : ops[k]? = some v) (hd : noDefer [o] = true) (hd' : noDefer [u] = true) (hd'' : noDefer [v] = true)
    (h : Rg R P ops (QR R P ops Q fuel (listed.setIfInBounds i true)) B F none [(o, f)] a s)
    (h' : Rg R P ops (QR R P ops Q fuel (listed.setIfInBounds j true)) B F none [(u, g)] a s)
    (h'' : Rg R P ops (QR R P ops Q fuel (listed.setIfInBounds k true)) B F none [(v, e)] a s) : RR R P ops Q B F (fuel + 1) listed a s := fun w K =>
  any_ready hr (by simp) fun x hx => by
    rcases (by simpa using hx : x = i ∨ x = j ∨ x = k) with rfl | rfl | rfl
    · exact op_one ho (rr_step hd h w K)
    · exact op_one hu (rr_step hd' h' w K)
    · exact op_one hv (rr_step hd'' h'' w K)
theorem rr_nil (hr : (Region.ready .any ops listed).isEmpty = true) (h : Ek B F Q .normal a s) : RR R P ops Q B F 0 listed a s := fun w K => ⟨by simpa using hr, h w K⟩
theorem wk_rr {id : Nat} {l : List Oper} (hm : P.follows .mixedOrders = true) (h : RR R P l.toArray Q B F l.length (Array.replicate l.length false) a s) :
    Wk R P B F Q a s (Code.region id l.toArray true) := fun w K => wpIn_region_any hm (by
      have := h w.drew K.drew
      simpa using this)
end
end Go.Proofs.Ytjeijnjaleldkaa
