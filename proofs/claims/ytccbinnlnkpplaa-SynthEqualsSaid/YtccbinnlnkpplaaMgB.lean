/- Several texts in one. -/
import Derived.Test.YtccbinnlnkpplaaSq
import Derived.Test.YtccbinnlnkpplaaMgA
namespace Go.Proofs.Ytccbinnlnkpplaa
set_option linter.all false
open Go.RowKit

/-- An item as a value. -/
abbrev itV (i : It) : Value := .agg #[.int .i64 i.kind, .int .i64 i.at_, .int .i64 i.n, .string i.name]
def it (l : List It) (k : Nat) : It := l.getD k default
theorem its_get : ∀ (l : List It) (k r : Nat), k < l.length → r < 4 → (its l)[k * 4 + r]? = (itC (it l k))[r]?
  | [], k, r, hk, _ => by simp at hk
  | x :: l, 0, r, _, hr => by
    have e : its (x :: l) = itC x ++ its l := by simp [its]
    rw [e, Nat.zero_mul, Nat.zero_add, List.getElem?_append_left (by simpa using hr)]
    simp [it]
  | x :: l, k + 1, r, hk, hr => by
    have e : its (x :: l) = itC x ++ its l := by simp [its]
    rw [e, List.getElem?_append_right (by simp; omega)]
    have e2 : (k + 1) * 4 + r - (itC x).length = k * 4 + r := by simp only [List.length_cons, List.length_nil]; omega
    rw [e2, its_get l k r (by simpa using hk) hr]
    simp [it]
structure ItAt (w : World) (b off : Nat) (i : It) : Prop where
  c0 : w.cell? ⟨b, off, none⟩ = some (.int .i64 i.kind)
  c1 : w.cell? ⟨b, off + 1, none⟩ = some (.int .i64 i.at_)
  c2 : w.cell? ⟨b, off + 2, none⟩ = some (.int .i64 i.n)
  c3 : w.cell? ⟨b, off + 3, none⟩ = some (.string i.name)
theorem AS.openT {w : World} {a : Option Addr} {xs : List It} (h : AS w a (its xs)) (hn : 0 < xs.length) :
    ∃ b off, a = some ⟨b, off, none⟩ ∧ b < w.heap.size ∧ ∀ j, j < xs.length → ItAt w b (off + j * 4) (it xs j) := by
  have hne : its xs ≠ [] := by intro e; have := its_len xs; rw [e] at this; simp at this; omega
  obtain ⟨b, off, rfl, hlt, hc⟩ := h hne
  refine ⟨b, off, rfl, hlt, fun j hj => ?_⟩
  have hl := its_len xs
  have key : ∀ r, r < 4 → w.cell? ⟨b, off + (j * 4 + r), none⟩ = (itC (it xs j))[r]? := fun r hr => (hc (j * 4 + r) Ox).trans (its_get xs j r hj hr)
  exact ⟨key 0 Ox, by rw [Nat.add_assoc]; exact key 1 Ox, by rw [Nat.add_assoc]; exact key 2 Ox, by rw [Nat.add_assoc]; exact key 3 Ox⟩
theorem ItAt.kn {B w : World} {F : List Nat} {s : List Blk} {b off : Nat} {i : It} (h : ItAt B b off i) (K : Kn B F s w) (hb : b < B.heap.size) (hF : b ∉ F) : ItAt w b off i :=
  ⟨(K.cellB hb hF _).trans h.c0, (K.cellB hb hF _).trans h.c1, (K.cellB hb hF _).trans h.c2, (K.cellB hb hF _).trans h.c3⟩
theorem it_mem {xs : List It} {k : Nat} (h : k < xs.length) : it xs k ∈ xs := by
  unfold it; rw [List.getD_eq_getElem?_getD, List.getElem?_eq_getElem h]; exact List.getElem_mem h

section
variable {R : Option Nat} {P : Program} {ops : Array Oper} {Q : Exit → Act → World → Prop} {B : World} {F : List Nat} {s0 : Option (List Blk × List Blk)}
variable {l : List (Oper × Nat)} {a : Act} {s : List Blk} {d : Option Tmp} {t : TypeId} {p : String} {af : Array Edge}
/-- A call of a function value, a function with captured variables. -/
theorem rg_callVI {fo : Operand} {f : Nat} {cargs : Array Operand} {at_ : Array TypeId} {caps vs : Array Value} {v : Value} {gd : Option (Nat × Bool)} (hg : Region.wanted ⟨d, .call ⟨.value fo, cargs, at_⟩, t, p, af, gd⟩ (yielded ops a.tmps) = true)
    (hf : a.eval fo = .func (.func f) #[] caps) (hgo : isGo P f = true) (hargs : cargs.map a.eval = vs)
    (h : ∀ w, Kn B F s w → Calls P f (vs ++ caps) w (fun e w' => e = .returned v ∧ Below w.heap.size w w'))
    (hz : ∀ z ∈ s0, z.1.Sublist s) (k : Rg R P ops Q B F s0 l (a.put d v) s) :
    Rg R P ops Q B F s0 ((⟨d, .call ⟨.value fo, cargs, at_⟩, t, p, af, gd⟩, 1) :: l) a s := by
  refine .inl fun w K => ?_
  unfold hop
  rw [if_pos hg]
  unfold Oper.wp
  have hr : (execOp a.eval ⟨d, .call ⟨.value fo, cargs, at_⟩, t, p, af, gd⟩).run P w = .ok (.enter f (vs ++ caps)) w := by
    have hx : execOp a.eval ⟨d, .call ⟨.value fo, cargs, at_⟩, t, p, af, gd⟩ = (do let d ← resolve a.eval ⟨.value fo, cargs, at_⟩ t; invoke d.target d.args) := rfl
    have hv : (resolve a.eval ⟨.value fo, cargs, at_⟩ t) = pure { target := .fn (.func f) caps, args := #[] ++ vs } := by
      simp only [resolve, hf, hargs, Deferred.ofValue]
    rw [hx, hv]
    have : (#[] ++ vs : Array Value) = vs := by simp
    rw [this]
    exact run_callFunc_go hgo _ w
  rw [hr]
  refine (h w K).mono fun e w' ⟨he, hb⟩ => ?_
  subst he
  exact ⟨s, K.call hb, hz, k⟩
theorem rg_callVbI {fo : Operand} {f : Nat} {cargs : Array Operand} {at_ : Array TypeId} {caps vs : Array Value} {b : Bool} {gd : Option (Nat × Bool)} (hg : Region.wanted ⟨d, .call ⟨.value fo, cargs, at_⟩, t, p, af, gd⟩ (yielded ops a.tmps) = true)
    (hf : a.eval fo = .func (.func f) #[] caps) (hgo : isGo P f = true) (hargs : cargs.map a.eval = vs)
    (h : ∀ w, Kn B F s w → Calls P f (vs ++ caps) w (fun e w' => e = .returned (.bool b) ∧ Below w.heap.size w w'))
    (hz : ∀ z ∈ s0, z.1.Sublist s) (k : ∀ x, b = x → Rg R P ops Q B F s0 l (a.put d (.bool x)) s) :
    Rg R P ops Q B F s0 ((⟨d, .call ⟨.value fo, cargs, at_⟩, t, p, af, gd⟩, 1) :: l) a s := rg_callVI hg hf hgo hargs h hz (k b rfl)
end
/-- The first index that p says yes to. -/
def idxF (p : It → Bool) : List It → Int → Int
  | [], _ => -1
  | x :: t, k => if p x then k else idxF p t (k + 1)
theorem idxF_at (p : It → Bool) : ∀ (l : List It) (b : Int) (k : Nat), k < l.length → (∀ j, j < k → p (it l j) = false) → p (it l k) = true → idxF p l b = b + k
  | [], _, k, hk, _, _ => by simp at hk
  | x :: l, b, 0, _, _, h => by have : p x = true := h; simp [idxF, this]
  | x :: l, b, k + 1, hk, hj, h => by
    have : p x = false := hj 0 Ox
    rw [idxF, if_neg (by rw [this]; decide), idxF_at p l (b + 1) k (by simpa using hk) (fun j hjk => hj (j + 1) Ox) h]
    omega
theorem idxF_no (p : It → Bool) : ∀ (l : List It) (b : Int), (∀ j, j < l.length → p (it l j) = false) → idxF p l b = -1
  | [], _, _ => rfl
  | x :: l, b, h => by
    have : p x = false := h 0 (by simp)
    rw [idxF, if_neg (by rw [this]; decide)]
    exact idxF_no p l (b + 1) fun j hj => h (j + 1) (by simpa using hj)
theorem idxF_any (p : It → Bool) : ∀ (l : List It) (b : Int), 0 ≤ b → decide (idxF p l b ≥ 0) = l.any p
  | [], _, _ => rfl
  | x :: l, b, hb => by
    rw [idxF, List.any_cons]
    by_cases h : p x = true
    · rw [if_pos h, h]; simpa using hb
    · rw [if_neg h, idxF_any p l (b + 1) Ox]
      have : p x = false := by simpa using h
      rw [this]; rfl

set_option maxRecDepth 100000 in
set_option maxHeartbeats 1000000 in
theorem index_any (xs : List It) (a : Option Addr) (c : Nat) (p : It → Bool) (f : Nat) (caps : Array Value) (hl : xs.length ≤ 100000) (hgo : isGo Try.prog f = true) (w : World) (hA : AS w a (its xs)) (hf : ∀ w', Below w.heap.size w w' → ∀ i ∈ xs, Calls Try.prog f (#[itV i] ++ caps) w' fun e w'' => e = .returned (.bool (p i)) ∧ Below w'.heap.size w' w'') : Calls Try.prog 213 #[slV a xs.length c, .func (.func f) #[] caps] w fun e w' => e = .returned (.int .i64 (idxF p xs 0)) ∧ Below w.heap.size w w' := by
  go_enter Try.func213, Try.ntmps213
  refine wk_start ?_
  refine wk_seq ?_
  refine wk_region [0] rfl Kx ?_
  simp only [qy]
  refine rg_assign ?_
  simp only [qz]
  refine rg_nil (ek_next (wk_seq (wk_seq ?_)))
  refine wk_region [0, 0, 0] rfl Kx ?_
  simp only [qy]
  refine rg_move ?_
  simp only [qz]
  apply rg_soft
  case hy => (intro w hw; go_simp; (try go_bits); exact Yld.mk _ _)
  simp only [qz]
  refine rg_move ?_
  simp only [qz]
  refine rg_nil (ek_next (wk_block ?_))
  refine wk_loopS [4, 5, 8, 9, 10, 11, 12, 13, 14, 15, 16, 17, 18] (fun n vs s => ∃ (k : Nat) (j5 j9 j10 j11 j12 j13 j14 j15 j16 j17 j18 : Value), vs = [.int .i64 0, j5, .int .i64 k, j9, j10, j11, j12, j13, j14, j15, j16, j17, j18] ∧ s = [] ∧ n = xs.length - k ∧ k ≤ xs.length ∧ ∀ j, j < k → p (it xs j) = false) ((fun (k : Nat) => xs.length - k) (0)) ?_ Kx ?_
  · dsimp only [Act.vals, List.map, Array.getD, List.size_toArray, List.length_cons, List.length_nil, Nat.reduceAdd, Nat.reduceLT, ↓reduceDIte, Array.getInternal, List.getElem_toArray, List.getElem_cons_zero, List.getElem_cons_succ]
    exact ⟨0, _, _, _, _, _, _, _, _, _, _, _, rfl, rfl, rfl, by omega, fun i hi => by omega⟩
  rintro n vs s ⟨k, j5, j9, j10, j11, j12, j13, j14, j15, j16, j17, j18, rfl, rfl, hn, hc1, hc2⟩
  simp only [Act.puts, Act.vals, List.zip_cons_cons, List.zip_nil_right, List.foldl_cons, List.foldl_nil, List.map_cons, List.map_nil, Act.put, Act.eval, List.setIfInBounds_toArray, List.set_cons_zero, List.set_cons_succ, Array.getD_eq_getD_getElem?, List.getElem?_toArray, List.getElem?_cons_zero, List.getElem?_cons_succ, Option.getD_some]
  refine wk_seq ?_
  refine wk_region [0] rfl Kx ?_
  simp only [qy]
  apply rg_softb
  case hy => (intro w hw; go_simp; (try go_bits); exact Yld.mk _ _)
  intro x h1
  cases x
  · (try simp only [qd, ne_eq] at h1)
    simp only [qz]
    refine rg_nil (ek_next (wk_seq (wk_cond_f rfl (wk_exit (ek_then_exit (ek_then_exit (ek_block_exit (ek_next (wk_seq ?_)))))))))
    refine wk_region [0] rfl Kx ?_
    simp only [qy]
    refine rg_assign ?_
    simp only [qz]
    refine rg_nil (ek_next (wk_ret ?_))
    refine ek_ret (fun w hw => ⟨rfl, _, res_t _ rfl, ?_⟩)
    (try simp only [qz])
    exact ⟨by rw [show idxF p xs 0 = -1 from idxF_no p xs 0 (fun j hj => hc2 j Ox)], hw.below⟩
  (try simp only [qd, ne_eq] at h1)
  simp only [qz]
  obtain ⟨b, off, rfl, hlt, hcell⟩ := AS.openT hA Ox
  have hck := hcell k Ox
  refine rg_nil (ek_next (wk_seq (wk_cond_t rfl (wk_skip (ek_next (wk_seq (wk_block (wk_seq ?_))))))))
  refine wk_region [0, 0] rfl Kx ?_
  simp only [qy]
  refine rg_move ?_
  simp only [qz]
  refine rg_assign ?_
  simp only [qz]
  refine rg_nil (ek_next (wk_seq ?_))
  refine wk_region [0, 0, 0, 0, 0, 1] rfl Kx ?_
  simp only [qy]
  refine rg_move ?_
  simp only [qz]
  refine rg_move ?_
  simp only [qz]
  refine rg_move ?_
  simp only [qz]
  apply rg_soft
  case hy => (intro w hw; go_simp; (try go_bits); exact Yld.mk _ _)
  simp only [qz]
  apply rg_soft
  case hy => (intro w hw; obtain ⟨hi0, hi1, hi2, hi3⟩ := hck.kn hw hlt (by simp); go_simp; (try go_bits); exact Yld.mk _ _)
  simp only [qz]
  apply rg_callVbI Rx rfl hgo
  case hargs => exact Ax
  case h => exact fun w hw => hf w hw.below (it xs k) (it_mem Ox)
  case hz => exact Nz
  intro x h2
  cases x
  · (try simp only [qd, ne_eq] at h2)
    simp only [qz]
    refine rg_nil (ek_next (wk_cond_f rfl (wk_skip (ek_block (ek_next ?_)))))
    refine wk_region [0, 0] rfl Kx ?_
    simp only [qy]
    apply rg_soft
    case hy => (intro w hw; go_simp; (try go_bits); exact Yld.mk _ _)
    simp only [qz]
    refine rg_move ?_
    simp only [qz]
    refine rg_nil ?_
    refine ek_roundS (xs.length - (k + 1)) Ox Kx ?_
    dsimp only [Act.vals, List.map, Array.getD, List.size_toArray, List.length_cons, List.length_nil, Nat.reduceAdd, Nat.reduceLT, ↓reduceDIte, Array.getInternal, List.getElem_toArray, List.getElem_cons_zero, List.getElem_cons_succ]
    exact ⟨k + 1, _, _, _, _, _, _, _, _, _, _, _, by rfl, by rfl, by rfl, by omega, fun j hj => if e : j = k then e ▸ h2 else hc2 j Ox⟩
  (try simp only [qd, ne_eq] at h2)
  simp only [qz]
  refine rg_nil (ek_next (wk_cond_t rfl (wk_seq ?_)))
  refine wk_region [0, 0] rfl Kx ?_
  simp only [qy]
  refine rg_move ?_
  simp only [qz]
  refine rg_assign ?_
  simp only [qz]
  refine rg_nil (ek_next (wk_ret (ek_block_ret (ek_then_ret (ek_then_ret (ek_block_ret (ek_then_ret ?_)))))))
  refine ek_ret (fun w hw => ⟨rfl, _, res_t _ rfl, ?_⟩)
  (try simp only [qz])
  exact ⟨by rw [show idxF p xs 0 = (k : Int) by rw [idxF_at p xs 0 k Ox hc2 h2]; omega], hw.below⟩

set_option maxRecDepth 100000 in
set_option maxHeartbeats 1000000 in
theorem contains_any (xs : List It) (a : Option Addr) (c : Nat) (p : It → Bool) (f : Nat) (caps : Array Value) (hl : xs.length ≤ 100000) (hgo : isGo Try.prog f = true) (w : World) (hA : AS w a (its xs)) (hf : ∀ w', Below w.heap.size w w' → ∀ i ∈ xs, Calls Try.prog f (#[itV i] ++ caps) w' fun e w'' => e = .returned (.bool (p i)) ∧ Below w'.heap.size w' w'') : Calls Try.prog 195 #[slV a xs.length c, .func (.func f) #[] caps] w fun e w' => e = .returned (.bool (xs.any p)) ∧ Below w.heap.size w w' := by
  go_enter Try.func195, Try.ntmps195
  refine wk_start ?_
  refine wk_seq ?_
  refine wk_region [0] rfl Kx ?_
  simp only [qy]
  refine rg_assign ?_
  simp only [qz]
  refine rg_nil (ek_next (wk_seq ?_))
  refine wk_region [0, 0, 1, 0, 0] rfl Kx ?_
  simp only [qy]
  refine rg_move ?_
  simp only [qz]
  refine rg_move ?_
  simp only [qz]
  apply rg_pure Rx Kx
  case hargs => exact Ax
  case h => exact fun w hw => index_any xs a c p f caps hl hgo w (hA.kn0 hw) (fun w' hb => hf w' (hw.call hb).below)
  case hz => exact Nz
  simp only [qz]
  apply rg_soft
  case hy => (intro w hw; go_simp; (try go_bits); exact Yld.mk _ _)
  simp only [qz]
  refine rg_assign ?_
  simp only [qz]
  refine rg_nil (ek_next (wk_ret ?_))
  refine ek_ret (fun w hw => ⟨rfl, _, res_t _ rfl, ?_⟩)
  (try simp only [qz])
  exact ⟨by rw [← idxF_any p xs 0 Ox], hw.below⟩

end Go.Proofs.Ytccbinnlnkpplaa
namespace Go.Proofs.Ytccbinnlnkpplaa
set_option linter.all false
open Go.RowKit

/-- How many guides an item takes; 0: it is not right. -/
def wd (i : It) : Int :=
  if i.kind = 1 then (if 1 ≤ i.n ∧ i.n ≤ 7 ∧ i.name.toList.isEmpty = true then 1 else 0)
  else if i.kind = 2 ∨ i.kind = 3 then (if i.n = 0 ∧ i.name.toList.isEmpty = true then 2 else 0) else 0
theorem wd_range (i : It) : 0 ≤ wd i ∧ wd i ≤ 2 := by
  unfold wd; repeat' split
  all_goals omega
def fitB (n : Int) (i : It) : Bool := decide (wd i ≠ 0 ∧ 1 ≤ i.at_ ∧ i.at_ ≤ n - wd i + 1)
def validI (n : Int) (xs : List It) : Bool := decide (1 ≤ n ∧ n ≤ 6) && (decide (xs.length ≤ 5000) && xs.all (fitB n))
theorem betB_true {l n h : Int} (e : betB l n h = true) : l ≤ n ∧ n ≤ h := of_decide_eq_true e
theorem betB_false {l n h : Int} (e : betB l n h = false) : ¬ (l ≤ n ∧ n ≤ h) := of_decide_eq_false e
theorem run_lookup_none (s : ByteArray) (w : World) : (Instr.lookup 194 (.map none) (.string s) false).run Try.prog w = .ok (.int .i64 0) w := by
  kernel_rfl

set_option maxRecDepth 100000 in
set_option maxHeartbeats 1000000 in
theorem between_mesh (l n h : Int) (w : World) : Calls Try.prog 128 #[.int .i64 l, .int .i64 n, .int .i64 h] w fun e w' => e = .returned (.bool (betB l n h)) ∧ Below w.heap.size w w' := by
  go_enter Try.func128, Try.ntmps128
  refine wk_start ?_
  refine wk_seq ?_
  refine wk_region [0] rfl Kx ?_
  simp only [qy]
  refine rg_assign ?_
  simp only [qz]
  refine rg_nil (ek_next (wk_seq ?_))
  refine wk_region [0, 0, 0, 0, 0, 0, 0, 0, 0] rfl Kx ?_
  simp only [qy]
  refine rg_move ?_
  simp only [qz]
  refine rg_move ?_
  simp only [qz]
  apply rg_softb
  case hy => (intro w hw; go_simp; (try go_bits); exact Yld.mk _ _)
  intro x h1
  cases x
  · (try simp only [qd, ne_eq] at h1)
    simp only [qz]
    refine rg_move ?_
    simp only [qz]
    refine rg_skip Rx ?_
    simp only [qz]
    refine rg_skip Rx ?_
    simp only [qz]
    refine rg_skip Rx ?_
    simp only [qz]
    apply rg_soft
    case hy => (intro w hw; go_simp; (try go_bits); exact Yld.mk _ _)
    simp only [qz]
    refine rg_assign ?_
    simp only [qz]
    refine rg_nil (ek_next (wk_ret ?_))
    refine ek_ret (fun w hw => ⟨rfl, _, res_t _ rfl, ?_⟩)
    (try simp only [qz])
    exact ⟨by (simp [betB]; omega), hw.below⟩
  (try simp only [qd, ne_eq] at h1)
  simp only [qz]
  refine rg_move ?_
  simp only [qz]
  apply rg_soft_g
  case hg => rfl
  case hy => (intro w hw; go_simp; (try go_bits); exact Yld.mk _ _)
  simp only [qz]
  apply rg_soft_g
  case hg => rfl
  case hy => (intro w hw; go_simp; (try go_bits); exact Yld.mk _ _)
  simp only [qz]
  apply rg_soft_g
  case hg => rfl
  case hy => (intro w hw; go_simp; (try go_bits); exact Yld.mk _ _)
  simp only [qz]
  apply rg_soft
  case hy => (intro w hw; go_simp; (try go_bits); exact Yld.mk _ _)
  simp only [qz]
  refine rg_assign ?_
  simp only [qz]
  refine rg_nil (ek_next (wk_ret ?_))
  refine ek_ret (fun w hw => ⟨rfl, _, res_t _ rfl, ?_⟩)
  (try simp only [qz])
  exact ⟨by simp [betB, h1], hw.below⟩

set_option maxRecDepth 100000 in
set_option maxHeartbeats 1000000 in
theorem width_any (i : It) (w : World) : Calls Try.prog 197 #[itV i, .map none] w fun e w' => e = .returned (.int .i64 (wd i)) ∧ Below w.heap.size w w' := by
  go_enter Try.func197, Try.ntmps197
  refine wk_start ?_
  refine wk_seq ?_
  refine wk_region [1, 0] rfl Kx ?_
  simp only [qy]
  refine Rgn fun g1 => ?_
  simp only [qz]
  refine rg_assign ?_
  simp only [qz]
  refine rg_nil (ek_next (wk_seq (wk_seq ?_)))
  refine wk_region [0, 0, 0, 0, 0, 0, 0, 0, 0, 0, 0, 0, 0, 0, 0, 0, 0, 0] rfl Kx ?_
  simp only [qy]
  apply rg_soft
  case hy => (intro w hw; have hlk := run_lookup_none i.name w; go_simp; (try go_bits); exact Yld.mk _ _)
  simp only [qz]
  apply rg_soft
  case hy => (intro w hw; obtain ⟨hcg1, hfg1⟩ := (Kn.hd0 hw).facts; have hlk := run_lookup_none i.name w; go_simp; (try go_bits); exact Yld.mk _ _)
  simp only [qz]
  apply rg_softb
  case hy => (intro w hw; have hlk := run_lookup_none i.name w; go_simp; (try go_bits); exact Yld.mk _ _)
  intro x h1
  cases x
  · (try simp only [qd, ne_eq] at h1)
    simp only [qz]
    (try (have h1a := Int.le_of_eq h1; have h1b := Int.le_of_eq h1.symm; clear h1))
    refine rg_move ?_
    simp only [qz]
    refine rg_skip Rx ?_
    simp only [qz]
    refine rg_skip Rx ?_
    simp only [qz]
    refine rg_skip Rx ?_
    simp only [qz]
    apply rg_soft
    case hy => (intro w hw; have hlk := run_lookup_none i.name w; go_simp; (try go_bits); exact Yld.mk _ _)
    simp only [qz]
    refine rg_move ?_
    simp only [qz]
    apply rg_soft_g
    case hg => rfl
    case hy => (intro w hw; have hlk := run_lookup_none i.name w; go_simp; (try go_bits); exact Yld.mk _ _)
    simp only [qz]
    apply rg_soft_g
    case hg => rfl
    case hy => (intro w hw; obtain ⟨hcg1, hfg1⟩ := (Kn.hd0 hw).facts; have hlk := run_lookup_none i.name w; go_simp; (try go_bits); exact Yld.mk _ _)
    simp only [qz]
    apply rg_softb_g
    case hg => rfl
    case hy => (intro w hw; have hlk := run_lookup_none i.name w; go_simp; (try go_bits); exact Yld.mk _ _)
    intro x h2
    cases x
    · (try simp only [qd, ne_eq] at h2)
      simp only [qz]
      (try (have h2a := Int.le_of_eq h2; have h2b := Int.le_of_eq h2.symm; clear h2))
      apply rg_soft_g
      case hg => rfl
      case hy => (intro w hw; have hlk := run_lookup_none i.name w; go_simp; (try go_bits); exact Yld.mk _ _)
      simp only [qz]
      refine rg_skip Rx ?_
      simp only [qz]
      refine rg_skip Rx ?_
      simp only [qz]
      refine rg_skip Rx ?_
      simp only [qz]
      apply rg_soft_g
      case hg => rfl
      case hy => (intro w hw; have hlk := run_lookup_none i.name w; go_simp; (try go_bits); exact Yld.mk _ _)
      simp only [qz]
      apply rg_soft
      case hy => (intro w hw; have hlk := run_lookup_none i.name w; go_simp; (try go_bits); exact Yld.mk _ _)
      simp only [qz]
      refine rg_nil (ek_next (wk_cond_f rfl (wk_skip (ek_next (wk_seq (wk_seq ?_))))))
      refine wk_region [0, 0] rfl Kx ?_
      simp only [qy]
      apply rg_soft
      case hy => (intro w hw; have hlk := run_lookup_none i.name w; go_simp; (try go_bits); exact Yld.mk _ _)
      simp only [qz]
      apply rg_soft
      case hy => (intro w hw; obtain ⟨hcg1, hfg1⟩ := (Kn.hd0 hw).facts; have hlk := run_lookup_none i.name w; go_simp; (try go_bits); exact Yld.mk _ _)
      simp only [qz]
      refine rg_nil (ek_next (wk_block (wk_seq ?_)))
      refine wk_region [0, 0] rfl Kx ?_
      simp only [qy]
      apply rg_softb
      case hy => (intro w hw; have hlk := run_lookup_none i.name w; go_simp; (try go_bits); exact Yld.mk _ _)
      intro x h3
      cases x
      · (try simp only [qd, ne_eq] at h3)
        simp only [qz]
        (try (have h3a := Int.le_of_eq h3; have h3b := Int.le_of_eq h3.symm; clear h3))
        refine rg_assign ?_
        simp only [qz]
        refine rg_nil (ek_next (wk_cond_f rfl (wk_seq (wk_seq ?_))))
        refine wk_region [0, 0] rfl Kx ?_
        simp only [qy]
        apply rg_softb
        case hy => (intro w hw; have hlk := run_lookup_none i.name w; go_simp; (try go_bits); exact Yld.mk _ _)
        intro x h4
        cases x
        · (try simp only [qd, ne_eq] at h4)
          simp only [qz]
          (try (have h4a := Int.le_of_eq h4; have h4b := Int.le_of_eq h4.symm; clear h4))
          refine rg_assign ?_
          simp only [qz]
          refine rg_nil (ek_next (wk_cond_f rfl ?_))
          refine wk_region [0, 0] rfl Kx ?_
          simp only [qy]
          apply rg_softb
          case hy => (intro w hw; have hlk := run_lookup_none i.name w; go_simp; (try go_bits); exact Yld.mk _ _)
          intro x h5
          cases x
          · (try simp only [qd, ne_eq] at h5)
            simp only [qz]
            (try (have h5a := Int.le_of_eq h5; have h5b := Int.le_of_eq h5.symm; clear h5))
            refine rg_assign ?_
            simp only [qz]
            refine rg_nil (ek_next (wk_cond_f rfl (wk_seq ?_)))
            refine wk_region [0, 0] rfl Kx ?_
            simp only [qy]
            apply rg_softb
            case hy => (intro w hw; have hlk := run_lookup_none i.name w; go_simp; (try go_bits); exact Yld.mk _ _)
            intro x h6
            cases x
            · (try simp only [qd, ne_eq] at h6)
              simp only [qz]
              (try (have h6a := Int.le_of_eq h6; have h6b := Int.le_of_eq h6.symm; clear h6))
              refine rg_assign ?_
              simp only [qz]
              refine rg_nil (ek_next (wk_cond_f rfl (wk_skip (ek_block (ek_next (wk_seq ?_))))))
              refine wk_region [0] rfl Kx ?_
              simp only [qy]
              refine rg_assign ?_
              simp only [qz]
              refine rg_nil (ek_next (wk_ret ?_))
              refine ek_ret (fun w hw => ⟨rfl, _, res_t _ rfl, ?_⟩)
              (try simp only [qz])
              exact ⟨by rw [show wd i = 0 from by (unfold wd; (repeat' split) <;> first | rfl | omega | (exfalso; omega) | (exfalso; simp_all; done) | (simp_all; done) | (exfalso; simp_all; omega))], hw.below⟩
            (try simp only [qd, ne_eq] at h6)
            simp only [qz]
            (try (have h6a := Int.le_of_eq h6; have h6b := Int.le_of_eq h6.symm; clear h6))
            refine rg_assign ?_
            simp only [qz]
            refine rg_nil (ek_next (wk_cond_t rfl (wk_seq ?_)))
            refine wk_region [0, 0, 0, 0, 0] rfl Kx ?_
            simp only [qy]
            refine rg_move ?_
            simp only [qz]
            apply rg_soft
            case hy => (intro w hw; have hlk := run_lookup_none i.name w; go_simp; (try go_bits); exact Yld.mk _ _)
            simp only [qz]
            apply rg_soft
            case hy => (intro w hw; obtain ⟨hcg1, hfg1⟩ := (Kn.hd0 hw).facts; have hlk := run_lookup_none i.name w; go_simp; (try go_bits); exact Yld.mk _ _)
            simp only [qz]
            apply rg_soft
            case hy => (intro w hw; have hlk := run_lookup_none i.name w; go_simp; (try go_bits); exact Yld.mk _ _)
            simp only [qz]
            refine rg_assign ?_
            simp only [qz]
            refine rg_nil (ek_next (wk_ret (ek_block_ret (ek_then_ret ?_))))
            refine ek_ret (fun w hw => ⟨rfl, _, res_t _ rfl, ?_⟩)
            (try simp only [qz])
            exact ⟨by rw [show wd i = 0 from by (unfold wd; (repeat' split) <;> first | rfl | omega | (exfalso; omega) | (exfalso; simp_all; done) | (simp_all; done) | (exfalso; simp_all; omega))], hw.below⟩
          (try simp only [qd, ne_eq] at h5)
          simp only [qz]
          (try (have h5a := Int.le_of_eq h5; have h5b := Int.le_of_eq h5.symm; clear h5))
          refine rg_assign ?_
          simp only [qz]
          refine rg_nil (ek_next (wk_cond_t rfl (wk_seq ?_)))
          refine wk_region [0] rfl Kx ?_
          simp only [qy]
          refine rg_assign ?_
          simp only [qz]
          refine rg_nil (ek_next (wk_ret (ek_block_ret (ek_then_ret ?_))))
          refine ek_ret (fun w hw => ⟨rfl, _, res_t _ rfl, ?_⟩)
          (try simp only [qz])
          exact ⟨by rw [show wd i = 2 from by (unfold wd; (repeat' split) <;> first | rfl | omega | (exfalso; omega) | (exfalso; simp_all; done) | (simp_all; done) | (exfalso; simp_all; omega))], hw.below⟩
        (try simp only [qd, ne_eq] at h4)
        simp only [qz]
        (try (have h4a := Int.le_of_eq h4; have h4b := Int.le_of_eq h4.symm; clear h4))
        refine rg_assign ?_
        simp only [qz]
        refine rg_nil (ek_next (wk_cond_t rfl (wk_skip (ek_next (wk_cond_t rfl (wk_seq ?_))))))
        refine wk_region [0] rfl Kx ?_
        simp only [qy]
        refine rg_assign ?_
        simp only [qz]
        refine rg_nil (ek_next (wk_ret (ek_block_ret (ek_then_ret ?_))))
        refine ek_ret (fun w hw => ⟨rfl, _, res_t _ rfl, ?_⟩)
        (try simp only [qz])
        exact ⟨by rw [show wd i = 2 from by (unfold wd; (repeat' split) <;> first | rfl | omega | (exfalso; omega) | (exfalso; simp_all; done) | (simp_all; done) | (exfalso; simp_all; omega))], hw.below⟩
      (try simp only [qd, ne_eq] at h3)
      simp only [qz]
      (try (have h3a := Int.le_of_eq h3; have h3b := Int.le_of_eq h3.symm; clear h3))
      refine rg_assign ?_
      simp only [qz]
      refine rg_nil (ek_next (wk_cond_t rfl (wk_seq ?_)))
      refine wk_region [0, 0, 1] rfl Kx ?_
      simp only [qy]
      apply rg_soft
      case hy => (intro w hw; have hlk := run_lookup_none i.name w; go_simp; (try go_bits); exact Yld.mk _ _)
      simp only [qz]
      apply rg_soft
      case hy => (intro w hw; obtain ⟨hcg1, hfg1⟩ := (Kn.hd0 hw).facts; have hlk := run_lookup_none i.name w; go_simp; (try go_bits); exact Yld.mk _ _)
      simp only [qz]
      apply rg_pureb Rx Kx
      case hargs => exact Ax
      case h => exact fun w hw => between_mesh 1 i.n 7 w
      case hz => exact Nz
      intro x h7
      cases x
      · (try simp only [qd, ne_eq] at h7)
        simp only [qz]
        have hb29 := betB_false h7
        clear h7
        refine rg_nil (ek_next (wk_cond_f rfl (wk_skip (ek_block (ek_next (wk_seq ?_))))))
        refine wk_region [0] rfl Kx ?_
        simp only [qy]
        refine rg_assign ?_
        simp only [qz]
        refine rg_nil (ek_next (wk_ret ?_))
        refine ek_ret (fun w hw => ⟨rfl, _, res_t _ rfl, ?_⟩)
        (try simp only [qz])
        exact ⟨by rw [show wd i = 0 from by (unfold wd; (repeat' split) <;> first | rfl | omega | (exfalso; omega) | (exfalso; simp_all; done) | (simp_all; done) | (exfalso; simp_all; omega))], hw.below⟩
      (try simp only [qd, ne_eq] at h7)
      simp only [qz]
      have hb29 := betB_true h7
      clear h7
      refine rg_nil (ek_next (wk_cond_t rfl (wk_seq ?_)))
      refine wk_region [0] rfl Kx ?_
      simp only [qy]
      refine rg_assign ?_
      simp only [qz]
      refine rg_nil (ek_next (wk_ret (ek_block_ret (ek_then_ret ?_))))
      refine ek_ret (fun w hw => ⟨rfl, _, res_t _ rfl, ?_⟩)
      (try simp only [qz])
      exact ⟨by rw [show wd i = 1 from by (unfold wd; (repeat' split) <;> first | rfl | omega | (exfalso; omega) | (exfalso; simp_all; done) | (simp_all; done) | (exfalso; simp_all; omega))], hw.below⟩
    (try simp only [qd, ne_eq] at h2)
    simp only [qz]
    (try (have h2a := Int.le_of_eq h2; have h2b := Int.le_of_eq h2.symm; clear h2))
    apply rg_soft_g
    case hg => rfl
    case hy => (intro w hw; have hlk := run_lookup_none i.name w; go_simp; (try go_bits); exact Yld.mk _ _)
    simp only [qz]
    apply rg_soft_g
    case hg => rfl
    case hy => (intro w hw; have hlk := run_lookup_none i.name w; go_simp; (try go_bits); exact Yld.mk _ _)
    simp only [qz]
    apply rg_soft_g
    case hg => rfl
    case hy => (intro w hw; obtain ⟨hcg1, hfg1⟩ := (Kn.hd0 hw).facts; have hlk := run_lookup_none i.name w; go_simp; (try go_bits); exact Yld.mk _ _)
    simp only [qz]
    apply rg_softb_g
    case hg => rfl
    case hy => (intro w hw; have hlk := run_lookup_none i.name w; go_simp; (try go_bits); exact Yld.mk _ _)
    intro x h8
    cases x
    · (try simp only [qd, ne_eq] at h8)
      simp only [qz]
      (try (have h8a := Int.le_of_eq h8; have h8b := Int.le_of_eq h8.symm; clear h8))
      apply rg_soft_g
      case hg => rfl
      case hy => (intro w hw; have hlk := run_lookup_none i.name w; go_simp; (try go_bits); exact Yld.mk _ _)
      simp only [qz]
      apply rg_soft
      case hy => (intro w hw; have hlk := run_lookup_none i.name w; go_simp; (try go_bits); exact Yld.mk _ _)
      simp only [qz]
      refine rg_nil (ek_next (wk_cond_f rfl (wk_skip (ek_next (wk_seq (wk_seq ?_))))))
      refine wk_region [0, 0] rfl Kx ?_
      simp only [qy]
      apply rg_soft
      case hy => (intro w hw; have hlk := run_lookup_none i.name w; go_simp; (try go_bits); exact Yld.mk _ _)
      simp only [qz]
      apply rg_soft
      case hy => (intro w hw; obtain ⟨hcg1, hfg1⟩ := (Kn.hd0 hw).facts; have hlk := run_lookup_none i.name w; go_simp; (try go_bits); exact Yld.mk _ _)
      simp only [qz]
      refine rg_nil (ek_next (wk_block (wk_seq ?_)))
      refine wk_region [0, 0] rfl Kx ?_
      simp only [qy]
      apply rg_softb
      case hy => (intro w hw; have hlk := run_lookup_none i.name w; go_simp; (try go_bits); exact Yld.mk _ _)
      intro x h9
      cases x
      · (try simp only [qd, ne_eq] at h9)
        simp only [qz]
        (try (have h9a := Int.le_of_eq h9; have h9b := Int.le_of_eq h9.symm; clear h9))
        refine rg_assign ?_
        simp only [qz]
        refine rg_nil (ek_next (wk_cond_f rfl (wk_seq (wk_seq ?_))))
        refine wk_region [0, 0] rfl Kx ?_
        simp only [qy]
        apply rg_softb
        case hy => (intro w hw; have hlk := run_lookup_none i.name w; go_simp; (try go_bits); exact Yld.mk _ _)
        intro x h10
        cases x
        · (try simp only [qd, ne_eq] at h10)
          simp only [qz]
          (try (have h10a := Int.le_of_eq h10; have h10b := Int.le_of_eq h10.symm; clear h10))
          refine rg_assign ?_
          simp only [qz]
          refine rg_nil (ek_next (wk_cond_f rfl ?_))
          refine wk_region [0, 0] rfl Kx ?_
          simp only [qy]
          apply rg_softb
          case hy => (intro w hw; have hlk := run_lookup_none i.name w; go_simp; (try go_bits); exact Yld.mk _ _)
          intro x h11
          cases x
          · (try simp only [qd, ne_eq] at h11)
            simp only [qz]
            (try (have h11a := Int.le_of_eq h11; have h11b := Int.le_of_eq h11.symm; clear h11))
            refine rg_assign ?_
            simp only [qz]
            refine rg_nil (ek_next (wk_cond_f rfl (wk_seq ?_)))
            refine wk_region [0, 0] rfl Kx ?_
            simp only [qy]
            apply rg_softb
            case hy => (intro w hw; have hlk := run_lookup_none i.name w; go_simp; (try go_bits); exact Yld.mk _ _)
            intro x h12
            cases x
            · (try simp only [qd, ne_eq] at h12)
              simp only [qz]
              (try (have h12a := Int.le_of_eq h12; have h12b := Int.le_of_eq h12.symm; clear h12))
              refine rg_assign ?_
              simp only [qz]
              refine rg_nil (ek_next (wk_cond_f rfl (wk_skip (ek_block (ek_next (wk_seq ?_))))))
              refine wk_region [0] rfl Kx ?_
              simp only [qy]
              refine rg_assign ?_
              simp only [qz]
              refine rg_nil (ek_next (wk_ret ?_))
              refine ek_ret (fun w hw => ⟨rfl, _, res_t _ rfl, ?_⟩)
              (try simp only [qz])
              exact ⟨by rw [show wd i = 0 from by (unfold wd; (repeat' split) <;> first | rfl | omega | (exfalso; omega) | (exfalso; simp_all; done) | (simp_all; done) | (exfalso; simp_all; omega))], hw.below⟩
            (try simp only [qd, ne_eq] at h12)
            simp only [qz]
            (try (have h12a := Int.le_of_eq h12; have h12b := Int.le_of_eq h12.symm; clear h12))
            refine rg_assign ?_
            simp only [qz]
            refine rg_nil (ek_next (wk_cond_t rfl (wk_seq ?_)))
            refine wk_region [0, 0, 0, 0, 0] rfl Kx ?_
            simp only [qy]
            refine rg_move ?_
            simp only [qz]
            apply rg_soft
            case hy => (intro w hw; have hlk := run_lookup_none i.name w; go_simp; (try go_bits); exact Yld.mk _ _)
            simp only [qz]
            apply rg_soft
            case hy => (intro w hw; obtain ⟨hcg1, hfg1⟩ := (Kn.hd0 hw).facts; have hlk := run_lookup_none i.name w; go_simp; (try go_bits); exact Yld.mk _ _)
            simp only [qz]
            apply rg_soft
            case hy => (intro w hw; have hlk := run_lookup_none i.name w; go_simp; (try go_bits); exact Yld.mk _ _)
            simp only [qz]
            refine rg_assign ?_
            simp only [qz]
            refine rg_nil (ek_next (wk_ret (ek_block_ret (ek_then_ret ?_))))
            refine ek_ret (fun w hw => ⟨rfl, _, res_t _ rfl, ?_⟩)
            (try simp only [qz])
            exact ⟨by rw [show wd i = 0 from by (unfold wd; (repeat' split) <;> first | rfl | omega | (exfalso; omega) | (exfalso; simp_all; done) | (simp_all; done) | (exfalso; simp_all; omega))], hw.below⟩
          (try simp only [qd, ne_eq] at h11)
          simp only [qz]
          (try (have h11a := Int.le_of_eq h11; have h11b := Int.le_of_eq h11.symm; clear h11))
          refine rg_assign ?_
          simp only [qz]
          refine rg_nil (ek_next (wk_cond_t rfl (wk_seq ?_)))
          refine wk_region [0] rfl Kx ?_
          simp only [qy]
          refine rg_assign ?_
          simp only [qz]
          refine rg_nil (ek_next (wk_ret (ek_block_ret (ek_then_ret ?_))))
          refine ek_ret (fun w hw => ⟨rfl, _, res_t _ rfl, ?_⟩)
          (try simp only [qz])
          exact ⟨by rw [show wd i = 2 from by (unfold wd; (repeat' split) <;> first | rfl | omega | (exfalso; omega) | (exfalso; simp_all; done) | (simp_all; done) | (exfalso; simp_all; omega))], hw.below⟩
        (try simp only [qd, ne_eq] at h10)
        simp only [qz]
        (try (have h10a := Int.le_of_eq h10; have h10b := Int.le_of_eq h10.symm; clear h10))
        refine rg_assign ?_
        simp only [qz]
        refine rg_nil (ek_next (wk_cond_t rfl (wk_skip (ek_next (wk_cond_t rfl (wk_seq ?_))))))
        refine wk_region [0] rfl Kx ?_
        simp only [qy]
        refine rg_assign ?_
        simp only [qz]
        refine rg_nil (ek_next (wk_ret (ek_block_ret (ek_then_ret ?_))))
        refine ek_ret (fun w hw => ⟨rfl, _, res_t _ rfl, ?_⟩)
        (try simp only [qz])
        exact ⟨by rw [show wd i = 2 from by (unfold wd; (repeat' split) <;> first | rfl | omega | (exfalso; omega) | (exfalso; simp_all; done) | (simp_all; done) | (exfalso; simp_all; omega))], hw.below⟩
      (try simp only [qd, ne_eq] at h9)
      simp only [qz]
      (try (have h9a := Int.le_of_eq h9; have h9b := Int.le_of_eq h9.symm; clear h9))
      refine rg_assign ?_
      simp only [qz]
      refine rg_nil (ek_next (wk_cond_t rfl (wk_seq ?_)))
      refine wk_region [0, 0, 1] rfl Kx ?_
      simp only [qy]
      apply rg_soft
      case hy => (intro w hw; have hlk := run_lookup_none i.name w; go_simp; (try go_bits); exact Yld.mk _ _)
      simp only [qz]
      apply rg_soft
      case hy => (intro w hw; obtain ⟨hcg1, hfg1⟩ := (Kn.hd0 hw).facts; have hlk := run_lookup_none i.name w; go_simp; (try go_bits); exact Yld.mk _ _)
      simp only [qz]
      apply rg_pureb Rx Kx
      case hargs => exact Ax
      case h => exact fun w hw => between_mesh 1 i.n 7 w
      case hz => exact Nz
      intro x h13
      cases x
      · (try simp only [qd, ne_eq] at h13)
        simp only [qz]
        have hb29 := betB_false h13
        clear h13
        refine rg_nil (ek_next (wk_cond_f rfl (wk_skip (ek_block (ek_next (wk_seq ?_))))))
        refine wk_region [0] rfl Kx ?_
        simp only [qy]
        refine rg_assign ?_
        simp only [qz]
        refine rg_nil (ek_next (wk_ret ?_))
        refine ek_ret (fun w hw => ⟨rfl, _, res_t _ rfl, ?_⟩)
        (try simp only [qz])
        exact ⟨by rw [show wd i = 0 from by (unfold wd; (repeat' split) <;> first | rfl | omega | (exfalso; omega) | (exfalso; simp_all; done) | (simp_all; done) | (exfalso; simp_all; omega))], hw.below⟩
      (try simp only [qd, ne_eq] at h13)
      simp only [qz]
      have hb29 := betB_true h13
      clear h13
      refine rg_nil (ek_next (wk_cond_t rfl (wk_seq ?_)))
      refine wk_region [0] rfl Kx ?_
      simp only [qy]
      refine rg_assign ?_
      simp only [qz]
      refine rg_nil (ek_next (wk_ret (ek_block_ret (ek_then_ret ?_))))
      refine ek_ret (fun w hw => ⟨rfl, _, res_t _ rfl, ?_⟩)
      (try simp only [qz])
      exact ⟨by rw [show wd i = 1 from by (unfold wd; (repeat' split) <;> first | rfl | omega | (exfalso; omega) | (exfalso; simp_all; done) | (simp_all; done) | (exfalso; simp_all; omega))], hw.below⟩
    (try simp only [qd, ne_eq] at h8)
    simp only [qz]
    (try (have h8a := Int.le_of_eq h8; have h8b := Int.le_of_eq h8.symm; clear h8))
    apply rg_soft_g
    case hg => rfl
    case hy => (intro w hw; have hlk := run_lookup_none i.name w; go_simp; (try go_bits); exact Yld.mk _ _)
    simp only [qz]
    apply rg_soft
    case hy => (intro w hw; have hlk := run_lookup_none i.name w; go_simp; (try go_bits); exact Yld.mk _ _)
    simp only [qz]
    refine rg_nil (ek_next (wk_cond_t rfl (wk_seq ?_)))
    refine wk_region [0] rfl Kx ?_
    simp only [qy]
    refine rg_assign ?_
    simp only [qz]
    refine rg_nil (ek_next (wk_ret (ek_then_ret ?_)))
    refine ek_ret (fun w hw => ⟨rfl, _, res_t _ rfl, ?_⟩)
    (try simp only [qz])
    exact ⟨by rw [show wd i = 0 from by (unfold wd; (repeat' split) <;> first | rfl | omega | (exfalso; omega) | (exfalso; simp_all; done) | (simp_all; done) | (exfalso; simp_all; omega))], hw.below⟩
  (try simp only [qd, ne_eq] at h1)
  simp only [qz]
  (try (have h1a := Int.le_of_eq h1; have h1b := Int.le_of_eq h1.symm; clear h1))
  refine rg_move ?_
  simp only [qz]
  apply rg_soft_g
  case hg => rfl
  case hy => (intro w hw; have hlk := run_lookup_none i.name w; go_simp; (try go_bits); exact Yld.mk _ _)
  simp only [qz]
  apply rg_soft_g
  case hg => rfl
  case hy => (intro w hw; obtain ⟨hcg1, hfg1⟩ := (Kn.hd0 hw).facts; have hlk := run_lookup_none i.name w; go_simp; (try go_bits); exact Yld.mk _ _)
  simp only [qz]
  apply rg_softb_g
  case hg => rfl
  case hy => (intro w hw; have hlk := run_lookup_none i.name w; go_simp; (try go_bits); exact Yld.mk _ _)
  intro x h14
  cases x
  · (try simp only [qd, ne_eq] at h14)
    simp only [qz]
    (try (have h14a := Int.le_of_eq h14; have h14b := Int.le_of_eq h14.symm; clear h14))
    apply rg_soft
    case hy => (intro w hw; have hlk := run_lookup_none i.name w; go_simp; (try go_bits); exact Yld.mk _ _)
    simp only [qz]
    refine rg_move ?_
    simp only [qz]
    apply rg_soft_g
    case hg => rfl
    case hy => (intro w hw; have hlk := run_lookup_none i.name w; go_simp; (try go_bits); exact Yld.mk _ _)
    simp only [qz]
    apply rg_soft_g
    case hg => rfl
    case hy => (intro w hw; obtain ⟨hcg1, hfg1⟩ := (Kn.hd0 hw).facts; have hlk := run_lookup_none i.name w; go_simp; (try go_bits); exact Yld.mk _ _)
    simp only [qz]
    apply rg_softb_g
    case hg => rfl
    case hy => (intro w hw; have hlk := run_lookup_none i.name w; go_simp; (try go_bits); exact Yld.mk _ _)
    intro x h15
    cases x
    · (try simp only [qd, ne_eq] at h15)
      simp only [qz]
      (try (have h15a := Int.le_of_eq h15; have h15b := Int.le_of_eq h15.symm; clear h15))
      apply rg_soft_g
      case hg => rfl
      case hy => (intro w hw; have hlk := run_lookup_none i.name w; go_simp; (try go_bits); exact Yld.mk _ _)
      simp only [qz]
      refine rg_skip Rx ?_
      simp only [qz]
      refine rg_skip Rx ?_
      simp only [qz]
      refine rg_skip Rx ?_
      simp only [qz]
      apply rg_soft_g
      case hg => rfl
      case hy => (intro w hw; have hlk := run_lookup_none i.name w; go_simp; (try go_bits); exact Yld.mk _ _)
      simp only [qz]
      apply rg_soft
      case hy => (intro w hw; have hlk := run_lookup_none i.name w; go_simp; (try go_bits); exact Yld.mk _ _)
      simp only [qz]
      refine rg_nil (ek_next (wk_cond_f rfl (wk_skip (ek_next (wk_seq (wk_seq ?_))))))
      refine wk_region [0, 0] rfl Kx ?_
      simp only [qy]
      apply rg_soft
      case hy => (intro w hw; have hlk := run_lookup_none i.name w; go_simp; (try go_bits); exact Yld.mk _ _)
      simp only [qz]
      apply rg_soft
      case hy => (intro w hw; obtain ⟨hcg1, hfg1⟩ := (Kn.hd0 hw).facts; have hlk := run_lookup_none i.name w; go_simp; (try go_bits); exact Yld.mk _ _)
      simp only [qz]
      refine rg_nil (ek_next (wk_block (wk_seq ?_)))
      refine wk_region [0, 0] rfl Kx ?_
      simp only [qy]
      apply rg_softb
      case hy => (intro w hw; have hlk := run_lookup_none i.name w; go_simp; (try go_bits); exact Yld.mk _ _)
      intro x h16
      cases x
      · (try simp only [qd, ne_eq] at h16)
        simp only [qz]
        (try (have h16a := Int.le_of_eq h16; have h16b := Int.le_of_eq h16.symm; clear h16))
        refine rg_assign ?_
        simp only [qz]
        refine rg_nil (ek_next (wk_cond_f rfl (wk_seq (wk_seq ?_))))
        refine wk_region [0, 0] rfl Kx ?_
        simp only [qy]
        apply rg_softb
        case hy => (intro w hw; have hlk := run_lookup_none i.name w; go_simp; (try go_bits); exact Yld.mk _ _)
        intro x h17
        cases x
        · (try simp only [qd, ne_eq] at h17)
          simp only [qz]
          (try (have h17a := Int.le_of_eq h17; have h17b := Int.le_of_eq h17.symm; clear h17))
          refine rg_assign ?_
          simp only [qz]
          refine rg_nil (ek_next (wk_cond_f rfl ?_))
          refine wk_region [0, 0] rfl Kx ?_
          simp only [qy]
          apply rg_softb
          case hy => (intro w hw; have hlk := run_lookup_none i.name w; go_simp; (try go_bits); exact Yld.mk _ _)
          intro x h18
          cases x
          · (try simp only [qd, ne_eq] at h18)
            simp only [qz]
            (try (have h18a := Int.le_of_eq h18; have h18b := Int.le_of_eq h18.symm; clear h18))
            refine rg_assign ?_
            simp only [qz]
            refine rg_nil (ek_next (wk_cond_f rfl (wk_seq ?_)))
            refine wk_region [0, 0] rfl Kx ?_
            simp only [qy]
            apply rg_softb
            case hy => (intro w hw; have hlk := run_lookup_none i.name w; go_simp; (try go_bits); exact Yld.mk _ _)
            intro x h19
            cases x
            · (try simp only [qd, ne_eq] at h19)
              simp only [qz]
              (try (have h19a := Int.le_of_eq h19; have h19b := Int.le_of_eq h19.symm; clear h19))
              refine rg_assign ?_
              simp only [qz]
              refine rg_nil (ek_next (wk_cond_f rfl (wk_skip (ek_block (ek_next (wk_seq ?_))))))
              refine wk_region [0] rfl Kx ?_
              simp only [qy]
              refine rg_assign ?_
              simp only [qz]
              refine rg_nil (ek_next (wk_ret ?_))
              refine ek_ret (fun w hw => ⟨rfl, _, res_t _ rfl, ?_⟩)
              (try simp only [qz])
              exact ⟨by rw [show wd i = 0 from by (unfold wd; (repeat' split) <;> first | rfl | omega | (exfalso; omega) | (exfalso; simp_all; done) | (simp_all; done) | (exfalso; simp_all; omega))], hw.below⟩
            (try simp only [qd, ne_eq] at h19)
            simp only [qz]
            (try (have h19a := Int.le_of_eq h19; have h19b := Int.le_of_eq h19.symm; clear h19))
            refine rg_assign ?_
            simp only [qz]
            refine rg_nil (ek_next (wk_cond_t rfl (wk_seq ?_)))
            refine wk_region [0, 0, 0, 0, 0] rfl Kx ?_
            simp only [qy]
            refine rg_move ?_
            simp only [qz]
            apply rg_soft
            case hy => (intro w hw; have hlk := run_lookup_none i.name w; go_simp; (try go_bits); exact Yld.mk _ _)
            simp only [qz]
            apply rg_soft
            case hy => (intro w hw; obtain ⟨hcg1, hfg1⟩ := (Kn.hd0 hw).facts; have hlk := run_lookup_none i.name w; go_simp; (try go_bits); exact Yld.mk _ _)
            simp only [qz]
            apply rg_soft
            case hy => (intro w hw; have hlk := run_lookup_none i.name w; go_simp; (try go_bits); exact Yld.mk _ _)
            simp only [qz]
            refine rg_assign ?_
            simp only [qz]
            refine rg_nil (ek_next (wk_ret (ek_block_ret (ek_then_ret ?_))))
            refine ek_ret (fun w hw => ⟨rfl, _, res_t _ rfl, ?_⟩)
            (try simp only [qz])
            exact ⟨by rw [show wd i = 0 from by (unfold wd; (repeat' split) <;> first | rfl | omega | (exfalso; omega) | (exfalso; simp_all; done) | (simp_all; done) | (exfalso; simp_all; omega))], hw.below⟩
          (try simp only [qd, ne_eq] at h18)
          simp only [qz]
          (try (have h18a := Int.le_of_eq h18; have h18b := Int.le_of_eq h18.symm; clear h18))
          refine rg_assign ?_
          simp only [qz]
          refine rg_nil (ek_next (wk_cond_t rfl (wk_seq ?_)))
          refine wk_region [0] rfl Kx ?_
          simp only [qy]
          refine rg_assign ?_
          simp only [qz]
          refine rg_nil (ek_next (wk_ret (ek_block_ret (ek_then_ret ?_))))
          refine ek_ret (fun w hw => ⟨rfl, _, res_t _ rfl, ?_⟩)
          (try simp only [qz])
          exact ⟨by rw [show wd i = 2 from by (unfold wd; (repeat' split) <;> first | rfl | omega | (exfalso; omega) | (exfalso; simp_all; done) | (simp_all; done) | (exfalso; simp_all; omega))], hw.below⟩
        (try simp only [qd, ne_eq] at h17)
        simp only [qz]
        (try (have h17a := Int.le_of_eq h17; have h17b := Int.le_of_eq h17.symm; clear h17))
        refine rg_assign ?_
        simp only [qz]
        refine rg_nil (ek_next (wk_cond_t rfl (wk_skip (ek_next (wk_cond_t rfl (wk_seq ?_))))))
        refine wk_region [0] rfl Kx ?_
        simp only [qy]
        refine rg_assign ?_
        simp only [qz]
        refine rg_nil (ek_next (wk_ret (ek_block_ret (ek_then_ret ?_))))
        refine ek_ret (fun w hw => ⟨rfl, _, res_t _ rfl, ?_⟩)
        (try simp only [qz])
        exact ⟨by rw [show wd i = 2 from by (unfold wd; (repeat' split) <;> first | rfl | omega | (exfalso; omega) | (exfalso; simp_all; done) | (simp_all; done) | (exfalso; simp_all; omega))], hw.below⟩
      (try simp only [qd, ne_eq] at h16)
      simp only [qz]
      (try (have h16a := Int.le_of_eq h16; have h16b := Int.le_of_eq h16.symm; clear h16))
      refine rg_assign ?_
      simp only [qz]
      refine rg_nil (ek_next (wk_cond_t rfl (wk_seq ?_)))
      refine wk_region [0, 0, 1] rfl Kx ?_
      simp only [qy]
      apply rg_soft
      case hy => (intro w hw; have hlk := run_lookup_none i.name w; go_simp; (try go_bits); exact Yld.mk _ _)
      simp only [qz]
      apply rg_soft
      case hy => (intro w hw; obtain ⟨hcg1, hfg1⟩ := (Kn.hd0 hw).facts; have hlk := run_lookup_none i.name w; go_simp; (try go_bits); exact Yld.mk _ _)
      simp only [qz]
      apply rg_pureb Rx Kx
      case hargs => exact Ax
      case h => exact fun w hw => between_mesh 1 i.n 7 w
      case hz => exact Nz
      intro x h20
      cases x
      · (try simp only [qd, ne_eq] at h20)
        simp only [qz]
        have hb29 := betB_false h20
        clear h20
        refine rg_nil (ek_next (wk_cond_f rfl (wk_skip (ek_block (ek_next (wk_seq ?_))))))
        refine wk_region [0] rfl Kx ?_
        simp only [qy]
        refine rg_assign ?_
        simp only [qz]
        refine rg_nil (ek_next (wk_ret ?_))
        refine ek_ret (fun w hw => ⟨rfl, _, res_t _ rfl, ?_⟩)
        (try simp only [qz])
        exact ⟨by rw [show wd i = 0 from by (unfold wd; (repeat' split) <;> first | rfl | omega | (exfalso; omega) | (exfalso; simp_all; done) | (simp_all; done) | (exfalso; simp_all; omega))], hw.below⟩
      (try simp only [qd, ne_eq] at h20)
      simp only [qz]
      have hb29 := betB_true h20
      clear h20
      refine rg_nil (ek_next (wk_cond_t rfl (wk_seq ?_)))
      refine wk_region [0] rfl Kx ?_
      simp only [qy]
      refine rg_assign ?_
      simp only [qz]
      refine rg_nil (ek_next (wk_ret (ek_block_ret (ek_then_ret ?_))))
      refine ek_ret (fun w hw => ⟨rfl, _, res_t _ rfl, ?_⟩)
      (try simp only [qz])
      exact ⟨by rw [show wd i = 1 from by (unfold wd; (repeat' split) <;> first | rfl | omega | (exfalso; omega) | (exfalso; simp_all; done) | (simp_all; done) | (exfalso; simp_all; omega))], hw.below⟩
    (try simp only [qd, ne_eq] at h15)
    simp only [qz]
    (try (have h15a := Int.le_of_eq h15; have h15b := Int.le_of_eq h15.symm; clear h15))
    apply rg_soft_g
    case hg => rfl
    case hy => (intro w hw; have hlk := run_lookup_none i.name w; go_simp; (try go_bits); exact Yld.mk _ _)
    simp only [qz]
    apply rg_soft_g
    case hg => rfl
    case hy => (intro w hw; have hlk := run_lookup_none i.name w; go_simp; (try go_bits); exact Yld.mk _ _)
    simp only [qz]
    apply rg_soft_g
    case hg => rfl
    case hy => (intro w hw; obtain ⟨hcg1, hfg1⟩ := (Kn.hd0 hw).facts; have hlk := run_lookup_none i.name w; go_simp; (try go_bits); exact Yld.mk _ _)
    simp only [qz]
    apply rg_softb_g
    case hg => rfl
    case hy => (intro w hw; have hlk := run_lookup_none i.name w; go_simp; (try go_bits); exact Yld.mk _ _)
    intro x h21
    cases x
    · (try simp only [qd, ne_eq] at h21)
      simp only [qz]
      (try (have h21a := Int.le_of_eq h21; have h21b := Int.le_of_eq h21.symm; clear h21))
      apply rg_soft_g
      case hg => rfl
      case hy => (intro w hw; have hlk := run_lookup_none i.name w; go_simp; (try go_bits); exact Yld.mk _ _)
      simp only [qz]
      apply rg_soft
      case hy => (intro w hw; have hlk := run_lookup_none i.name w; go_simp; (try go_bits); exact Yld.mk _ _)
      simp only [qz]
      refine rg_nil (ek_next (wk_cond_f rfl (wk_skip (ek_next (wk_seq (wk_seq ?_))))))
      refine wk_region [0, 0] rfl Kx ?_
      simp only [qy]
      apply rg_soft
      case hy => (intro w hw; have hlk := run_lookup_none i.name w; go_simp; (try go_bits); exact Yld.mk _ _)
      simp only [qz]
      apply rg_soft
      case hy => (intro w hw; obtain ⟨hcg1, hfg1⟩ := (Kn.hd0 hw).facts; have hlk := run_lookup_none i.name w; go_simp; (try go_bits); exact Yld.mk _ _)
      simp only [qz]
      refine rg_nil (ek_next (wk_block (wk_seq ?_)))
      refine wk_region [0, 0] rfl Kx ?_
      simp only [qy]
      apply rg_softb
      case hy => (intro w hw; have hlk := run_lookup_none i.name w; go_simp; (try go_bits); exact Yld.mk _ _)
      intro x h22
      cases x
      · (try simp only [qd, ne_eq] at h22)
        simp only [qz]
        (try (have h22a := Int.le_of_eq h22; have h22b := Int.le_of_eq h22.symm; clear h22))
        refine rg_assign ?_
        simp only [qz]
        refine rg_nil (ek_next (wk_cond_f rfl (wk_seq (wk_seq ?_))))
        refine wk_region [0, 0] rfl Kx ?_
        simp only [qy]
        apply rg_softb
        case hy => (intro w hw; have hlk := run_lookup_none i.name w; go_simp; (try go_bits); exact Yld.mk _ _)
        intro x h23
        cases x
        · (try simp only [qd, ne_eq] at h23)
          simp only [qz]
          (try (have h23a := Int.le_of_eq h23; have h23b := Int.le_of_eq h23.symm; clear h23))
          refine rg_assign ?_
          simp only [qz]
          refine rg_nil (ek_next (wk_cond_f rfl ?_))
          refine wk_region [0, 0] rfl Kx ?_
          simp only [qy]
          apply rg_softb
          case hy => (intro w hw; have hlk := run_lookup_none i.name w; go_simp; (try go_bits); exact Yld.mk _ _)
          intro x h24
          cases x
          · (try simp only [qd, ne_eq] at h24)
            simp only [qz]
            (try (have h24a := Int.le_of_eq h24; have h24b := Int.le_of_eq h24.symm; clear h24))
            refine rg_assign ?_
            simp only [qz]
            refine rg_nil (ek_next (wk_cond_f rfl (wk_seq ?_)))
            refine wk_region [0, 0] rfl Kx ?_
            simp only [qy]
            apply rg_softb
            case hy => (intro w hw; have hlk := run_lookup_none i.name w; go_simp; (try go_bits); exact Yld.mk _ _)
            intro x h25
            cases x
            · (try simp only [qd, ne_eq] at h25)
              simp only [qz]
              (try (have h25a := Int.le_of_eq h25; have h25b := Int.le_of_eq h25.symm; clear h25))
              refine rg_assign ?_
              simp only [qz]
              refine rg_nil (ek_next (wk_cond_f rfl (wk_skip (ek_block (ek_next (wk_seq ?_))))))
              refine wk_region [0] rfl Kx ?_
              simp only [qy]
              refine rg_assign ?_
              simp only [qz]
              refine rg_nil (ek_next (wk_ret ?_))
              refine ek_ret (fun w hw => ⟨rfl, _, res_t _ rfl, ?_⟩)
              (try simp only [qz])
              exact ⟨by rw [show wd i = 0 from by (unfold wd; (repeat' split) <;> first | rfl | omega | (exfalso; omega) | (exfalso; simp_all; done) | (simp_all; done) | (exfalso; simp_all; omega))], hw.below⟩
            (try simp only [qd, ne_eq] at h25)
            simp only [qz]
            (try (have h25a := Int.le_of_eq h25; have h25b := Int.le_of_eq h25.symm; clear h25))
            refine rg_assign ?_
            simp only [qz]
            refine rg_nil (ek_next (wk_cond_t rfl (wk_seq ?_)))
            refine wk_region [0, 0, 0, 0, 0] rfl Kx ?_
            simp only [qy]
            refine rg_move ?_
            simp only [qz]
            apply rg_soft
            case hy => (intro w hw; have hlk := run_lookup_none i.name w; go_simp; (try go_bits); exact Yld.mk _ _)
            simp only [qz]
            apply rg_soft
            case hy => (intro w hw; obtain ⟨hcg1, hfg1⟩ := (Kn.hd0 hw).facts; have hlk := run_lookup_none i.name w; go_simp; (try go_bits); exact Yld.mk _ _)
            simp only [qz]
            apply rg_soft
            case hy => (intro w hw; have hlk := run_lookup_none i.name w; go_simp; (try go_bits); exact Yld.mk _ _)
            simp only [qz]
            refine rg_assign ?_
            simp only [qz]
            refine rg_nil (ek_next (wk_ret (ek_block_ret (ek_then_ret ?_))))
            refine ek_ret (fun w hw => ⟨rfl, _, res_t _ rfl, ?_⟩)
            (try simp only [qz])
            exact ⟨by rw [show wd i = 0 from by (unfold wd; (repeat' split) <;> first | rfl | omega | (exfalso; omega) | (exfalso; simp_all; done) | (simp_all; done) | (exfalso; simp_all; omega))], hw.below⟩
          (try simp only [qd, ne_eq] at h24)
          simp only [qz]
          (try (have h24a := Int.le_of_eq h24; have h24b := Int.le_of_eq h24.symm; clear h24))
          refine rg_assign ?_
          simp only [qz]
          refine rg_nil (ek_next (wk_cond_t rfl (wk_seq ?_)))
          refine wk_region [0] rfl Kx ?_
          simp only [qy]
          refine rg_assign ?_
          simp only [qz]
          refine rg_nil (ek_next (wk_ret (ek_block_ret (ek_then_ret ?_))))
          refine ek_ret (fun w hw => ⟨rfl, _, res_t _ rfl, ?_⟩)
          (try simp only [qz])
          exact ⟨by rw [show wd i = 2 from by (unfold wd; (repeat' split) <;> first | rfl | omega | (exfalso; omega) | (exfalso; simp_all; done) | (simp_all; done) | (exfalso; simp_all; omega))], hw.below⟩
        (try simp only [qd, ne_eq] at h23)
        simp only [qz]
        (try (have h23a := Int.le_of_eq h23; have h23b := Int.le_of_eq h23.symm; clear h23))
        refine rg_assign ?_
        simp only [qz]
        refine rg_nil (ek_next (wk_cond_t rfl (wk_skip (ek_next (wk_cond_t rfl (wk_seq ?_))))))
        refine wk_region [0] rfl Kx ?_
        simp only [qy]
        refine rg_assign ?_
        simp only [qz]
        refine rg_nil (ek_next (wk_ret (ek_block_ret (ek_then_ret ?_))))
        refine ek_ret (fun w hw => ⟨rfl, _, res_t _ rfl, ?_⟩)
        (try simp only [qz])
        exact ⟨by rw [show wd i = 2 from by (unfold wd; (repeat' split) <;> first | rfl | omega | (exfalso; omega) | (exfalso; simp_all; done) | (simp_all; done) | (exfalso; simp_all; omega))], hw.below⟩
      (try simp only [qd, ne_eq] at h22)
      simp only [qz]
      (try (have h22a := Int.le_of_eq h22; have h22b := Int.le_of_eq h22.symm; clear h22))
      refine rg_assign ?_
      simp only [qz]
      refine rg_nil (ek_next (wk_cond_t rfl (wk_seq ?_)))
      refine wk_region [0, 0, 1] rfl Kx ?_
      simp only [qy]
      apply rg_soft
      case hy => (intro w hw; have hlk := run_lookup_none i.name w; go_simp; (try go_bits); exact Yld.mk _ _)
      simp only [qz]
      apply rg_soft
      case hy => (intro w hw; obtain ⟨hcg1, hfg1⟩ := (Kn.hd0 hw).facts; have hlk := run_lookup_none i.name w; go_simp; (try go_bits); exact Yld.mk _ _)
      simp only [qz]
      apply rg_pureb Rx Kx
      case hargs => exact Ax
      case h => exact fun w hw => between_mesh 1 i.n 7 w
      case hz => exact Nz
      intro x h26
      cases x
      · (try simp only [qd, ne_eq] at h26)
        simp only [qz]
        have hb29 := betB_false h26
        clear h26
        refine rg_nil (ek_next (wk_cond_f rfl (wk_skip (ek_block (ek_next (wk_seq ?_))))))
        refine wk_region [0] rfl Kx ?_
        simp only [qy]
        refine rg_assign ?_
        simp only [qz]
        refine rg_nil (ek_next (wk_ret ?_))
        refine ek_ret (fun w hw => ⟨rfl, _, res_t _ rfl, ?_⟩)
        (try simp only [qz])
        exact ⟨by rw [show wd i = 0 from by (unfold wd; (repeat' split) <;> first | rfl | omega | (exfalso; omega) | (exfalso; simp_all; done) | (simp_all; done) | (exfalso; simp_all; omega))], hw.below⟩
      (try simp only [qd, ne_eq] at h26)
      simp only [qz]
      have hb29 := betB_true h26
      clear h26
      refine rg_nil (ek_next (wk_cond_t rfl (wk_seq ?_)))
      refine wk_region [0] rfl Kx ?_
      simp only [qy]
      refine rg_assign ?_
      simp only [qz]
      refine rg_nil (ek_next (wk_ret (ek_block_ret (ek_then_ret ?_))))
      refine ek_ret (fun w hw => ⟨rfl, _, res_t _ rfl, ?_⟩)
      (try simp only [qz])
      exact ⟨by rw [show wd i = 1 from by (unfold wd; (repeat' split) <;> first | rfl | omega | (exfalso; omega) | (exfalso; simp_all; done) | (simp_all; done) | (exfalso; simp_all; omega))], hw.below⟩
    (try simp only [qd, ne_eq] at h21)
    simp only [qz]
    (try (have h21a := Int.le_of_eq h21; have h21b := Int.le_of_eq h21.symm; clear h21))
    apply rg_soft_g
    case hg => rfl
    case hy => (intro w hw; have hlk := run_lookup_none i.name w; go_simp; (try go_bits); exact Yld.mk _ _)
    simp only [qz]
    apply rg_soft
    case hy => (intro w hw; have hlk := run_lookup_none i.name w; go_simp; (try go_bits); exact Yld.mk _ _)
    simp only [qz]
    refine rg_nil (ek_next (wk_cond_t rfl (wk_seq ?_)))
    refine wk_region [0] rfl Kx ?_
    simp only [qy]
    refine rg_assign ?_
    simp only [qz]
    refine rg_nil (ek_next (wk_ret (ek_then_ret ?_)))
    refine ek_ret (fun w hw => ⟨rfl, _, res_t _ rfl, ?_⟩)
    (try simp only [qz])
    exact ⟨by rw [show wd i = 0 from by (unfold wd; (repeat' split) <;> first | rfl | omega | (exfalso; omega) | (exfalso; simp_all; done) | (simp_all; done) | (exfalso; simp_all; omega))], hw.below⟩
  (try simp only [qd, ne_eq] at h14)
  simp only [qz]
  (try (have h14a := Int.le_of_eq h14; have h14b := Int.le_of_eq h14.symm; clear h14))
  apply rg_soft
  case hy => (intro w hw; have hlk := run_lookup_none i.name w; go_simp; (try go_bits); exact Yld.mk _ _)
  simp only [qz]
  refine rg_move ?_
  simp only [qz]
  refine rg_skip Rx ?_
  simp only [qz]
  refine rg_skip Rx ?_
  simp only [qz]
  refine rg_skip Rx ?_
  simp only [qz]
  refine rg_skip Rx ?_
  simp only [qz]
  refine rg_skip Rx ?_
  simp only [qz]
  refine rg_skip Rx ?_
  simp only [qz]
  refine rg_skip Rx ?_
  simp only [qz]
  refine rg_skip Rx ?_
  simp only [qz]
  apply rg_soft
  case hy => (intro w hw; have hlk := run_lookup_none i.name w; go_simp; (try go_bits); exact Yld.mk _ _)
  simp only [qz]
  refine rg_nil (ek_next (wk_cond_t rfl (wk_seq ?_)))
  refine wk_region [0] rfl Kx ?_
  simp only [qy]
  refine rg_assign ?_
  simp only [qz]
  refine rg_nil (ek_next (wk_ret (ek_then_ret ?_)))
  refine ek_ret (fun w hw => ⟨rfl, _, res_t _ rfl, ?_⟩)
  (try simp only [qz])
  exact ⟨by rw [show wd i = 0 from by (unfold wd; (repeat' split) <;> first | rfl | omega | (exfalso; omega) | (exfalso; simp_all; done) | (simp_all; done) | (exfalso; simp_all; omega))], hw.below⟩

set_option maxRecDepth 100000 in
set_option maxHeartbeats 1000000 in
theorem wideI_any (i : It) (h4 : i.kind ≠ 4) (w : World) : Calls Try.prog 151 #[.slice none 0 0, itV i] w fun e w' => e = .returned (.int .i64 (wd i)) ∧ Below w.heap.size w w' := by
  go_enter Try.func151, Try.ntmps151
  refine wk_start ?_
  refine wk_seq ?_
  refine wk_region [1, 0] rfl Kx ?_
  simp only [qy]
  refine Rgn fun g1 => ?_
  simp only [qz]
  refine rg_assign ?_
  simp only [qz]
  refine rg_nil (ek_next (wk_seq (wk_seq ?_)))
  refine wk_region [0, 0] rfl Kx ?_
  simp only [qy]
  apply rg_soft
  case hy => (intro w hw; go_simp; (try go_bits); exact Yld.mk _ _)
  simp only [qz]
  apply rg_soft
  case hy => (intro w hw; obtain ⟨hcg1, hfg1⟩ := (Kn.hd0 hw).facts; go_simp; (try go_bits); exact Yld.mk _ _)
  simp only [qz]
  refine rg_nil (ek_next (wk_block (wk_seq ?_)))
  refine wk_region [0, 0] rfl Kx ?_
  simp only [qy]
  apply rg_softb
  case hy => (intro w hw; go_simp; (try go_bits); exact Yld.mk _ _)
  intro x h1
  cases x
  · (try simp only [qd, ne_eq] at h1)
    simp only [qz]
    (try (have h1a := Int.le_of_eq h1; have h1b := Int.le_of_eq h1.symm; clear h1))
    refine rg_assign ?_
    simp only [qz]
    refine rg_nil (ek_next (wk_cond_f rfl (wk_seq (wk_seq ?_))))
    refine wk_region [0, 0] rfl Kx ?_
    simp only [qy]
    apply rg_softb
    case hy => (intro w hw; go_simp; (try go_bits); exact Yld.mk _ _)
    intro x h2
    cases x
    · (try simp only [qd, ne_eq] at h2)
      simp only [qz]
      (try (have h2a := Int.le_of_eq h2; have h2b := Int.le_of_eq h2.symm; clear h2))
      refine rg_assign ?_
      simp only [qz]
      refine rg_nil (ek_next (wk_cond_f rfl ?_))
      refine wk_region [0, 0] rfl Kx ?_
      simp only [qy]
      apply rg_softb
      case hy => (intro w hw; go_simp; (try go_bits); exact Yld.mk _ _)
      intro x h3
      cases x
      · (try simp only [qd, ne_eq] at h3)
        simp only [qz]
        (try (have h3a := Int.le_of_eq h3; have h3b := Int.le_of_eq h3.symm; clear h3))
        refine rg_assign ?_
        simp only [qz]
        refine rg_nil (ek_next (wk_cond_f rfl (wk_seq ?_)))
        refine wk_region [0, 0] rfl Kx ?_
        simp only [qy]
        apply rg_softb
        case hy => (intro w hw; go_simp; (try go_bits); exact Yld.mk _ _)
        intro x h4
        obtain rfl : x = false := Kf h4
        clear h4
        simp only [qz]
        refine rg_assign ?_
        simp only [qz]
        refine rg_nil (ek_next (wk_cond_f rfl (wk_skip (ek_block (ek_next (wk_seq ?_))))))
        refine wk_region [0] rfl Kx ?_
        simp only [qy]
        refine rg_assign ?_
        simp only [qz]
        refine rg_nil (ek_next (wk_ret ?_))
        refine ek_ret (fun w hw => ⟨rfl, _, res_t _ rfl, ?_⟩)
        (try simp only [qz])
        exact ⟨by rw [show wd i = 0 from by (unfold wd; (repeat' split) <;> first | rfl | omega | (exfalso; omega) | (exfalso; simp_all; done) | (simp_all; done) | (exfalso; simp_all; omega))], hw.below⟩
      (try simp only [qd, ne_eq] at h3)
      simp only [qz]
      (try (have h3a := Int.le_of_eq h3; have h3b := Int.le_of_eq h3.symm; clear h3))
      refine rg_assign ?_
      simp only [qz]
      refine rg_nil (ek_next (wk_cond_t rfl (wk_seq ?_)))
      refine wk_region [0, 0, 0, 0, 0, 0, 0, 0] rfl Kx ?_
      simp only [qy]
      apply rg_soft
      case hy => (intro w hw; go_simp; (try go_bits); exact Yld.mk _ _)
      simp only [qz]
      apply rg_soft
      case hy => (intro w hw; obtain ⟨hcg1, hfg1⟩ := (Kn.hd0 hw).facts; go_simp; (try go_bits); exact Yld.mk _ _)
      simp only [qz]
      apply rg_softb
      case hy => (intro w hw; go_simp; (try go_bits); exact Yld.mk _ _)
      intro x h5
      cases x
      · (try simp only [qd, ne_eq] at h5)
        simp only [qz]
        (try (have h5a := Int.le_of_eq h5; have h5b := Int.le_of_eq h5.symm; clear h5))
        refine rg_move ?_
        simp only [qz]
        refine rg_skip Rx ?_
        simp only [qz]
        refine rg_skip Rx ?_
        simp only [qz]
        refine rg_skip Rx ?_
        simp only [qz]
        apply rg_soft
        case hy => (intro w hw; go_simp; (try go_bits); exact Yld.mk _ _)
        simp only [qz]
        refine rg_nil (ek_next (wk_cond_f rfl (wk_skip (ek_block (ek_next (wk_seq ?_))))))
        refine wk_region [0] rfl Kx ?_
        simp only [qy]
        refine rg_assign ?_
        simp only [qz]
        refine rg_nil (ek_next (wk_ret ?_))
        refine ek_ret (fun w hw => ⟨rfl, _, res_t _ rfl, ?_⟩)
        (try simp only [qz])
        exact ⟨by rw [show wd i = 0 from by (unfold wd; (repeat' split) <;> first | rfl | omega | (exfalso; omega) | (exfalso; simp_all; done) | (simp_all; done) | (exfalso; simp_all; omega))], hw.below⟩
      (try simp only [qd, ne_eq] at h5)
      simp only [qz]
      (try (have h5a := Int.le_of_eq h5; have h5b := Int.le_of_eq h5.symm; clear h5))
      refine rg_move ?_
      simp only [qz]
      apply rg_soft_g
      case hg => rfl
      case hy => (intro w hw; go_simp; (try go_bits); exact Yld.mk _ _)
      simp only [qz]
      apply rg_soft_g
      case hg => rfl
      case hy => (intro w hw; obtain ⟨hcg1, hfg1⟩ := (Kn.hd0 hw).facts; go_simp; (try go_bits); exact Yld.mk _ _)
      simp only [qz]
      apply rg_softb_g
      case hg => rfl
      case hy => (intro w hw; go_simp; (try go_bits); exact Yld.mk _ _)
      intro x h6
      cases x
      · (try simp only [qd, ne_eq] at h6)
        simp only [qz]
        (try (have h6a := Int.le_of_eq h6; have h6b := Int.le_of_eq h6.symm; clear h6))
        apply rg_soft
        case hy => (intro w hw; go_simp; (try go_bits); exact Yld.mk _ _)
        simp only [qz]
        refine rg_nil (ek_next (wk_cond_f rfl (wk_skip (ek_block (ek_next (wk_seq ?_))))))
        refine wk_region [0] rfl Kx ?_
        simp only [qy]
        refine rg_assign ?_
        simp only [qz]
        refine rg_nil (ek_next (wk_ret ?_))
        refine ek_ret (fun w hw => ⟨rfl, _, res_t _ rfl, ?_⟩)
        (try simp only [qz])
        exact ⟨by rw [show wd i = 0 from by (unfold wd; (repeat' split) <;> first | rfl | omega | (exfalso; omega) | (exfalso; simp_all; done) | (simp_all; done) | (exfalso; simp_all; omega))], hw.below⟩
      (try simp only [qd, ne_eq] at h6)
      simp only [qz]
      (try (have h6a := Int.le_of_eq h6; have h6b := Int.le_of_eq h6.symm; clear h6))
      apply rg_soft
      case hy => (intro w hw; go_simp; (try go_bits); exact Yld.mk _ _)
      simp only [qz]
      refine rg_nil (ek_next (wk_cond_t rfl (wk_seq ?_)))
      refine wk_region [0] rfl Kx ?_
      simp only [qy]
      refine rg_assign ?_
      simp only [qz]
      refine rg_nil (ek_next (wk_ret (ek_block_ret (ek_then_ret ?_))))
      refine ek_ret (fun w hw => ⟨rfl, _, res_t _ rfl, ?_⟩)
      (try simp only [qz])
      exact ⟨by rw [show wd i = 2 from by (unfold wd; (repeat' split) <;> first | rfl | omega | (exfalso; omega) | (exfalso; simp_all; done) | (simp_all; done) | (exfalso; simp_all; omega))], hw.below⟩
    (try simp only [qd, ne_eq] at h2)
    simp only [qz]
    (try (have h2a := Int.le_of_eq h2; have h2b := Int.le_of_eq h2.symm; clear h2))
    refine rg_assign ?_
    simp only [qz]
    refine rg_nil (ek_next (wk_cond_t rfl (wk_skip (ek_next (wk_cond_t rfl (wk_seq ?_))))))
    refine wk_region [0, 0, 0, 0, 0, 0, 0, 0] rfl Kx ?_
    simp only [qy]
    apply rg_soft
    case hy => (intro w hw; go_simp; (try go_bits); exact Yld.mk _ _)
    simp only [qz]
    apply rg_soft
    case hy => (intro w hw; obtain ⟨hcg1, hfg1⟩ := (Kn.hd0 hw).facts; go_simp; (try go_bits); exact Yld.mk _ _)
    simp only [qz]
    apply rg_softb
    case hy => (intro w hw; go_simp; (try go_bits); exact Yld.mk _ _)
    intro x h7
    cases x
    · (try simp only [qd, ne_eq] at h7)
      simp only [qz]
      (try (have h7a := Int.le_of_eq h7; have h7b := Int.le_of_eq h7.symm; clear h7))
      refine rg_move ?_
      simp only [qz]
      refine rg_skip Rx ?_
      simp only [qz]
      refine rg_skip Rx ?_
      simp only [qz]
      refine rg_skip Rx ?_
      simp only [qz]
      apply rg_soft
      case hy => (intro w hw; go_simp; (try go_bits); exact Yld.mk _ _)
      simp only [qz]
      refine rg_nil (ek_next (wk_cond_f rfl (wk_skip (ek_block (ek_next (wk_seq ?_))))))
      refine wk_region [0] rfl Kx ?_
      simp only [qy]
      refine rg_assign ?_
      simp only [qz]
      refine rg_nil (ek_next (wk_ret ?_))
      refine ek_ret (fun w hw => ⟨rfl, _, res_t _ rfl, ?_⟩)
      (try simp only [qz])
      exact ⟨by rw [show wd i = 0 from by (unfold wd; (repeat' split) <;> first | rfl | omega | (exfalso; omega) | (exfalso; simp_all; done) | (simp_all; done) | (exfalso; simp_all; omega))], hw.below⟩
    (try simp only [qd, ne_eq] at h7)
    simp only [qz]
    (try (have h7a := Int.le_of_eq h7; have h7b := Int.le_of_eq h7.symm; clear h7))
    refine rg_move ?_
    simp only [qz]
    apply rg_soft_g
    case hg => rfl
    case hy => (intro w hw; go_simp; (try go_bits); exact Yld.mk _ _)
    simp only [qz]
    apply rg_soft_g
    case hg => rfl
    case hy => (intro w hw; obtain ⟨hcg1, hfg1⟩ := (Kn.hd0 hw).facts; go_simp; (try go_bits); exact Yld.mk _ _)
    simp only [qz]
    apply rg_softb_g
    case hg => rfl
    case hy => (intro w hw; go_simp; (try go_bits); exact Yld.mk _ _)
    intro x h8
    cases x
    · (try simp only [qd, ne_eq] at h8)
      simp only [qz]
      (try (have h8a := Int.le_of_eq h8; have h8b := Int.le_of_eq h8.symm; clear h8))
      apply rg_soft
      case hy => (intro w hw; go_simp; (try go_bits); exact Yld.mk _ _)
      simp only [qz]
      refine rg_nil (ek_next (wk_cond_f rfl (wk_skip (ek_block (ek_next (wk_seq ?_))))))
      refine wk_region [0] rfl Kx ?_
      simp only [qy]
      refine rg_assign ?_
      simp only [qz]
      refine rg_nil (ek_next (wk_ret ?_))
      refine ek_ret (fun w hw => ⟨rfl, _, res_t _ rfl, ?_⟩)
      (try simp only [qz])
      exact ⟨by rw [show wd i = 0 from by (unfold wd; (repeat' split) <;> first | rfl | omega | (exfalso; omega) | (exfalso; simp_all; done) | (simp_all; done) | (exfalso; simp_all; omega))], hw.below⟩
    (try simp only [qd, ne_eq] at h8)
    simp only [qz]
    (try (have h8a := Int.le_of_eq h8; have h8b := Int.le_of_eq h8.symm; clear h8))
    apply rg_soft
    case hy => (intro w hw; go_simp; (try go_bits); exact Yld.mk _ _)
    simp only [qz]
    refine rg_nil (ek_next (wk_cond_t rfl (wk_seq ?_)))
    refine wk_region [0] rfl Kx ?_
    simp only [qy]
    refine rg_assign ?_
    simp only [qz]
    refine rg_nil (ek_next (wk_ret (ek_block_ret (ek_then_ret ?_))))
    refine ek_ret (fun w hw => ⟨rfl, _, res_t _ rfl, ?_⟩)
    (try simp only [qz])
    exact ⟨by rw [show wd i = 2 from by (unfold wd; (repeat' split) <;> first | rfl | omega | (exfalso; omega) | (exfalso; simp_all; done) | (simp_all; done) | (exfalso; simp_all; omega))], hw.below⟩
  (try simp only [qd, ne_eq] at h1)
  simp only [qz]
  (try (have h1a := Int.le_of_eq h1; have h1b := Int.le_of_eq h1.symm; clear h1))
  refine rg_assign ?_
  simp only [qz]
  refine rg_nil (ek_next (wk_cond_t rfl (wk_seq ?_)))
  refine wk_region [0, 0, 0, 0, 0, 0, 0, 0, 0, 0, 0, 0, 0] rfl Kx ?_
  simp only [qy]
  apply rg_soft
  case hy => (intro w hw; go_simp; (try go_bits); exact Yld.mk _ _)
  simp only [qz]
  apply rg_soft
  case hy => (intro w hw; obtain ⟨hcg1, hfg1⟩ := (Kn.hd0 hw).facts; go_simp; (try go_bits); exact Yld.mk _ _)
  simp only [qz]
  apply rg_softb
  case hy => (intro w hw; go_simp; (try go_bits); exact Yld.mk _ _)
  intro x h9
  cases x
  · (try simp only [qd, ne_eq] at h9)
    simp only [qz]
    (try (have h9a := Int.le_of_eq h9; have h9b := Int.le_of_eq h9.symm; clear h9))
    refine rg_move ?_
    simp only [qz]
    refine rg_skip Rx ?_
    simp only [qz]
    refine rg_skip Rx ?_
    simp only [qz]
    refine rg_skip Rx ?_
    simp only [qz]
    apply rg_soft
    case hy => (intro w hw; go_simp; (try go_bits); exact Yld.mk _ _)
    simp only [qz]
    refine rg_move ?_
    simp only [qz]
    refine rg_skip Rx ?_
    simp only [qz]
    refine rg_skip Rx ?_
    simp only [qz]
    refine rg_skip Rx ?_
    simp only [qz]
    apply rg_soft
    case hy => (intro w hw; go_simp; (try go_bits); exact Yld.mk _ _)
    simp only [qz]
    refine rg_nil (ek_next (wk_cond_f rfl (wk_skip (ek_block (ek_next (wk_seq ?_))))))
    refine wk_region [0] rfl Kx ?_
    simp only [qy]
    refine rg_assign ?_
    simp only [qz]
    refine rg_nil (ek_next (wk_ret ?_))
    refine ek_ret (fun w hw => ⟨rfl, _, res_t _ rfl, ?_⟩)
    (try simp only [qz])
    exact ⟨by rw [show wd i = 0 from by (unfold wd; (repeat' split) <;> first | rfl | omega | (exfalso; omega) | (exfalso; simp_all; done) | (simp_all; done) | (exfalso; simp_all; omega))], hw.below⟩
  (try simp only [qd, ne_eq] at h9)
  simp only [qz]
  (try (have h9a := Int.le_of_eq h9; have h9b := Int.le_of_eq h9.symm; clear h9))
  refine rg_move ?_
  simp only [qz]
  apply rg_soft_g
  case hg => rfl
  case hy => (intro w hw; go_simp; (try go_bits); exact Yld.mk _ _)
  simp only [qz]
  apply rg_soft_g
  case hg => rfl
  case hy => (intro w hw; obtain ⟨hcg1, hfg1⟩ := (Kn.hd0 hw).facts; go_simp; (try go_bits); exact Yld.mk _ _)
  simp only [qz]
  apply rg_softb_g
  case hg => rfl
  case hy => (intro w hw; go_simp; (try go_bits); exact Yld.mk _ _)
  intro x h10
  cases x
  · (try simp only [qd, ne_eq] at h10)
    simp only [qz]
    (try (have h10a := Int.le_of_eq h10; have h10b := Int.le_of_eq h10.symm; clear h10))
    apply rg_soft
    case hy => (intro w hw; go_simp; (try go_bits); exact Yld.mk _ _)
    simp only [qz]
    refine rg_move ?_
    simp only [qz]
    refine rg_skip Rx ?_
    simp only [qz]
    refine rg_skip Rx ?_
    simp only [qz]
    refine rg_skip Rx ?_
    simp only [qz]
    apply rg_soft
    case hy => (intro w hw; go_simp; (try go_bits); exact Yld.mk _ _)
    simp only [qz]
    refine rg_nil (ek_next (wk_cond_f rfl (wk_skip (ek_block (ek_next (wk_seq ?_))))))
    refine wk_region [0] rfl Kx ?_
    simp only [qy]
    refine rg_assign ?_
    simp only [qz]
    refine rg_nil (ek_next (wk_ret ?_))
    refine ek_ret (fun w hw => ⟨rfl, _, res_t _ rfl, ?_⟩)
    (try simp only [qz])
    exact ⟨by rw [show wd i = 0 from by (unfold wd; (repeat' split) <;> first | rfl | omega | (exfalso; omega) | (exfalso; simp_all; done) | (simp_all; done) | (exfalso; simp_all; omega))], hw.below⟩
  (try simp only [qd, ne_eq] at h10)
  simp only [qz]
  (try (have h10a := Int.le_of_eq h10; have h10b := Int.le_of_eq h10.symm; clear h10))
  apply rg_soft
  case hy => (intro w hw; go_simp; (try go_bits); exact Yld.mk _ _)
  simp only [qz]
  refine rg_move ?_
  simp only [qz]
  apply rg_soft_g
  case hg => rfl
  case hy => (intro w hw; go_simp; (try go_bits); exact Yld.mk _ _)
  simp only [qz]
  apply rg_soft_g
  case hg => rfl
  case hy => (intro w hw; obtain ⟨hcg1, hfg1⟩ := (Kn.hd0 hw).facts; go_simp; (try go_bits); exact Yld.mk _ _)
  simp only [qz]
  apply rg_softb_g
  case hg => rfl
  case hy => (intro w hw; go_simp; (try go_bits); exact Yld.mk _ _)
  intro x h11
  cases x
  · (try simp only [qd, ne_eq] at h11)
    simp only [qz]
    (try (have h11a := Int.le_of_eq h11; have h11b := Int.le_of_eq h11.symm; clear h11))
    apply rg_soft
    case hy => (intro w hw; go_simp; (try go_bits); exact Yld.mk _ _)
    simp only [qz]
    refine rg_nil (ek_next (wk_cond_f rfl (wk_skip (ek_block (ek_next (wk_seq ?_))))))
    refine wk_region [0] rfl Kx ?_
    simp only [qy]
    refine rg_assign ?_
    simp only [qz]
    refine rg_nil (ek_next (wk_ret ?_))
    refine ek_ret (fun w hw => ⟨rfl, _, res_t _ rfl, ?_⟩)
    (try simp only [qz])
    exact ⟨by rw [show wd i = 0 from by (unfold wd; (repeat' split) <;> first | rfl | omega | (exfalso; omega) | (exfalso; simp_all; done) | (simp_all; done) | (exfalso; simp_all; omega))], hw.below⟩
  (try simp only [qd, ne_eq] at h11)
  simp only [qz]
  (try (have h11a := Int.le_of_eq h11; have h11b := Int.le_of_eq h11.symm; clear h11))
  apply rg_soft
  case hy => (intro w hw; go_simp; (try go_bits); exact Yld.mk _ _)
  simp only [qz]
  refine rg_nil (ek_next (wk_cond_t rfl (wk_seq ?_)))
  refine wk_region [0] rfl Kx ?_
  simp only [qy]
  refine rg_assign ?_
  simp only [qz]
  refine rg_nil (ek_next (wk_ret (ek_block_ret (ek_then_ret ?_))))
  refine ek_ret (fun w hw => ⟨rfl, _, res_t _ rfl, ?_⟩)
  (try simp only [qz])
  exact ⟨by rw [show wd i = 1 from by (unfold wd; (repeat' split) <;> first | rfl | omega | (exfalso; omega) | (exfalso; simp_all; done) | (simp_all; done) | (exfalso; simp_all; omega))], hw.below⟩

set_option maxRecDepth 100000 in
set_option maxHeartbeats 1000000 in
theorem fits1_any (i : It) (n : Int) (hn : 1 ≤ n ∧ n ≤ 6) (g2 g3 : Nat) (w : World) (H2 : Hd w g2 194 #[.map none]) (H3 : Hd w g3 3 #[.int .i64 n]) : Calls Try.prog 196 #[itV i, .pointer (some ⟨g2, 0, none⟩), .pointer (some ⟨g3, 0, none⟩)] w fun e w' => e = .returned (.bool (!fitB n i)) ∧ Below w.heap.size w w' := by
  have hwd := wd_range i
  go_enter Try.func196, Try.ntmps196
  refine wk_start ?_
  refine wk_seq ?_
  refine wk_region [1, 0] rfl Kx ?_
  simp only [qy]
  refine Rgn fun g1 => ?_
  simp only [qz]
  refine rg_assign ?_
  simp only [qz]
  refine rg_nil (ek_next (wk_seq ?_))
  refine wk_region [0, 0, 1, 0] rfl Kx ?_
  simp only [qy]
  apply rg_soft
  case hy => (intro w hw; obtain ⟨hcg1, hfg1⟩ := (Kn.hd0 hw).facts; have hwd := wd_range i; go_simp; (try go_bits); exact Yld.mk _ _)
  simp only [qz]
  apply rg_soft
  case hy => (intro w hw; obtain ⟨hcM, hfM⟩ := (hw.hdB H2 (by simp)).facts; have hwd := wd_range i; go_simp; (try go_bits); exact Yld.mk _ _)
  simp only [qz]
  apply rg_pure Rx Kx
  case hargs => exact Ax
  case h => exact fun w hw => width_any i w
  case hz => exact Nz
  simp only [qz]
  refine rg_assign ?_
  simp only [qz]
  refine rg_nil (ek_next (wk_seq ?_))
  refine wk_region [0, 0, 0, 0, 0, 0, 0, 0, 0, 1, 0, 0, 0] rfl Kx ?_
  simp only [qy]
  refine rg_move ?_
  simp only [qz]
  apply rg_softb
  case hy => (intro w hw; have hwd := wd_range i; go_simp; (try go_bits); exact Yld.mk _ _)
  intro x h1
  cases x
  · (try simp only [qd, ne_eq] at h1)
    simp only [qz]
    (try (have h1a := Int.le_of_eq h1; have h1b := Int.le_of_eq h1.symm; clear h1))
    refine rg_move ?_
    simp only [qz]
    apply rg_soft_g
    case hg => rfl
    case hy => (intro w hw; have hwd := wd_range i; go_simp; (try go_bits); exact Yld.mk _ _)
    simp only [qz]
    apply rg_soft_g
    case hg => rfl
    case hy => (intro w hw; obtain ⟨hcg1, hfg1⟩ := (Kn.hd0 hw).facts; have hwd := wd_range i; go_simp; (try go_bits); exact Yld.mk _ _)
    simp only [qz]
    apply rg_soft_g
    case hg => rfl
    case hy => (intro w hw; obtain ⟨hcN, hfN⟩ := (hw.hdB H3 (by simp)).facts; have hwd := wd_range i; go_simp; (try go_bits); exact Yld.mk _ _)
    simp only [qz]
    apply rg_soft_g
    case hg => rfl
    case hy => (intro w hw; have hwd := wd_range i; go_simp; (try go_bits); exact Yld.mk _ _)
    simp only [qz]
    apply rg_soft_g
    case hg => rfl
    case hy => (intro w hw; have hwd := wd_range i; go_simp; (try go_bits); exact Yld.mk _ _)
    simp only [qz]
    apply rg_soft_g
    case hg => rfl
    case hy => (intro w hw; have hwd := wd_range i; go_simp; (try go_bits); exact Yld.mk _ _)
    simp only [qz]
    apply rg_pureb Rx Kx
    case hargs => exact Ax
    case h => exact fun w hw => between_mesh 1 i.at_ (n - wd i + 1) w
    case hz => exact Nz
    intro x h2
    cases x
    · (try simp only [qd, ne_eq] at h2)
      simp only [qz]
      have hb18 := betB_false h2
      clear h2
      apply rg_soft_g
      case hg => rfl
      case hy => (intro w hw; have hwd := wd_range i; go_simp; (try go_bits); exact Yld.mk _ _)
      simp only [qz]
      apply rg_soft
      case hy => (intro w hw; have hwd := wd_range i; go_simp; (try go_bits); exact Yld.mk _ _)
      simp only [qz]
      refine rg_assign ?_
      simp only [qz]
      refine rg_nil (ek_next (wk_ret ?_))
      refine ek_ret (fun w hw => ⟨rfl, _, res_t _ rfl, ?_⟩)
      (try simp only [qz])
      exact ⟨by (congr 2; symm; show (!fitB n i) = _; first | (rw [show fitB n i = true from decide_eq_true ⟨by omega, by omega, by omega⟩]; rfl) | (rw [show fitB n i = false from decide_eq_false (fun h => by omega)]; rfl)), hw.below⟩
    (try simp only [qd, ne_eq] at h2)
    simp only [qz]
    have hb18 := betB_true h2
    clear h2
    apply rg_soft_g
    case hg => rfl
    case hy => (intro w hw; have hwd := wd_range i; go_simp; (try go_bits); exact Yld.mk _ _)
    simp only [qz]
    apply rg_soft
    case hy => (intro w hw; have hwd := wd_range i; go_simp; (try go_bits); exact Yld.mk _ _)
    simp only [qz]
    refine rg_assign ?_
    simp only [qz]
    refine rg_nil (ek_next (wk_ret ?_))
    refine ek_ret (fun w hw => ⟨rfl, _, res_t _ rfl, ?_⟩)
    (try simp only [qz])
    exact ⟨by (congr 2; symm; show (!fitB n i) = _; first | (rw [show fitB n i = true from decide_eq_true ⟨by omega, by omega, by omega⟩]; rfl) | (rw [show fitB n i = false from decide_eq_false (fun h => by omega)]; rfl)), hw.below⟩
  (try simp only [qd, ne_eq] at h1)
  simp only [qz]
  (try (have h1a := Int.le_of_eq h1; have h1b := Int.le_of_eq h1.symm; clear h1))
  refine rg_move ?_
  simp only [qz]
  refine rg_skip Rx ?_
  simp only [qz]
  refine rg_skip Rx ?_
  simp only [qz]
  refine rg_skip Rx ?_
  simp only [qz]
  refine rg_skip Rx ?_
  simp only [qz]
  refine rg_skip Rx ?_
  simp only [qz]
  refine rg_skip Rx ?_
  simp only [qz]
  refine rg_skip_h Rx Nz ?_
  simp only [qz]
  refine rg_skip Rx ?_
  simp only [qz]
  apply rg_soft
  case hy => (intro w hw; have hwd := wd_range i; go_simp; (try go_bits); exact Yld.mk _ _)
  simp only [qz]
  refine rg_assign ?_
  simp only [qz]
  refine rg_nil (ek_next (wk_ret ?_))
  refine ek_ret (fun w hw => ⟨rfl, _, res_t _ rfl, ?_⟩)
  (try simp only [qz])
  exact ⟨by (congr 2; symm; show (!fitB n i) = _; first | (rw [show fitB n i = true from decide_eq_true ⟨by omega, by omega, by omega⟩]; rfl) | (rw [show fitB n i = false from decide_eq_false (fun h => by omega)]; rfl)), hw.below⟩

set_option maxRecDepth 100000 in
set_option maxHeartbeats 1000000 in
theorem fits_any (xs : List It) (a : Option Addr) (c : Nat) (n : Int) (hn : 1 ≤ n ∧ n ≤ 6) (hl : xs.length ≤ 100000) (w : World) (hA : AS w a (its xs)) : Calls Try.prog 161 #[.int .i64 n, slV a xs.length c, .map none] w fun e w' => e = .returned (.bool (xs.all (fitB n))) ∧ Below w.heap.size w w' := by
  go_enter Try.func161, Try.ntmps161
  refine wk_start ?_
  refine wk_seq ?_
  refine wk_region [1, 1, 0] rfl Kx ?_
  simp only [qy]
  refine Rgn fun g1 => ?_
  simp only [qz]
  refine Rgn fun g2 => ?_
  simp only [qz]
  refine rg_assign ?_
  simp only [qz]
  refine rg_nil (ek_next (wk_seq ?_))
  refine wk_region [0, 0, 1, 0, 0] rfl Kx ?_
  simp only [qy]
  refine rg_move ?_
  simp only [qz]
  apply rg_soft
  case hy => (intro w hw; go_simp; (try go_bits); exact Yld.mk _ _)
  simp only [qz]
  apply rg_pure Rx Kx
  case hargs => exact Ax
  case h => exact fun w hw => contains_any xs a c (fun i => !fitB n i) 196 #[.pointer (some ⟨g2, 0, none⟩), .pointer (some ⟨g1, 0, none⟩)] hl Kx w (hA.kn0 hw) (fun w' hb i hi => fits1_any i n hn g2 g1 w' (Kn.hd0 (hw.call hb)) (Kn.hd0 (Kn.tl (hw.call hb))))
  case hz => exact Nz
  simp only [qz]
  apply rg_soft
  case hy => (intro w hw; go_simp; (try go_bits); exact Yld.mk _ _)
  simp only [qz]
  refine rg_assign ?_
  simp only [qz]
  refine rg_nil (ek_next (wk_ret ?_))
  refine ek_ret (fun w hw => ⟨rfl, _, res_t _ rfl, ?_⟩)
  (try simp only [qz])
  exact ⟨by rw [List.all_eq_not_any_not], hw.below⟩

end Go.Proofs.Ytccbinnlnkpplaa
namespace Go.Proofs.Ytccbinnlnkpplaa
set_option linter.all false
open Go.RowKit

theorem wd_four {i : It} (h : i.kind = 4) : wd i = 0 := by unfold wd; rw [if_neg Ox, if_neg Ox]
theorem fitB_true {n : Int} {i : It} (h : wd i ≠ 0 ∧ 1 ≤ i.at_ ∧ i.at_ ≤ n - wd i + 1) : fitB n i = true := decide_eq_true h
theorem fitB_false {n : Int} {i : It} (h : ¬ (wd i ≠ 0 ∧ 1 ≤ i.at_ ∧ i.at_ ≤ n - wd i + 1)) : fitB n i = false := decide_eq_false h
theorem mem_it {xs : List It} {x : It} (h : x ∈ xs) : ∃ j, j < xs.length ∧ it xs j = x := by
  obtain ⟨j, hj, e⟩ := List.getElem_of_mem h
  exact ⟨j, hj, by unfold it; rw [List.getD_eq_getElem?_getD, List.getElem?_eq_getElem hj]; exact e⟩
theorem all_it {p : It → Bool} {xs : List It} (h : ∀ j, j < xs.length → p (it xs j) = true) : xs.all p = true := by
  rw [List.all_eq_true]; intro x hx; obtain ⟨j, hj, rfl⟩ := mem_it hx; exact h j hj
theorem not_all_it {p : It → Bool} {xs : List It} {k : Nat} (hk : k < xs.length) (h : p (it xs k) = false) : xs.all p = false := by
  rw [← Bool.not_eq_true, List.all_eq_true]; intro hh; rw [hh _ (it_mem hk)] at h; cases h
theorem validI_true {n : Int} {xs : List It} (h1 : 1 ≤ n) (h2 : n ≤ 6) (h3 : xs.length ≤ 5000) (h4 : xs.all (fitB n) = true) : validI n xs = true := by
  unfold validI; rw [h4]; simp [h1, h2, h3]
theorem validB_false {n : Int} {xs : List It} (h : ¬ (1 ≤ n ∧ n ≤ 6 ∧ xs.length ≤ 5000 ∧ xs.all (fitB n) = true)) : validI n xs = false := by
  unfold validI
  rw [← Bool.not_eq_true]
  intro hh
  simp only [Bool.and_eq_true, decide_eq_true_eq] at hh
  exact h ⟨hh.1.1, hh.1.2, hh.2.1, hh.2.2⟩
theorem validB_all {n : Int} {xs : List It} (h : validI n xs = true) : 1 ≤ n ∧ n ≤ 6 ∧ xs.length ≤ 5000 ∧ ∀ j, j < xs.length → fitB n (it xs j) = true := by
  unfold validI at h
  simp only [Bool.and_eq_true, decide_eq_true_eq] at h
  exact ⟨h.1.1, h.1.2, h.2.1, fun j hj => (List.all_eq_true.1 h.2.2) _ (it_mem hj)⟩
def itemE (n : Int) (xs : List It) : Int := if 1 ≤ n ∧ n ≤ 6 then (if validI n xs = true then 0 else 31) else 2

set_option maxRecDepth 100000 in
set_option maxHeartbeats 1000000 in
theorem mvalidI_any (xs : List It) (a : Option Addr) (c : Nat) (n : Int) (w : World) (hA : AS w a (its xs)) : Calls Try.prog 114 #[.int .i64 n, slV a xs.length c] w fun e w' => e = .returned (.bool (validI n xs)) ∧ Below w.heap.size w w' := by
  go_enter Try.func114, Try.ntmps114
  refine wk_start ?_
  refine wk_seq ?_
  refine wk_region [0] rfl Kx ?_
  simp only [qy]
  refine rg_assign ?_
  simp only [qz]
  refine rg_nil (ek_next (wk_seq ?_))
  refine wk_region [0, 1, 0, 0, 0, 0, 0, 0, 0, 0, 1, 0, 0] rfl Kx ?_
  simp only [qy]
  refine rg_move ?_
  simp only [qz]
  apply rg_pureb Rx Kx
  case hargs => exact Ax
  case h => exact fun w hw => between_mesh 1 n 6 w
  case hz => exact Nz
  intro x h1
  cases x
  · (try simp only [qd, ne_eq] at h1)
    simp only [qz]
    have hb6 := betB_false h1
    clear h1
    refine rg_move ?_
    simp only [qz]
    refine rg_skip Rx ?_
    simp only [qz]
    refine rg_skip Rx ?_
    simp only [qz]
    refine rg_skip Rx ?_
    simp only [qz]
    apply rg_soft
    case hy => (intro w hw; go_simp; (try go_bits); exact Yld.mk _ _)
    simp only [qz]
    refine rg_move ?_
    simp only [qz]
    refine rg_skip Rx ?_
    simp only [qz]
    refine rg_skip Rx ?_
    simp only [qz]
    refine rg_skip_h Rx Nz ?_
    simp only [qz]
    apply rg_soft
    case hy => (intro w hw; go_simp; (try go_bits); exact Yld.mk _ _)
    simp only [qz]
    refine rg_assign ?_
    simp only [qz]
    refine rg_nil (ek_next (wk_ret ?_))
    refine ek_ret (fun w hw => ⟨rfl, _, res_t _ rfl, ?_⟩)
    (try simp only [qz])
    exact ⟨by rw [show validI n xs = false from validB_false (fun h => by omega)], hw.below⟩
  (try simp only [qd, ne_eq] at h1)
  simp only [qz]
  have hb6 := betB_true h1
  clear h1
  refine rg_move ?_
  simp only [qz]
  apply rg_soft_g
  case hg => rfl
  case hy => (intro w hw; go_simp; (try go_bits); exact Yld.mk _ _)
  simp only [qz]
  apply rg_soft_g
  case hg => rfl
  case hy => (intro w hw; go_simp; (try go_bits); exact Yld.mk _ _)
  simp only [qz]
  apply rg_softb_g
  case hg => rfl
  case hy => (intro w hw; go_simp; (try go_bits); exact Yld.mk _ _)
  intro x h2
  cases x
  · (try simp only [qd, ne_eq] at h2)
    simp only [qz]
    apply rg_soft
    case hy => (intro w hw; go_simp; (try go_bits); exact Yld.mk _ _)
    simp only [qz]
    refine rg_move ?_
    simp only [qz]
    refine rg_skip Rx ?_
    simp only [qz]
    refine rg_skip Rx ?_
    simp only [qz]
    refine rg_skip_h Rx Nz ?_
    simp only [qz]
    apply rg_soft
    case hy => (intro w hw; go_simp; (try go_bits); exact Yld.mk _ _)
    simp only [qz]
    refine rg_assign ?_
    simp only [qz]
    refine rg_nil (ek_next (wk_ret ?_))
    refine ek_ret (fun w hw => ⟨rfl, _, res_t _ rfl, ?_⟩)
    (try simp only [qz])
    exact ⟨by rw [show validI n xs = false from validB_false (fun h => by omega)], hw.below⟩
  (try simp only [qd, ne_eq] at h2)
  simp only [qz]
  apply rg_soft
  case hy => (intro w hw; go_simp; (try go_bits); exact Yld.mk _ _)
  simp only [qz]
  refine rg_move ?_
  simp only [qz]
  apply rg_soft_g
  case hg => rfl
  case hy => (intro w hw; go_simp; (try go_bits); exact Yld.mk _ _)
  simp only [qz]
  apply rg_soft_g
  case hg => rfl
  case hy => (intro w hw; go_simp; (try go_bits); exact Yld.mk _ _)
  simp only [qz]
  apply rg_pure Rx Kx
  case hargs => exact Ax
  case h => exact fun w hw => fits_any xs a c n hb6 Ox w (hA.kn0 hw)
  case hz => exact Nz
  simp only [qz]
  apply rg_soft
  case hy => (intro w hw; go_simp; (try go_bits); exact Yld.mk _ _)
  simp only [qz]
  refine rg_assign ?_
  simp only [qz]
  refine rg_nil (ek_next (wk_ret ?_))
  refine ek_ret (fun w hw => ⟨rfl, _, res_t _ rfl, ?_⟩)
  (try simp only [qz])
  exact ⟨by (congr 2; unfold validI; rw [show decide (1 ≤ n ∧ n ≤ 6) = true from decide_eq_true hb6, show decide (xs.length ≤ 5000) = true from decide_eq_true Ox]; rfl), hw.below⟩

set_option maxRecDepth 100000 in
set_option maxHeartbeats 1000000 in
theorem placed_any (i : It) (h4 : i.kind ≠ 4) (n : Int) (hn : 1 ≤ n ∧ n ≤ 6) (w : World) : Calls Try.prog 103 #[.slice none 0 0, .int .i64 n, itV i] w fun e w' => e = .returned (.bool (fitB n i)) ∧ Below w.heap.size w w' := by
  have hwd := wd_range i
  go_enter Try.func103, Try.ntmps103
  refine wk_start ?_
  refine wk_seq ?_
  refine wk_region [1, 0] rfl Kx ?_
  simp only [qy]
  refine Rgn fun g1 => ?_
  simp only [qz]
  refine rg_assign ?_
  simp only [qz]
  refine rg_nil (ek_next (wk_seq ?_))
  refine wk_region [0, 0, 1, 0] rfl Kx ?_
  simp only [qy]
  refine rg_move ?_
  simp only [qz]
  apply rg_soft
  case hy => (intro w hw; obtain ⟨hcg1, hfg1⟩ := (Kn.hd0 hw).facts; go_simp; (try go_bits); exact Yld.mk _ _)
  simp only [qz]
  apply rg_pure Rx Kx
  case hargs => exact Ax
  case h => exact fun w hw => wideI_any i h4 w
  case hz => exact Nz
  simp only [qz]
  refine rg_assign ?_
  simp only [qz]
  refine rg_nil (ek_next (wk_seq ?_))
  refine wk_region [0, 0, 0, 0, 0, 0, 0, 0, 0, 0, 0, 0, 0, 0, 0, 0, 0, 0, 0, 0, 0, 0, 0] rfl Kx ?_
  simp only [qy]
  refine rg_move ?_
  simp only [qz]
  apply rg_softb
  case hy => (intro w hw; go_simp; (try go_bits); exact Yld.mk _ _)
  intro x h1
  cases x
  · (try simp only [qd, ne_eq] at h1)
    simp only [qz]
    refine rg_move ?_
    simp only [qz]
    refine rg_skip Rx ?_
    simp only [qz]
    refine rg_skip Rx ?_
    simp only [qz]
    refine rg_skip Rx ?_
    simp only [qz]
    apply rg_soft
    case hy => (intro w hw; go_simp; (try go_bits); exact Yld.mk _ _)
    simp only [qz]
    refine rg_move ?_
    simp only [qz]
    refine rg_skip Rx ?_
    simp only [qz]
    refine rg_skip Rx ?_
    simp only [qz]
    refine rg_skip Rx ?_
    simp only [qz]
    refine rg_skip Rx ?_
    simp only [qz]
    apply rg_soft
    case hy => (intro w hw; go_simp; (try go_bits); exact Yld.mk _ _)
    simp only [qz]
    refine rg_move ?_
    simp only [qz]
    refine rg_skip Rx ?_
    simp only [qz]
    refine rg_skip Rx ?_
    simp only [qz]
    refine rg_skip Rx ?_
    simp only [qz]
    refine rg_skip Rx ?_
    simp only [qz]
    refine rg_skip Rx ?_
    simp only [qz]
    refine rg_skip Rx ?_
    simp only [qz]
    refine rg_skip Rx ?_
    simp only [qz]
    apply rg_soft
    case hy => (intro w hw; go_simp; (try go_bits); exact Yld.mk _ _)
    simp only [qz]
    refine rg_assign ?_
    simp only [qz]
    refine rg_nil (ek_next (wk_ret ?_))
    refine ek_ret (fun w hw => ⟨rfl, _, res_t _ rfl, ?_⟩)
    (try simp only [qz])
    exact ⟨by (congr 2; symm; first | exact fitB_true ⟨by omega, by omega, by omega⟩ | exact fitB_false (fun h => by omega) | (simp only [fitB]; exact decide_eq_decide.2 Ox)), hw.below⟩
  (try simp only [qd, ne_eq] at h1)
  simp only [qz]
  refine rg_move ?_
  simp only [qz]
  apply rg_soft_g
  case hg => rfl
  case hy => (intro w hw; go_simp; (try go_bits); exact Yld.mk _ _)
  simp only [qz]
  apply rg_soft_g
  case hg => rfl
  case hy => (intro w hw; obtain ⟨hcg1, hfg1⟩ := (Kn.hd0 hw).facts; go_simp; (try go_bits); exact Yld.mk _ _)
  simp only [qz]
  apply rg_softb_g
  case hg => rfl
  case hy => (intro w hw; go_simp; (try go_bits); exact Yld.mk _ _)
  intro x h2
  cases x
  · (try simp only [qd, ne_eq] at h2)
    simp only [qz]
    apply rg_soft
    case hy => (intro w hw; go_simp; (try go_bits); exact Yld.mk _ _)
    simp only [qz]
    refine rg_move ?_
    simp only [qz]
    refine rg_skip Rx ?_
    simp only [qz]
    refine rg_skip Rx ?_
    simp only [qz]
    refine rg_skip Rx ?_
    simp only [qz]
    refine rg_skip Rx ?_
    simp only [qz]
    apply rg_soft
    case hy => (intro w hw; go_simp; (try go_bits); exact Yld.mk _ _)
    simp only [qz]
    refine rg_move ?_
    simp only [qz]
    refine rg_skip Rx ?_
    simp only [qz]
    refine rg_skip Rx ?_
    simp only [qz]
    refine rg_skip Rx ?_
    simp only [qz]
    refine rg_skip Rx ?_
    simp only [qz]
    refine rg_skip Rx ?_
    simp only [qz]
    refine rg_skip Rx ?_
    simp only [qz]
    refine rg_skip Rx ?_
    simp only [qz]
    apply rg_soft
    case hy => (intro w hw; go_simp; (try go_bits); exact Yld.mk _ _)
    simp only [qz]
    refine rg_assign ?_
    simp only [qz]
    refine rg_nil (ek_next (wk_ret ?_))
    refine ek_ret (fun w hw => ⟨rfl, _, res_t _ rfl, ?_⟩)
    (try simp only [qz])
    exact ⟨by (congr 2; symm; first | exact fitB_true ⟨by omega, by omega, by omega⟩ | exact fitB_false (fun h => by omega) | (simp only [fitB]; exact decide_eq_decide.2 Ox)), hw.below⟩
  (try simp only [qd, ne_eq] at h2)
  simp only [qz]
  apply rg_soft
  case hy => (intro w hw; go_simp; (try go_bits); exact Yld.mk _ _)
  simp only [qz]
  refine rg_move ?_
  simp only [qz]
  apply rg_soft_g
  case hg => rfl
  case hy => (intro w hw; go_simp; (try go_bits); exact Yld.mk _ _)
  simp only [qz]
  apply rg_soft_g
  case hg => rfl
  case hy => (intro w hw; obtain ⟨hcg1, hfg1⟩ := (Kn.hd0 hw).facts; go_simp; (try go_bits); exact Yld.mk _ _)
  simp only [qz]
  apply rg_soft_g
  case hg => rfl
  case hy => (intro w hw; go_simp; (try go_bits); exact Yld.mk _ _)
  simp only [qz]
  apply rg_softb_g
  case hg => rfl
  case hy => (intro w hw; go_simp; (try go_bits); exact Yld.mk _ _)
  intro x h3
  cases x
  · (try simp only [qd, ne_eq] at h3)
    simp only [qz]
    apply rg_soft
    case hy => (intro w hw; go_simp; (try go_bits); exact Yld.mk _ _)
    simp only [qz]
    refine rg_move ?_
    simp only [qz]
    refine rg_skip Rx ?_
    simp only [qz]
    refine rg_skip Rx ?_
    simp only [qz]
    refine rg_skip Rx ?_
    simp only [qz]
    refine rg_skip Rx ?_
    simp only [qz]
    refine rg_skip Rx ?_
    simp only [qz]
    refine rg_skip Rx ?_
    simp only [qz]
    refine rg_skip Rx ?_
    simp only [qz]
    apply rg_soft
    case hy => (intro w hw; go_simp; (try go_bits); exact Yld.mk _ _)
    simp only [qz]
    refine rg_assign ?_
    simp only [qz]
    refine rg_nil (ek_next (wk_ret ?_))
    refine ek_ret (fun w hw => ⟨rfl, _, res_t _ rfl, ?_⟩)
    (try simp only [qz])
    exact ⟨by (congr 2; symm; first | exact fitB_true ⟨by omega, by omega, by omega⟩ | exact fitB_false (fun h => by omega) | (simp only [fitB]; exact decide_eq_decide.2 Ox)), hw.below⟩
  (try simp only [qd, ne_eq] at h3)
  simp only [qz]
  apply rg_soft
  case hy => (intro w hw; go_simp; (try go_bits); exact Yld.mk _ _)
  simp only [qz]
  refine rg_move ?_
  simp only [qz]
  apply rg_soft_g
  case hg => rfl
  case hy => (intro w hw; go_simp; (try go_bits); exact Yld.mk _ _)
  simp only [qz]
  apply rg_soft_g
  case hg => rfl
  case hy => (intro w hw; obtain ⟨hcg1, hfg1⟩ := (Kn.hd0 hw).facts; go_simp; (try go_bits); exact Yld.mk _ _)
  simp only [qz]
  apply rg_soft_g
  case hg => rfl
  case hy => (intro w hw; go_simp; (try go_bits); exact Yld.mk _ _)
  simp only [qz]
  apply rg_soft_g
  case hg => rfl
  case hy => (intro w hw; go_simp; (try go_bits); exact Yld.mk _ _)
  simp only [qz]
  apply rg_soft_g
  case hg => rfl
  case hy => (intro w hw; go_simp; (try go_bits); exact Yld.mk _ _)
  simp only [qz]
  apply rg_soft_g
  case hg => rfl
  case hy => (intro w hw; go_simp; (try go_bits); exact Yld.mk _ _)
  simp only [qz]
  apply rg_soft_g
  case hg => rfl
  case hy => (intro w hw; go_simp; (try go_bits); exact Yld.mk _ _)
  simp only [qz]
  apply rg_soft
  case hy => (intro w hw; go_simp; (try go_bits); exact Yld.mk _ _)
  simp only [qz]
  refine rg_assign ?_
  simp only [qz]
  refine rg_nil (ek_next (wk_ret ?_))
  refine ek_ret (fun w hw => ⟨rfl, _, res_t _ rfl, ?_⟩)
  (try simp only [qz])
  exact ⟨by (congr 2; symm; first | exact fitB_true ⟨by omega, by omega, by omega⟩ | exact fitB_false (fun h => by omega) | (simp only [fitB]; exact decide_eq_decide.2 Ox)), hw.below⟩

set_option maxRecDepth 100000 in
set_option maxHeartbeats 1000000 in
theorem rvalidItems_any (xs : List It) (a : Option Addr) (c : Nat) (n : Int) (w : World) (hA : AS w a (its xs)) : Calls Try.prog 55 #[.int .i64 n, slV a xs.length c] w fun e w' => e = .returned (.bool (validI n xs)) ∧ Below w.heap.size w w' := by
  go_enter Try.func55, Try.ntmps55
  refine wk_start ?_
  refine wk_seq ?_
  refine wk_region [0] rfl Kx ?_
  simp only [qy]
  refine rg_assign ?_
  simp only [qz]
  refine rg_nil (ek_next (wk_seq (wk_seq ?_)))
  refine wk_region [0, 0, 0, 0, 0, 0, 0, 0, 0, 0, 0] rfl Kx ?_
  simp only [qy]
  refine rg_move ?_
  simp only [qz]
  apply rg_softb
  case hy => (intro w hw; go_simp; (try go_bits); exact Yld.mk _ _)
  intro x h1
  cases x
  · (try simp only [qd, ne_eq] at h1)
    simp only [qz]
    refine rg_move ?_
    simp only [qz]
    apply rg_soft_g
    case hg => rfl
    case hy => (intro w hw; go_simp; (try go_bits); exact Yld.mk _ _)
    simp only [qz]
    apply rg_softb_g
    case hg => rfl
    case hy => (intro w hw; go_simp; (try go_bits); exact Yld.mk _ _)
    intro x h2
    cases x
    · (try simp only [qd, ne_eq] at h2)
      simp only [qz]
      apply rg_soft
      case hy => (intro w hw; go_simp; (try go_bits); exact Yld.mk _ _)
      simp only [qz]
      refine rg_move ?_
      simp only [qz]
      apply rg_soft_g
      case hg => rfl
      case hy => (intro w hw; go_simp; (try go_bits); exact Yld.mk _ _)
      simp only [qz]
      apply rg_soft_g
      case hg => rfl
      case hy => (intro w hw; go_simp; (try go_bits); exact Yld.mk _ _)
      simp only [qz]
      apply rg_softb_g
      case hg => rfl
      case hy => (intro w hw; go_simp; (try go_bits); exact Yld.mk _ _)
      intro x h3
      cases x
      · (try simp only [qd, ne_eq] at h3)
        simp only [qz]
        apply rg_soft
        case hy => (intro w hw; go_simp; (try go_bits); exact Yld.mk _ _)
        simp only [qz]
        refine rg_nil (ek_next (wk_cond_f rfl (wk_skip (ek_next (wk_seq (wk_seq ?_))))))
        refine wk_region [0, 0, 0] rfl Kx ?_
        simp only [qy]
        refine rg_move ?_
        simp only [qz]
        apply rg_soft
        case hy => (intro w hw; go_simp; (try go_bits); exact Yld.mk _ _)
        simp only [qz]
        refine rg_move ?_
        simp only [qz]
        refine rg_nil (ek_next (wk_block ?_))
        refine wk_loopS [4, 6, 20, 21, 22, 23, 24, 25, 26, 27, 28, 29, 30, 31, 32, 33] (fun mz vs s => ∃ (k : Nat) (j6 j21 j22 j23 j24 j25 j26 j27 j28 j29 j30 j31 j32 j33 : Value), vs = [.bool false, j6, .int .i64 k, j21, j22, j23, j24, j25, j26, j27, j28, j29, j30, j31, j32, j33] ∧ s = [] ∧ mz = xs.length - k ∧ k ≤ xs.length ∧ ∀ j, j < k → fitB n (it xs j) = true) ((fun (k : Nat) => xs.length - k) (0)) ?_ Kx ?_
        · dsimp only [Act.vals, List.map, Array.getD, List.size_toArray, List.length_cons, List.length_nil, Nat.reduceAdd, Nat.reduceLT, ↓reduceDIte, Array.getInternal, List.getElem_toArray, List.getElem_cons_zero, List.getElem_cons_succ]
          exact ⟨0, _, _, _, _, _, _, _, _, _, _, _, _, _, _, rfl, rfl, rfl, by omega, fun i hi => by omega⟩
        rintro mz vs s ⟨k, j6, j21, j22, j23, j24, j25, j26, j27, j28, j29, j30, j31, j32, j33, rfl, rfl, hn, hc1, hc2⟩
        simp only [Act.puts, Act.vals, List.zip_cons_cons, List.zip_nil_right, List.foldl_cons, List.foldl_nil, List.map_cons, List.map_nil, Act.put, Act.eval, List.setIfInBounds_toArray, List.set_cons_zero, List.set_cons_succ, Array.getD_eq_getD_getElem?, List.getElem?_toArray, List.getElem?_cons_zero, List.getElem?_cons_succ, Option.getD_some]
        refine wk_seq ?_
        refine wk_region [0] rfl Kx ?_
        simp only [qy]
        apply rg_softb
        case hy => (intro w hw; go_simp; (try go_bits); exact Yld.mk _ _)
        intro x h4
        cases x
        · (try simp only [qd, ne_eq] at h4)
          simp only [qz]
          refine rg_nil (ek_next (wk_seq (wk_cond_f rfl (wk_exit (ek_then_exit (ek_then_exit (ek_block_exit (ek_next (wk_seq ?_)))))))))
          refine wk_region [0] rfl Kx ?_
          simp only [qy]
          refine rg_assign ?_
          simp only [qz]
          refine rg_nil (ek_next (wk_ret ?_))
          refine ek_ret (fun w hw => ⟨rfl, _, res_t _ rfl, ?_⟩)
          (try simp only [qz])
          exact ⟨by rw [show validI n xs = true from validI_true Ox Ox Ox (all_it (fun j hj => hc2 j Ox))], hw.below⟩
        (try simp only [qd, ne_eq] at h4)
        simp only [qz]
        obtain ⟨b, off, rfl, hlt, hcell⟩ := AS.openT hA Ox
        have hck := hcell k Ox
        refine rg_nil (ek_next (wk_seq (wk_cond_t rfl (wk_skip (ek_next (wk_seq (wk_block (wk_seq ?_))))))))
        refine wk_region [0, 0, 1, 1] rfl Kx ?_
        simp only [qy]
        apply rg_soft
        case hy => (intro w hw; go_simp; (try go_bits); exact Yld.mk _ _)
        simp only [qz]
        apply rg_soft
        case hy => (intro w hw; obtain ⟨hi0, hi1, hi2, hi3⟩ := hck.kn hw hlt (by simp); go_simp; (try go_bits); exact Yld.mk _ _)
        simp only [qz]
        refine Rgn fun g1 => ?_
        simp only [qz]
        apply rg_store
        case hr => (intro w hw; obtain ⟨hcg1, hfg1⟩ := (Kn.hd0 hw).facts; refine ⟨_, by (go_simp; (try go_bits); exact Dne.mk _), ?_⟩; repeat (first | with_reducible exact hw | with_reducible apply Kn.put (Upd.here _ _ _)))
        case hz => (intro z hz; cases hz)
        simp only [qz]
        refine rg_nil (ek_next (wk_seq ?_))
        refine wk_region [0, 0, 0, 0, 0, 0, 1, 0, 0] rfl Kx ?_
        simp only [qy]
        apply rg_soft
        case hy => (intro w hw; go_simp; (try go_bits); exact Yld.mk _ _)
        simp only [qz]
        apply rg_soft
        case hy => (intro w hw; obtain ⟨hcg1, hfg1⟩ := (Kn.hd0 hw).facts; go_simp; (try go_bits); exact Yld.mk _ _)
        simp only [qz]
        apply rg_softb
        case hy => (intro w hw; go_simp; (try go_bits); exact Yld.mk _ _)
        intro x h5
        cases x
        · (try simp only [qd, ne_eq] at h5)
          simp only [qz]
          have hk4 := Lib.hid (show (it xs k).kind ≠ 4 by omega)
          clear h5
          refine rg_move ?_
          simp only [qz]
          apply rg_soft_g
          case hg => rfl
          case hy => (intro w hw; go_simp; (try go_bits); exact Yld.mk _ _)
          simp only [qz]
          apply rg_soft_g
          case hg => rfl
          case hy => (intro w hw; obtain ⟨hcg1, hfg1⟩ := (Kn.hd0 hw).facts; go_simp; (try go_bits); exact Yld.mk _ _)
          simp only [qz]
          apply rg_pureb Rx Kx
          case hargs => exact Ax
          case h => exact fun w hw => placed_any (it xs k) hk4.out n ⟨by omega, by omega⟩ w
          case hz => exact Nz
          intro x h6
          cases x
          · (try simp only [qd, ne_eq] at h6)
            simp only [qz]
            apply rg_soft_g
            case hg => rfl
            case hy => (intro w hw; go_simp; (try go_bits); exact Yld.mk _ _)
            simp only [qz]
            apply rg_soft
            case hy => (intro w hw; go_simp; (try go_bits); exact Yld.mk _ _)
            simp only [qz]
            refine rg_nil (ek_next (wk_cond_t rfl (wk_seq ?_)))
            refine wk_region [0] rfl Kx ?_
            simp only [qy]
            refine rg_assign ?_
            simp only [qz]
            refine rg_nil (ek_next (wk_ret (ek_block_ret (ek_then_ret (ek_then_ret (ek_block_ret (ek_then_ret ?_)))))))
            refine ek_ret (fun w hw => ⟨rfl, _, res_t _ rfl, ?_⟩)
            (try simp only [qz])
            exact ⟨by rw [show validI n xs = false from validB_false (fun hh => by rw [not_all_it Ox h6] at hh; exact absurd hh.2.2.2 (by decide))], hw.below⟩
          (try simp only [qd, ne_eq] at h6)
          simp only [qz]
          apply rg_soft_g
          case hg => rfl
          case hy => (intro w hw; go_simp; (try go_bits); exact Yld.mk _ _)
          simp only [qz]
          apply rg_soft
          case hy => (intro w hw; go_simp; (try go_bits); exact Yld.mk _ _)
          simp only [qz]
          refine rg_nil (ek_next (wk_cond_f rfl (wk_skip (ek_block (ek_next ?_)))))
          refine wk_region [0, 0] rfl Kx ?_
          simp only [qy]
          apply rg_soft
          case hy => (intro w hw; go_simp; (try go_bits); exact Yld.mk _ _)
          simp only [qz]
          refine rg_move ?_
          simp only [qz]
          refine rg_nil ?_
          refine ek_sub (List.Sublist.cons _ List.Sublist.slnil) ?_
          refine ek_roundS (xs.length - (k + 1)) Ox Kx ?_
          dsimp only [Act.vals, List.map, Array.getD, List.size_toArray, List.length_cons, List.length_nil, Nat.reduceAdd, Nat.reduceLT, ↓reduceDIte, Array.getInternal, List.getElem_toArray, List.getElem_cons_zero, List.getElem_cons_succ]
          exact ⟨k + 1, _, _, _, _, _, _, _, _, _, _, _, _, _, _, by rfl, by rfl, by rfl, by omega, fun j hj => if e : j = k then e ▸ h6 else hc2 j Ox⟩
        (try simp only [qd, ne_eq] at h5)
        simp only [qz]
        refine rg_move ?_
        simp only [qz]
        refine rg_skip Rx ?_
        simp only [qz]
        refine rg_skip Rx ?_
        simp only [qz]
        refine rg_skip_h Rx Nz ?_
        simp only [qz]
        refine rg_skip Rx ?_
        simp only [qz]
        apply rg_soft
        case hy => (intro w hw; go_simp; (try go_bits); exact Yld.mk _ _)
        simp only [qz]
        refine rg_nil (ek_next (wk_cond_t rfl (wk_seq ?_)))
        refine wk_region [0] rfl Kx ?_
        simp only [qy]
        refine rg_assign ?_
        simp only [qz]
        refine rg_nil (ek_next (wk_ret (ek_block_ret (ek_then_ret (ek_then_ret (ek_block_ret (ek_then_ret ?_)))))))
        refine ek_ret (fun w hw => ⟨rfl, _, res_t _ rfl, ?_⟩)
        (try simp only [qz])
        exact ⟨by rw [show validI n xs = false from validB_false (fun h => by rw [not_all_it Ox (fitB_false (fun h => h.1 (wd_four h5)))] at h; exact absurd h.2.2.2 (by decide))], hw.below⟩
      (try simp only [qd, ne_eq] at h3)
      simp only [qz]
      apply rg_soft
      case hy => (intro w hw; go_simp; (try go_bits); exact Yld.mk _ _)
      simp only [qz]
      refine rg_nil (ek_next (wk_cond_t rfl (wk_seq ?_)))
      refine wk_region [0] rfl Kx ?_
      simp only [qy]
      refine rg_assign ?_
      simp only [qz]
      refine rg_nil (ek_next (wk_ret (ek_then_ret ?_)))
      refine ek_ret (fun w hw => ⟨rfl, _, res_t _ rfl, ?_⟩)
      (try simp only [qz])
      exact ⟨by rw [show validI n xs = false from validB_false (fun h => by omega)], hw.below⟩
    (try simp only [qd, ne_eq] at h2)
    simp only [qz]
    apply rg_soft
    case hy => (intro w hw; go_simp; (try go_bits); exact Yld.mk _ _)
    simp only [qz]
    refine rg_move ?_
    simp only [qz]
    refine rg_skip Rx ?_
    simp only [qz]
    refine rg_skip Rx ?_
    simp only [qz]
    refine rg_skip Rx ?_
    simp only [qz]
    apply rg_soft
    case hy => (intro w hw; go_simp; (try go_bits); exact Yld.mk _ _)
    simp only [qz]
    refine rg_nil (ek_next (wk_cond_t rfl (wk_seq ?_)))
    refine wk_region [0] rfl Kx ?_
    simp only [qy]
    refine rg_assign ?_
    simp only [qz]
    refine rg_nil (ek_next (wk_ret (ek_then_ret ?_)))
    refine ek_ret (fun w hw => ⟨rfl, _, res_t _ rfl, ?_⟩)
    (try simp only [qz])
    exact ⟨by rw [show validI n xs = false from validB_false (fun h => by omega)], hw.below⟩
  (try simp only [qd, ne_eq] at h1)
  simp only [qz]
  refine rg_move ?_
  simp only [qz]
  refine rg_skip Rx ?_
  simp only [qz]
  refine rg_skip Rx ?_
  simp only [qz]
  apply rg_soft
  case hy => (intro w hw; go_simp; (try go_bits); exact Yld.mk _ _)
  simp only [qz]
  refine rg_move ?_
  simp only [qz]
  refine rg_skip Rx ?_
  simp only [qz]
  refine rg_skip Rx ?_
  simp only [qz]
  refine rg_skip Rx ?_
  simp only [qz]
  apply rg_soft
  case hy => (intro w hw; go_simp; (try go_bits); exact Yld.mk _ _)
  simp only [qz]
  refine rg_nil (ek_next (wk_cond_t rfl (wk_seq ?_)))
  refine wk_region [0] rfl Kx ?_
  simp only [qy]
  refine rg_assign ?_
  simp only [qz]
  refine rg_nil (ek_next (wk_ret (ek_then_ret ?_)))
  refine ek_ret (fun w hw => ⟨rfl, _, res_t _ rfl, ?_⟩)
  (try simp only [qz])
  exact ⟨by rw [show validI n xs = false from validB_false (fun h => by omega)], hw.below⟩

set_option maxRecDepth 100000 in
set_option maxHeartbeats 1000000 in
theorem check_any (xs : List It) (a : Option Addr) (c : Nat) (n : Int) (w : World) (hA : AS w a (its xs)) : Calls Try.prog 62 #[.int .i64 n, slV a xs.length c] w fun e w' => e = .returned (.int .i64 (itemE n xs)) ∧ Below w.heap.size w w' := by
  go_enter Try.func62, Try.ntmps62
  refine wk_start ?_
  refine wk_seq ?_
  refine wk_region [0] rfl Kx ?_
  simp only [qy]
  refine rg_assign ?_
  simp only [qz]
  refine rg_nil (ek_next (wk_seq (wk_block (wk_seq ?_))))
  refine wk_region [0, 1, 0, 0] rfl Kx ?_
  simp only [qy]
  refine rg_move ?_
  simp only [qz]
  apply rg_pureb Rx Kx
  case hargs => exact Ax
  case h => exact fun w hw => between_any 1 n 6 w
  case hz => exact Nz
  intro x h1
  cases x
  · (try simp only [qd, ne_eq] at h1)
    simp only [qz]
    have hb7 := betB_false h1
    clear h1
    apply rg_soft
    case hy => (intro w hw; go_simp; (try go_bits); exact Yld.mk _ _)
    simp only [qz]
    refine rg_assign ?_
    simp only [qz]
    refine rg_nil (ek_next (wk_cond_t rfl (wk_seq ?_)))
    refine wk_region [0] rfl Kx ?_
    simp only [qy]
    refine rg_assign ?_
    simp only [qz]
    refine rg_nil (ek_next (wk_ret (ek_block_ret (ek_then_ret ?_))))
    refine ek_ret (fun w hw => ⟨rfl, _, res_t _ rfl, ?_⟩)
    (try simp only [qz])
    exact ⟨by rw [show itemE n xs = 2 from by (unfold itemE; first | rw [if_neg Ox] | rw [if_pos ⟨by omega, by omega⟩, if_pos (by assumption)] | rw [if_pos ⟨by omega, by omega⟩, if_neg (by simp_all)])], hw.below⟩
  (try simp only [qd, ne_eq] at h1)
  simp only [qz]
  have hb7 := betB_true h1
  clear h1
  apply rg_soft
  case hy => (intro w hw; go_simp; (try go_bits); exact Yld.mk _ _)
  simp only [qz]
  refine rg_assign ?_
  simp only [qz]
  refine rg_nil (ek_next (wk_cond_f rfl (wk_seq ?_)))
  refine wk_region [0, 0, 1, 0, 0] rfl Kx ?_
  simp only [qy]
  refine rg_move ?_
  simp only [qz]
  refine rg_move ?_
  simp only [qz]
  apply rg_pureb Rx Kx
  case hargs => exact Ax
  case h => exact fun w hw => mvalidI_any xs a c n w (hA.kn0 hw)
  case hz => exact Nz
  intro x h2
  cases x
  · (try simp only [qd, ne_eq] at h2)
    simp only [qz]
    apply rg_soft
    case hy => (intro w hw; go_simp; (try go_bits); exact Yld.mk _ _)
    simp only [qz]
    refine rg_assign ?_
    simp only [qz]
    refine rg_nil (ek_next (wk_cond_t rfl (wk_seq ?_)))
    refine wk_region [0] rfl Kx ?_
    simp only [qy]
    refine rg_assign ?_
    simp only [qz]
    refine rg_nil (ek_next (wk_ret (ek_block_ret (ek_then_ret ?_))))
    refine ek_ret (fun w hw => ⟨rfl, _, res_t _ rfl, ?_⟩)
    (try simp only [qz])
    exact ⟨by rw [show itemE n xs = 31 from by (unfold itemE; first | rw [if_neg Ox] | rw [if_pos ⟨by omega, by omega⟩, if_pos (by assumption)] | rw [if_pos ⟨by omega, by omega⟩, if_neg (by simp_all)])], hw.below⟩
  (try simp only [qd, ne_eq] at h2)
  simp only [qz]
  apply rg_soft
  case hy => (intro w hw; go_simp; (try go_bits); exact Yld.mk _ _)
  simp only [qz]
  refine rg_assign ?_
  simp only [qz]
  refine rg_nil (ek_next (wk_cond_f rfl (wk_skip (ek_block (ek_next (wk_seq ?_))))))
  refine wk_region [0] rfl Kx ?_
  simp only [qy]
  refine rg_assign ?_
  simp only [qz]
  refine rg_nil (ek_next (wk_ret ?_))
  refine ek_ret (fun w hw => ⟨rfl, _, res_t _ rfl, ?_⟩)
  (try simp only [qz])
  exact ⟨by rw [show itemE n xs = 0 from by (unfold itemE; first | rw [if_neg Ox] | rw [if_pos ⟨by omega, by omega⟩, if_pos (by assumption)] | rw [if_pos ⟨by omega, by omega⟩, if_neg (by simp_all)])], hw.below⟩

set_option maxRecDepth 100000 in
set_option maxHeartbeats 1000000 in
theorem items_any (xs : List It) (a : Option Addr) (c : Nat) (n : Int) (w : World) (hA : AS w a (its xs)) : Calls Try.prog 63 #[.int .i64 n, slV a xs.length c] w fun e w' => e = .returned (.int .i64 (itemE n xs)) ∧ Below w.heap.size w w' := by
  go_enter Try.func63, Try.ntmps63
  refine wk_start ?_
  refine wk_seq ?_
  refine wk_region [0] rfl Kx ?_
  simp only [qy]
  refine rg_assign ?_
  simp only [qz]
  refine rg_nil (ek_next (wk_seq (wk_seq ?_)))
  refine wk_region [0, 0, 0, 0, 0, 0] rfl Kx ?_
  simp only [qy]
  refine rg_move ?_
  simp only [qz]
  apply rg_softb
  case hy => (intro w hw; go_simp; (try go_bits); exact Yld.mk _ _)
  intro x h1
  cases x
  · (try simp only [qd, ne_eq] at h1)
    simp only [qz]
    refine rg_move ?_
    simp only [qz]
    apply rg_soft_g
    case hg => rfl
    case hy => (intro w hw; go_simp; (try go_bits); exact Yld.mk _ _)
    simp only [qz]
    apply rg_softb_g
    case hg => rfl
    case hy => (intro w hw; go_simp; (try go_bits); exact Yld.mk _ _)
    intro x h2
    cases x
    · (try simp only [qd, ne_eq] at h2)
      simp only [qz]
      apply rg_soft
      case hy => (intro w hw; go_simp; (try go_bits); exact Yld.mk _ _)
      simp only [qz]
      refine rg_nil (ek_next (wk_cond_f rfl (wk_skip (ek_next (wk_seq (wk_seq ?_))))))
      refine wk_region [0, 0, 1, 0] rfl Kx ?_
      simp only [qy]
      refine rg_move ?_
      simp only [qz]
      refine rg_move ?_
      simp only [qz]
      apply rg_pureb Rx Kx
      case hargs => exact Ax
      case h => exact fun w hw => rvalidItems_any xs a c n w (hA.kn0 hw)
      case hz => exact Nz
      intro x h3
      cases x
      · (try simp only [qd, ne_eq] at h3)
        simp only [qz]
        apply rg_soft
        case hy => (intro w hw; go_simp; (try go_bits); exact Yld.mk _ _)
        simp only [qz]
        refine rg_nil (ek_next (wk_cond_t rfl (wk_seq ?_)))
        refine wk_region [0] rfl Kx ?_
        simp only [qy]
        refine rg_assign ?_
        simp only [qz]
        refine rg_nil (ek_next (wk_ret (ek_then_ret ?_)))
        refine ek_ret (fun w hw => ⟨rfl, _, res_t _ rfl, ?_⟩)
        (try simp only [qz])
        exact ⟨by rw [show itemE n xs = 31 from by (unfold itemE; first | rw [if_neg Ox] | rw [if_pos ⟨by omega, by omega⟩, if_pos (by assumption)] | rw [if_pos ⟨by omega, by omega⟩, if_neg (by simp_all)])], hw.below⟩
      (try simp only [qd, ne_eq] at h3)
      simp only [qz]
      apply rg_soft
      case hy => (intro w hw; go_simp; (try go_bits); exact Yld.mk _ _)
      simp only [qz]
      refine rg_nil (ek_next (wk_cond_f rfl (wk_skip (ek_next (wk_seq ?_)))))
      refine wk_region [0] rfl Kx ?_
      simp only [qy]
      refine rg_assign ?_
      simp only [qz]
      refine rg_nil (ek_next (wk_ret ?_))
      refine ek_ret (fun w hw => ⟨rfl, _, res_t _ rfl, ?_⟩)
      (try simp only [qz])
      exact ⟨by rw [show itemE n xs = 0 from by (unfold itemE; first | rw [if_neg Ox] | rw [if_pos ⟨by omega, by omega⟩, if_pos (by assumption)] | rw [if_pos ⟨by omega, by omega⟩, if_neg (by simp_all)])], hw.below⟩
    (try simp only [qd, ne_eq] at h2)
    simp only [qz]
    apply rg_soft
    case hy => (intro w hw; go_simp; (try go_bits); exact Yld.mk _ _)
    simp only [qz]
    refine rg_nil (ek_next (wk_cond_t rfl (wk_seq ?_)))
    refine wk_region [0] rfl Kx ?_
    simp only [qy]
    refine rg_assign ?_
    simp only [qz]
    refine rg_nil (ek_next (wk_ret (ek_then_ret ?_)))
    refine ek_ret (fun w hw => ⟨rfl, _, res_t _ rfl, ?_⟩)
    (try simp only [qz])
    exact ⟨by rw [show itemE n xs = 2 from by (unfold itemE; first | rw [if_neg Ox] | rw [if_pos ⟨by omega, by omega⟩, if_pos (by assumption)] | rw [if_pos ⟨by omega, by omega⟩, if_neg (by simp_all)])], hw.below⟩
  (try simp only [qd, ne_eq] at h1)
  simp only [qz]
  refine rg_move ?_
  simp only [qz]
  refine rg_skip Rx ?_
  simp only [qz]
  refine rg_skip Rx ?_
  simp only [qz]
  apply rg_soft
  case hy => (intro w hw; go_simp; (try go_bits); exact Yld.mk _ _)
  simp only [qz]
  refine rg_nil (ek_next (wk_cond_t rfl (wk_seq ?_)))
  refine wk_region [0] rfl Kx ?_
  simp only [qy]
  refine rg_assign ?_
  simp only [qz]
  refine rg_nil (ek_next (wk_ret (ek_then_ret ?_)))
  refine ek_ret (fun w hw => ⟨rfl, _, res_t _ rfl, ?_⟩)
  (try simp only [qz])
  exact ⟨by rw [show itemE n xs = 2 from by (unfold itemE; first | rw [if_neg Ox] | rw [if_pos ⟨by omega, by omega⟩, if_pos (by assumption)] | rw [if_pos ⟨by omega, by omega⟩, if_neg (by simp_all)])], hw.below⟩

end Go.Proofs.Ytccbinnlnkpplaa
