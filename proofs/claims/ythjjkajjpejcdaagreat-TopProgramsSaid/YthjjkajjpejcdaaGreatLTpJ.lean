/- Texts in one: TdPl, TdQ, TdB, TdC, Td1, Td2, Td3, Td4, TpPl, Us2. -/
import Derived.Test.YthjjkajjpejcdaaGreatLTpI
namespace Go.Proofs.YthjjkajjpejcdaaGreat
set_option linter.all false
set_option maxRecDepth 100000
set_option maxHeartbeats 1000000
def touchT (x : It) (g : Int) : Bool := decide (g = x.at_ ∨ (x.kind ≠ 1 ∧ g = x.at_ + 1))
def gnT (G : List Bool) (i : Nat) : Bool := G.getD i false
def stkT (T : List It) (G : List Bool) (g : Int) : List Nat := (List.range T.length).filter fun i => !gnT G i && touchT (it T i) g
def liveT (T : List It) (G : List Bool) : List It := ((List.range T.length).filter fun i => !gnT G i).map (it T)
theorem actQ_app (L M : List It) (m : Tb) : actQ (L ++ M) m = actQ M (actQ L m) := by unfold actQ; rw [List.foldl_append]
theorem omP_per (a : Nat) : ∀ k, omP (a + 8 * k) = omP a
  | 0 => rfl
  | k + 1 => by rw [show a + 8 * (k + 1) = (a + 8 * k) + 8 by omega, omP_add, omP_eight, Q4.mul_one, omP_per a k]
theorem omP_mod (a : Nat) : omP (a % 8) = omP a := by
 have h := omP_per (a % 8) (a / 8)
 rw [Nat.add_comm, Nat.div_add_mod] at h
 exact h.symm
theorem ph_ph (p a b : Nat) (m : Tb) : phQ p (omP a) (phQ p (omP b) m) = phQ p (omP ((b + a) % 8)) m := by
 funext i k
 unfold phQ
 split
 ·rw [omP_mod, omP_add, ← Q4.mul_assoc, Q4.mul_comm (omP a)]
 ·rfl
theorem it_comm_ph {N : Nat} {x : It} (hx : fitB N x = true) {p : Nat} (hp : touchT x ((p : Int) + 1) = false) (u : Q4) (m : Tb) : itQ x (phQ p u m) = phQ p u (itQ x m) := by
 have h := of_decide_eq_false hp
 have ha := (of_decide_eq_true hx).2.1
 unfold itQ
 rcases it_kind hx with ⟨k1, -⟩ | ⟨k2, -⟩
 ·rw [if_pos k1, if_pos k1]
  have hne : (x.at_ - 1).toNat ≠ p := by omega
  generalize (x.at_ - 1).toNat = q at *
  funext i k
  unfold phQ
  by_cases e1 : i = q
  ·subst e1; rw [if_pos rfl, if_neg hne, if_neg hne, if_pos rfl]
  ·rw [if_neg e1]
   by_cases e2 : i = p
   ·rw [if_pos e2, if_pos e2, if_neg e1]
   ·rw [if_neg e2, if_neg e2, if_neg e1]
 ·have n1 : ¬ x.kind = 1 := by omega
  rw [if_neg n1, if_neg n1]
  have hne : (x.at_ - 1).toNat ≠ p := by omega
  have hne2 : (x.at_ - 1).toNat + 1 ≠ p := by omega
  generalize (x.at_ - 1).toNat = q at *
  split
  ·funext i k
   show phQ p u m (swq q i) k = phQ p u (crQ q m) i k
   by_cases e1 : i = q
   ·subst e1; rw [swq_p, phQ_o hne2, phQ_o hne]; show _ = m (swq i i) k; rw [swq_p]
   ·by_cases e2 : i = q + 1
    ·subst e2; rw [swq_q, phQ_o hne, phQ_o hne2]; show _ = m (swq q (q + 1)) k; rw [swq_q]
    ·rw [swq_o e1 e2]
     by_cases e3 : i = p
     ·subst e3; rw [phQ_p, phQ_p]; show _ = u * m (swq q i) k; rw [swq_o e1 e2]
     ·rw [phQ_o e3, phQ_o e3]; show _ = m (swq q i) k; rw [swq_o e1 e2]
  ·funext i k
   by_cases e1 : i = q
   ·subst e1; rw [cpQ_p, phQ_o hne, phQ_o hne2, phQ_o hne, cpQ_p]
   ·by_cases e2 : i = q + 1
    ·subst e2; rw [cpQ_q, phQ_o hne, phQ_o hne2, phQ_o hne2, cpQ_q]
    ·rw [cpQ_o e1 e2]
     by_cases e3 : i = p
     ·subst e3; rw [phQ_p, phQ_p, cpQ_o e1 e2]
     ·rw [phQ_o e3, phQ_o e3, cpQ_o e1 e2]
theorem swq_comm {p q : Nat} (h1 : q ≠ p) (h2 : q ≠ p + 1) (h3 : q + 1 ≠ p) (i : Nat) : swq p (swq q i) = swq q (swq p i) := by
 by_cases e1 : i = q
 ·subst e1; rw [swq_p, swq_o (show i + 1 ≠ p by omega) Ox, swq_o (p := p) h1 h2, swq_p]
 ·by_cases e2 : i = q + 1
  ·subst e2; rw [swq_q, swq_o h1 h2, swq_o (show q + 1 ≠ p by omega) Ox, swq_q]
  ·rw [swq_o e1 e2]
   by_cases e3 : i = p
   ·subst e3; rw [swq_p, swq_o Ox Ox]
   ·by_cases e4 : i = p + 1
    ·subst e4; rw [swq_q, swq_o Ox Ox]
    ·rw [swq_o e3 e4, swq_o e1 e2]
theorem it_comm_cr {N : Nat} {x : It} (hx : fitB N x = true) {p : Nat} (hp : touchT x ((p : Int) + 1) = false) (hp2 : touchT x ((p : Int) + 1 + 1) = false) (m : Tb) : itQ x (crQ p m) = crQ p (itQ x m) := by
 have h := of_decide_eq_false hp
 have h2 := of_decide_eq_false hp2
 have ha := (of_decide_eq_true hx).2.1
 unfold itQ
 rcases it_kind hx with ⟨k1, -⟩ | ⟨k2, -⟩
 ·rw [if_pos k1, if_pos k1]
  have hne : (x.at_ - 1).toNat ≠ p := by omega
  have hne2 : (x.at_ - 1).toNat ≠ p + 1 := by omega
  generalize (x.at_ - 1).toNat = q at *
  funext i k
  show phQ q _ (crQ p m) i k = phQ q _ m (swq p i) k
  by_cases e1 : i = q
  ·subst e1; rw [phQ_p, swq_o hne hne2, phQ_p]; show _ * m (swq p i) k = _; rw [swq_o hne hne2]
  ·rw [phQ_o e1]
   show m (swq p i) k = _
   by_cases e2 : i = p
   ·subst e2; rw [swq_p, phQ_o Ox]
   ·by_cases e3 : i = p + 1
    ·subst e3; rw [swq_q, phQ_o Ox]
    ·rw [swq_o e2 e3, phQ_o e1]
 ·have n1 : ¬ x.kind = 1 := by omega
  rw [if_neg n1, if_neg n1]
  have hne : (x.at_ - 1).toNat ≠ p := by omega
  have hne2 : (x.at_ - 1).toNat + 1 ≠ p := by omega
  have hne3 : (x.at_ - 1).toNat ≠ p + 1 := by omega
  generalize (x.at_ - 1).toNat = q at *
  split
  ·funext i k
   show m (swq p (swq q i)) k = m (swq q (swq p i)) k
   rw [swq_comm hne hne3 hne2]
  ·funext i k
   show cpQ q (crQ p m) i k = cpQ q m (swq p i) k
   by_cases e1 : i = q
   ·subst e1
    rw [swq_o hne hne3, cpQ_p, cpQ_p]
    show hhQ * (m (swq p i) k + imQ * m (swq p (i + 1)) k) = _
    rw [swq_o hne hne3, swq_o hne2 Ox]
   ·by_cases e2 : i = q + 1
    ·subst e2
     rw [swq_o hne2 Ox, cpQ_q, cpQ_q]
     show hhQ * (imQ * m (swq p q) k + m (swq p (q + 1)) k) = _
     rw [swq_o hne hne3, swq_o hne2 Ox]
    ·rw [cpQ_o e1 e2]
     show m (swq p i) k = _
     by_cases e3 : i = p
     ·subst e3; rw [swq_p, cpQ_o Ox Ox]
     ·by_cases e4 : i = p + 1
      ·subst e4; rw [swq_q, cpQ_o Ox Ox]
      ·rw [swq_o e3 e4, cpQ_o e1 e2]
theorem act_comm_ph {N p : Nat} {u : Q4} : ∀ {L : List It} (m : Tb), (∀ x ∈ L, fitB N x = true) → (∀ x ∈ L, touchT x ((p : Int) + 1) = false) → actQ L (phQ p u m) = phQ p u (actQ L m)
  | [], _, _, _ => rfl
  | x :: L, m, hf, ht => by
    show actQ L (itQ x (phQ p u m)) = phQ p u (actQ L (itQ x m))
    rw [it_comm_ph (hf x (by simp)) (ht x (by simp)), act_comm_ph _ (fun y hy => hf y (by simp [hy])) fun y hy => ht y (by simp [hy])]
theorem act_comm_cr {N p : Nat} : ∀ {L : List It} (m : Tb), (∀ x ∈ L, fitB N x = true) → (∀ x ∈ L, touchT x ((p : Int) + 1) = false) → (∀ x ∈ L, touchT x ((p : Int) + 1 + 1) = false) → actQ L (crQ p m) = crQ p (actQ L m)
  | [], _, _, _, _ => rfl
  | x :: L, m, hf, ht, ht2 => by
    show actQ L (itQ x (crQ p m)) = crQ p (actQ L (itQ x m))
    rw [it_comm_cr (hf x (by simp)) (ht x (by simp)) (ht2 x (by simp)), act_comm_cr _ (fun y hy => hf y (by simp [hy])) (fun y hy => ht y (by simp [hy])) fun y hy => ht2 y (by simp [hy])]
theorem range_at {n a : Nat} (h : a < n) : List.range n = List.range a ++ a :: (List.range (n - (a + 1))).map (fun j => a + 1 + j) := by
 refine List.ext_getElem? fun i => ?_
 rcases (by omega : i < a ∨ i = a ∨ a < i) with h1 | h1 | h1
 ·rw [List.getElem?_append_left (by simpa using h1), List.getElem?_range h1, List.getElem?_range Ox]
 ·subst h1
  rw [List.getElem?_append_right (by simp), List.getElem?_range h]
  simp
 ·rw [List.getElem?_append_right (by simp; omega), List.length_range]
  obtain ⟨m, hm⟩ : ∃ m, i - a = m + 1 := ⟨i - a - 1, by omega⟩
  rw [hm, List.getElem?_cons_succ, List.getElem?_map]
  by_cases h2 : i < n
  ·rw [List.getElem?_range h2, List.getElem?_range Ox]
   show some i = some (a + 1 + m)
   congr 1; omega
  ·rw [List.getElem?_eq_none (by simp; omega), List.getElem?_eq_none (by simp; omega)]; rfl
def preT (T : List It) (G : List Bool) (a : Nat) : List It := ((List.range a).filter fun i => !gnT G i).map (it T)
def sufT (T : List It) (G : List Bool) (a : Nat) : List It := (((List.range (T.length - (a + 1))).map (fun j => a + 1 + j)).filter fun i => !gnT G i).map (it T)
theorem live_at {T : List It} {G : List Bool} {a : Nat} (h : a < T.length) (hg : gnT G a = false) : liveT T G = preT T G a ++ it T a :: sufT T G a := by
 unfold liveT preT sufT
 rw [range_at h, List.filter_append, List.map_append, List.filter_cons_of_pos (by rw [hg]; rfl)]; rfl
theorem gn_set {G : List Bool} {a i : Nat} (ha : a < G.length) (b : Bool) : gnT (G.set a b) i = if i = a then b else gnT G i := by
 unfold gnT
 rw [List.getD_eq_getElem?_getD, List.getD_eq_getElem?_getD, List.getElem?_set]
 by_cases e : i = a
 ·subst e; rw [if_pos rfl, if_pos rfl, if_pos ha]; rfl
 ·rw [if_neg (fun h => e h.symm), if_neg e]
theorem it_setT {T : List It} {a i : Nat} (ha : a < T.length) (x : It) : it (T.set a x) i = if i = a then x else it T i := by
 unfold it
 rw [List.getD_eq_getElem?_getD, List.getD_eq_getElem?_getD, List.getElem?_set]
 by_cases e : i = a
 ·subst e; rw [if_pos rfl, if_pos rfl, if_pos ha]; rfl
 ·rw [if_neg (fun h => e h.symm), if_neg e]
theorem filter_ext {α : Type} {p q : α → Bool} : ∀ {l : List α}, (∀ x ∈ l, p x = q x) → l.filter p = l.filter q
  | [], _ => rfl
  | x :: l, h => by
    have ih := filter_ext (p := p) (q := q) (l := l) fun y hy => h y (by simp [hy])
    have hx := h x (by simp)
    by_cases hp : p x = true
    · rw [List.filter_cons_of_pos hp, List.filter_cons_of_pos (by rw [← hx]; exact hp), ih]
    · rw [List.filter_cons_of_neg hp, List.filter_cons_of_neg (by rw [← hx]; exact hp), ih]
theorem live_drop {T : List It} {G : List Bool} {a : Nat} (h : a < T.length) (hG : G.length = T.length) (x : It) : liveT (T.set a x) (G.set a true) = preT T G a ++ sufT T G a := by
 unfold liveT preT sufT
 rw [List.length_set, range_at h, List.filter_append, List.map_append, List.filter_cons_of_neg (by rw [gn_set Ox, if_pos rfl]; decide)]
 congr 1
 ·have e : (List.range a).filter (fun i => !gnT (G.set a true) i) = (List.range a).filter fun i => !gnT G i := filter_ext fun i hi => by
   rw [gn_set Ox, if_neg (by have := List.mem_range.1 hi; omega)]
  rw [e]
  refine List.map_congr_left fun i hi => ?_
  rw [it_setT h, if_neg (by have := List.mem_range.1 (List.mem_filter.1 hi).1; omega)]
 ·have e : ((List.range (T.length - (a + 1))).map (fun j => a + 1 + j)).filter (fun i => !gnT (G.set a true) i) = ((List.range (T.length - (a + 1))).map (fun j => a + 1 + j)).filter fun i => !gnT G i := filter_ext fun i hi => by
   obtain ⟨j, -, rfl⟩ := List.mem_map.1 hi
   rw [gn_set Ox, if_neg Ox]
  rw [e]
  refine List.map_congr_left fun i hi => ?_
  obtain ⟨j, -, rfl⟩ := List.mem_map.1 (List.mem_filter.1 hi).1
  rw [it_setT h, if_neg Ox]
theorem live_set {T : List It} {G : List Bool} {a : Nat} (h : a < T.length) (hg : gnT G a = false) (x : It) : liveT (T.set a x) G = preT T G a ++ x :: sufT T G a := by
 rw [live_at (by rw [List.length_set]; exact h) hg, it_setT h, if_pos rfl]
 unfold preT sufT
 rw [List.length_set]
 congr 1
 ·refine List.map_congr_left fun i hi => ?_
  rw [it_setT h, if_neg (by have := List.mem_range.1 (List.mem_filter.1 hi).1; omega)]
 ·congr 1
  refine List.map_congr_left fun i hi => ?_
  obtain ⟨j, -, rfl⟩ := List.mem_map.1 (List.mem_filter.1 hi).1
  rw [it_setT h, if_neg Ox]
theorem live_push (T : List It) (G : List Bool) (hG : G.length = T.length) (x : It) : liveT (T ++ [x]) (G ++ [false]) = liveT T G ++ [x] := by
 unfold liveT
 rw [List.length_append, show T.length + [x].length = T.length + 1 from rfl, List.range_succ, List.filter_append, List.map_append]
 have hgl : ∀ i, i < T.length → gnT (G ++ [false]) i = gnT G i := fun i hi => by
  unfold gnT; rw [List.getD_eq_getElem?_getD, List.getD_eq_getElem?_getD, List.getElem?_append_left Ox]
 have hgx : gnT (G ++ [false]) T.length = false := by
  unfold gnT; rw [List.getD_eq_getElem?_getD, ← hG, List.getElem?_append_right (Nat.le_refl _)]; simp
 have e1 : [T.length].filter (fun i => !gnT (G ++ [false]) i) = [T.length] := List.filter_cons_of_pos (by rw [hgx]; rfl)
 have e2 : (List.range T.length).filter (fun i => !gnT (G ++ [false]) i) = (List.range T.length).filter fun i => !gnT G i := filter_ext fun i hi => by rw [hgl i (List.mem_range.1 hi)]
 rw [e1, e2]
 congr 1
 ·exact List.map_congr_left fun i hi => it_snoc_ltT (List.mem_range.1 (List.mem_filter.1 hi).1)
 ·show [it (T ++ [x]) T.length] = [x]
  unfold it
  rw [List.getD_eq_getElem?_getD, List.getElem?_append_right (Nat.le_refl _)]; simp
where
  it_snoc_ltT {L : List It} {x : It} {j : Nat} (h : j < L.length) : it (L ++ [x]) j = it L j := by
    unfold it
    rw [List.getD_eq_getElem?_getD, List.getD_eq_getElem?_getD, List.getElem?_append_left h]
set_option maxHeartbeats 1000000
theorem last_filter {p : Nat → Bool} {a : Nat} : ∀ {n : Nat}, ((List.range n).filter p).getLast? = some a → a < n ∧ p a = true ∧ (∀ i, a < i → i < n → p i = false) ∧ (List.range n).filter p = (List.range a).filter p ++ [a]
  | 0, h => by cases h
  | n + 1, h => by
    rw [List.range_succ, List.filter_append] at h
    by_cases hp : p n = true
    · have e : [n].filter p = [n] := List.filter_cons_of_pos hp
      rw [e, List.getLast?_append] at h
      have h' : some n = some a := h
      cases h'
      refine ⟨by omega, hp, fun i h1 h2 => absurd h2 Ox, ?_⟩; rw [List.range_succ, List.filter_append, e]
    · have e : [n].filter p = [] := by rw [List.filter_cons_of_neg hp]; rfl
      rw [e, List.append_nil] at h
      obtain ⟨h1, h2, h3, h4⟩ := last_filter h
      refine ⟨by omega, h2, fun i hi hn => ?_, ?_⟩
      · rcases (by omega : i = n ∨ i < n) with rfl | hlt
        · simpa using hp
        · exact h3 i hi hlt
      · rw [List.range_succ, List.filter_append, e, List.append_nil]; exact h4
def topT (T : List It) (G : List Bool) (g : Int) : Option Nat := (stkT T G g).getLast?
theorem top_spec {T : List It} {G : List Bool} {g : Int} {a : Nat} (h : topT T G g = some a) : a < T.length ∧ gnT G a = false ∧ touchT (it T a) g = true ∧ (∀ i, a < i → i < T.length → gnT G i = false → touchT (it T i) g = false) ∧
    stkT T G g = (List.range a).filter (fun i => !gnT G i && touchT (it T i) g) ++ [a] := by
  obtain ⟨h1, h2, h3, h4⟩ := last_filter h
  rw [Bool.and_eq_true, Bool.not_eq_true'] at h2; refine ⟨h1, h2.1, h2.2, fun i hi hn hg => ?_, h4⟩
  have := h3 i hi hn
  simp only [hg, Bool.not_false, Bool.true_and] at this
  exact this
theorem suf_touch {T : List It} {G : List Bool} {g : Int} {a : Nat} (h : ∀ i, a < i → i < T.length → gnT G i = false → touchT (it T i) g = false) : ∀ x ∈ sufT T G a, touchT x g = false := by
 intro x hx
 obtain ⟨i, hi, rfl⟩ := List.mem_map.1 hx
 obtain ⟨h1, h2⟩ := List.mem_filter.1 hi
 obtain ⟨j, hj, rfl⟩ := List.mem_map.1 h1
 exact h _ Ox (by have := List.mem_range.1 hj; omega) (by simpa using h2)
structure TdI (N : Nat) (T : List It) (G : List Bool) (D : List It) : Prop where
  len : G.length = T.length
  fit : ∀ x ∈ liveT T G, fitB N x = true
  act : ∀ m, actQ (liveT T G) m = actQ D m
  cnt : (liveT T G).length ≤ D.length
  tl : T.length ≤ D.length
theorem TdI.start (N : Nat) : TdI N [] [] [] := ⟨rfl, (fun x h => by cases h), fun _ => rfl, Nat.le_refl _, Nat.le_refl _⟩
theorem TdI.push {N : Nat} {T D : List It} {G : List Bool} {z : It} (h : TdI N T G D) (hz : fitB N z = true) : TdI N (T ++ [z]) (G ++ [false]) (D ++ [z]) := by
 have hl := live_push T G h.len z
 refine ⟨by rw [List.length_append, List.length_append, h.len]; rfl, ?_, fun m => ?_, ?_, ?_⟩
 ·rw [hl]; exact mem_snoc h.fit hz
 ·rw [hl, actQ_snoc, actQ_snoc, h.act]
 ·rw [hl, List.length_append, List.length_append]; exact Nat.add_le_add_right h.cnt _
 ·rw [List.length_append, List.length_append]; exact Nat.add_le_add_right h.tl _
def sumN8 (a b : Int) : Int := (a + b) % 8
theorem TdI.phase {N : Nat} {T D : List It} {G : List Bool} {z : It} {a : Nat} (h : TdI N T G D) (hz : fitB N z = true) (ht : topT T G z.at_ = some a) (hk : z.kind = 1) (hk2 : (it T a).kind = 1) (ha : (it T a).at_ = z.at_) :
    TdI N (T.set a ⟨1, z.at_, sumN8 (it T a).n z.n, (it T a).name⟩) (if sumN8 (it T a).n z.n = 0 then G.set a true else G) (D ++ [z]) := by
  obtain ⟨h1, h2, -, h4, -⟩ := top_spec ht
  obtain ⟨p, hp, hpN⟩ : ∃ p : Nat, z.at_ = (p : Int) + 1 ∧ p < N := by
    have hz' := (of_decide_eq_true hz).2.1
    rcases it_kind hz with ⟨-, h5, -⟩ | ⟨h5, -⟩
    · exact ⟨(z.at_ - 1).toNat, by omega, h5⟩
    · omega
  have hsuf := suf_touch h4
  rw [hp] at hsuf
  have hlive := live_at h1 h2
  have hfl := h.fit
  rw [hlive] at hfl
  have hfs : ∀ x ∈ sufT T G a, fitB N x = true := fun x hx => hfl x (by simp [hx])
  have hfp : ∀ x ∈ preT T G a, fitB N x = true := fun x hx => hfl x (by simp [hx])
  have hfx := hfl (it T a) (by simp)
  have hxn : 1 ≤ (it T a).n ∧ (it T a).n ≤ 7 := by
    rcases it_kind hfx with ⟨-, -, h5, h6⟩ | ⟨h5, -⟩ <;> omega
  have hzn : 1 ≤ z.n ∧ z.n ≤ 7 := by
    rcases it_kind hz with ⟨-, -, h5, h6⟩ | ⟨h5, -⟩ <;> omega
  have hq : ∀ m, itQ z m = phQ p (omP z.n.toNat) m := fun m => by
    unfold itQ; rw [if_pos hk, hp, show ((p : Int) + 1 - 1).toNat = p by omega, show (z.n % 8).toNat = z.n.toNat by omega]
  have hqx : ∀ m, itQ (it T a) m = phQ p (omP (it T a).n.toNat) m := fun m => by
    unfold itQ; rw [if_pos hk2, ha, hp, show ((p : Int) + 1 - 1).toNat = p by omega, show ((it T a).n % 8).toNat = (it T a).n.toNat by omega]
  have hs8 : (((it T a).n.toNat + z.n.toNat) % 8 : Nat) = (sumN8 (it T a).n z.n).toNat := by unfold sumN8; omega
  -- what both make
  have both : ∀ m, itQ z (actQ (liveT T G) m) = actQ (sufT T G a) (phQ p (omP (sumN8 (it T a).n z.n).toNat) (actQ (preT T G a) m)) := fun m => by
    rw [hlive, actQ_app, hq]
    show phQ p _ (actQ (sufT T G a) (itQ (it T a) (actQ (preT T G a) m))) = _
    rw [hqx, ← act_comm_ph _ hfs hsuf, ph_ph, hs8]
  have hwd : ∀ n : Int, 1 ≤ n → n ≤ 7 → fitB N ⟨1, z.at_, n, (it T a).name⟩ = true := fun n h5 h6 => by
    have h7 := (of_decide_eq_true hfx).1
    unfold wd at h7
    rw [if_pos hk2] at h7
    split at h7
    · rename_i h8
      have := fit_ph hfx (n := n) (s := (it T a).name) ⟨h5, h6⟩ h8.2.2
      rw [ha] at this; exact this
    · exact absurd rfl h7
  have hcnt : (preT T G a).length + (sufT T G a).length + 1 ≤ D.length := by
    have := h.cnt
    rw [hlive, List.length_append, List.length_cons] at this
    omega
  have htl := h.tl
  by_cases h0 : sumN8 (it T a).n z.n = 0
  · rw [if_pos h0]
    have hl := live_drop h1 h.len ⟨1, z.at_, sumN8 (it T a).n z.n, (it T a).name⟩
    refine ⟨by rw [List.length_set, List.length_set]; exact h.len, ?_, fun m => ?_, ?_, ?_⟩
    · rw [hl]; intro x hx
      rcases List.mem_append.1 hx with h5 | h5
      · exact hfp x h5
      · exact hfs x h5
    · rw [hl, actQ_app, actQ_snoc, ← h.act, both, h0]
      show _ = actQ _ (phQ p (omP 0) _)
      rw [phQ_zero]
    · rw [hl, List.length_append, List.length_append]; omega
    · rw [List.length_set, List.length_append]; omega
  · rw [if_neg h0]
    have hl := live_set h1 h2 ⟨1, z.at_, sumN8 (it T a).n z.n, (it T a).name⟩
    have hr : 1 ≤ sumN8 (it T a).n z.n ∧ sumN8 (it T a).n z.n ≤ 7 := by unfold sumN8 at h0 ⊢; omega
    refine ⟨by rw [List.length_set]; exact h.len, ?_, fun m => ?_, ?_, ?_⟩
    · rw [hl]; intro x hx
      rcases List.mem_append.1 hx with h5 | h5
      · exact hfp x h5
      · rcases List.mem_cons.1 h5 with rfl | h5
        · exact hwd _ hr.1 hr.2
        · exact hfs x h5
    · rw [hl, actQ_app, actQ_snoc, ← h.act, both]
      show actQ (sufT T G a) (itQ _ (actQ (preT T G a) m)) = _
      congr 1
      unfold itQ
      rw [if_pos rfl]
      show phQ (z.at_ - 1).toNat (omP (sumN8 (it T a).n z.n % 8).toNat) _ = _
      rw [hp, show ((p : Int) + 1 - 1).toNat = p by omega, show (sumN8 (it T a).n z.n % 8).toNat = (sumN8 (it T a).n z.n).toNat by omega]
    · rw [hl, List.length_append, List.length_append, List.length_cons]; show _ ≤ D.length + 1; omega
    · rw [List.length_set, List.length_append]; omega
theorem TdI.cross {N : Nat} {T D : List It} {G : List Bool} {z : It} {a : Nat} (h : TdI N T G D) (hz : fitB N z = true) (ht : topT T G z.at_ = some a) (ht2 : topT T G (z.at_ + 1) = some a) (hk : z.kind = 3) (hk2 : (it T a).kind = 3) (ha : (it T a).at_ = z.at_) :
    TdI N T (G.set a true) (D ++ [z]) := by
  obtain ⟨h1, h2, -, h4, -⟩ := top_spec ht
  obtain ⟨-, -, -, h42, -⟩ := top_spec ht2
  obtain ⟨p, hp⟩ : ∃ p : Nat, z.at_ = (p : Int) + 1 := by
    have hz' := (of_decide_eq_true hz).2.1
    exact ⟨(z.at_ - 1).toNat, by omega⟩
  have hsuf := suf_touch h4
  have hsuf2 := suf_touch h42
  rw [hp] at hsuf hsuf2
  have hlive := live_at h1 h2
  have hfl := h.fit
  rw [hlive] at hfl
  have hfs : ∀ x ∈ sufT T G a, fitB N x = true := fun x hx => hfl x (by simp [hx])
  have hfp : ∀ x ∈ preT T G a, fitB N x = true := fun x hx => hfl x (by simp [hx])
  have hq : ∀ m, itQ z m = crQ p m := fun m => by
    unfold itQ; rw [if_neg Ox, if_pos hk, hp, show ((p : Int) + 1 - 1).toNat = p by omega]
  have hqx : ∀ m, itQ (it T a) m = crQ p m := fun m => by
    unfold itQ; rw [if_neg Ox, if_pos hk2, ha, hp, show ((p : Int) + 1 - 1).toNat = p by omega]
  have hl : liveT T (G.set a true) = preT T G a ++ sufT T G a := by
    have := live_drop h1 h.len (it T a)
    have e : T.set a (it T a) = T := by
      refine List.ext_getElem (by simp) fun i g1 g2 => ?_
      rw [List.getElem_set]
      split
      · rename_i e; subst e; unfold it; rw [List.getD_eq_getElem?_getD, List.getElem?_eq_getElem g2]; rfl
      · rfl
    rw [e] at this
    exact this
  have hcnt : (preT T G a).length + (sufT T G a).length + 1 ≤ D.length := by
    have := h.cnt
    rw [hlive, List.length_append, List.length_cons] at this
    omega
  have htl := h.tl
  refine ⟨by rw [List.length_set]; exact h.len, ?_, fun m => ?_, ?_, ?_⟩
  · rw [hl]; intro x hx
    rcases List.mem_append.1 hx with h5 | h5
    · exact hfp x h5
    · exact hfs x h5
  · rw [hl, actQ_app, actQ_snoc, ← h.act, hlive, actQ_app, hq]
    show _ = crQ p (actQ (sufT T G a) (itQ (it T a) (actQ (preT T G a) m)))
    rw [hqx, ← act_comm_cr _ hfs hsuf hsuf2, cr_inv]
  · rw [hl, List.length_append, List.length_append]; omega
  · rw [List.length_append]; omega
theorem stk_ext {T T' : List It} {G G' : List Bool} {g : Int} (hl : T'.length = T.length) (h : ∀ i, i < T.length → (!gnT G' i && touchT (it T' i) g) = (!gnT G i && touchT (it T i) g)) : stkT T' G' g = stkT T G g := by
 unfold stkT
 rw [hl]
 exact filter_ext fun i hi => h i (List.mem_range.1 hi)
theorem stk_drop {T T' : List It} {G : List Bool} {g : Int} {a : Nat} (ht : topT T G g = some a) (hG : G.length = T.length) (hl : T'.length = T.length) (hT : ∀ i, i < T.length → touchT (it T' i) g = touchT (it T i) g) : stkT T' (G.set a true) g = (stkT T G g).dropLast := by
 obtain ⟨h1, h2, h3, h4, h5⟩ := top_spec ht
 rw [h5, List.dropLast_concat]
 unfold stkT
 rw [hl, range_at h1, List.filter_append, List.filter_cons_of_neg (by rw [gn_set Ox, if_pos rfl]; simp)]
 have e1 : (List.range a).filter (fun i => !gnT (G.set a true) i && touchT (it T' i) g) = (List.range a).filter fun i => !gnT G i && touchT (it T i) g := filter_ext fun i hi => by
  have := List.mem_range.1 hi
  rw [gn_set Ox, if_neg Ox, hT i Ox]
 have e2 : ((List.range (T.length - (a + 1))).map (fun j => a + 1 + j)).filter (fun i => !gnT (G.set a true) i && touchT (it T' i) g) = [] := by
  rw [List.filter_eq_nil_iff]; intro i hi
  obtain ⟨j, hj, rfl⟩ := List.mem_map.1 hi
  have hj' := List.mem_range.1 hj
  rw [gn_set Ox, if_neg Ox, hT _ Ox]
  cases hg : gnT G (a + 1 + j) with
  | true => simp
  | false => rw [h4 _ Ox Ox hg]; simp
 rw [e1, e2, List.append_nil]
theorem stk_other {T T' : List It} {G : List Bool} {g : Int} {a : Nat} (h1 : a < T.length) (hG : G.length = T.length) (hl : T'.length = T.length) (hT : ∀ i, i < T.length → touchT (it T' i) g = touchT (it T i) g) (hg : touchT (it T a) g = false) : stkT T' (G.set a true) g = stkT T G g :=
  stk_ext hl fun i hi => by
    rw [hT i hi, gn_set Ox]
    by_cases e : i = a
    · subst e; rw [if_pos rfl, hg]; simp
    · rw [if_neg e]
theorem stk_push {T : List It} {G : List Bool} {g : Int} (hG : G.length = T.length) (z : It) : stkT (T ++ [z]) (G ++ [false]) g = if touchT z g = true then stkT T G g ++ [T.length] else stkT T G g := by
 unfold stkT
 rw [List.length_append, show T.length + [z].length = T.length + 1 from rfl, List.range_succ, List.filter_append]
 have hgl : ∀ i, i < T.length → gnT (G ++ [false]) i = gnT G i := fun i hi => by
  unfold gnT; rw [List.getD_eq_getElem?_getD, List.getD_eq_getElem?_getD, List.getElem?_append_left Ox]
 have hgx : gnT (G ++ [false]) T.length = false := by
  unfold gnT; rw [List.getD_eq_getElem?_getD, ← hG, List.getElem?_append_right (Nat.le_refl _)]; simp
 have hix : it (T ++ [z]) T.length = z := by
  unfold it
  rw [List.getD_eq_getElem?_getD, List.getElem?_append_right (Nat.le_refl _)]; simp
 have e2 : (List.range T.length).filter (fun i => !gnT (G ++ [false]) i && touchT (it (T ++ [z]) i) g) = (List.range T.length).filter fun i => !gnT G i && touchT (it T i) g := filter_ext fun i hi => by
  have := List.mem_range.1 hi
  rw [hgl i this, live_push.it_snoc_ltT this]
 rw [e2]
 by_cases ht : touchT z g = true
 ·rw [if_pos ht, List.filter_cons_of_pos (by rw [hgx, hix, ht]; rfl)]; rfl
 ·rw [if_neg ht, List.filter_cons_of_neg (by rw [hgx, hix]; simpa using ht)]; simp
open Go.RowKit
def OwnO (u : List Blk) (v : Value) (l : List Bool) : Prop := Own 4 1 u v l.length (boL l)
theorem OwnO.nil : OwnO [] (.slice none 0 0) [] := Own.nil _ _
theorem Own.openG {e size n : Nat} {u : List Blk} {v : Value} {xs : List Value} (h : Own e size u v n xs) (hn : 0 < n) : ∃ g cap rest, u = [(g, .cells (xs ++ rest).toArray e)] ∧ v = .slice (some ⟨g, 0, none⟩) n cap ∧
    ∀ ys : List Value, ys.length = xs.length → Own e size [(g, .cells (ys ++ rest).toArray e)] v n ys := by
  obtain ⟨hl, ⟨rfl, rfl, h0⟩ | ⟨g, cap, cur, rfl, rfl, hc, hm, hs, ht⟩⟩ := h
  · omega
  · refine ⟨g, cap, cur.toList.drop (n * size), ?_, rfl, fun ys hy => ⟨hy.trans hl, .inr ⟨g, cap, _, rfl, rfl, hc, hm, ?_, ?_⟩⟩⟩
    · rw [← ht, List.take_append_drop]
    · show (ys ++ cur.toList.drop (n * size)).length = cap * size
      have e1 : cur.toList.length = cap * size := hs
      rw [List.length_append, List.length_drop, e1, hy, hl]
      have := Nat.mul_le_mul_right size hc
      omega
    · show (ys ++ _).take (n * size) = ys
      rw [List.take_left' (hy.trans hl)]
theorem Own.shorter {e n c : Nat} {u : List Blk} {a : Option Addr} {xs : List Value} (h : Own e 1 u (.slice a (n + 1) c) (n + 1) xs) : Own e 1 u (.slice a n c) n xs.dropLast ∧ n ≤ c := by
 obtain ⟨hl, ⟨rfl, hv, h0⟩ | ⟨g, cap, cur, rfl, hv, hc, hm, hs, ht⟩⟩ := h
 ·cases h0
 ·cases hv
  refine ⟨⟨by rw [List.length_dropLast]; omega, .inr ⟨g, _, cur, rfl, rfl, by omega, hm, hs, ?_⟩⟩, by omega⟩; rw [← ht, List.dropLast_eq_take, List.length_take, List.take_take, Array.length_toList, hs]
  congr 1
  omega
structure ZR where
  a : Option Addr
  c : Nat
  u : List Blk
  l : List Int
def ZR.val (x : ZR) : Value := .slice x.a x.l.length x.c
abbrev zrV (rs : List ZR) : List Value := rs.map ZR.val
def zrB (rs : List ZR) : List Blk := (rs.map ZR.u).flatten
theorem zr_one {A C : List ZR} {x : ZR} : zrB (A ++ x :: C) = zrB A ++ (x.u ++ zrB C) := by unfold zrB; rw [List.map_append, List.map_cons, List.flatten_append, List.flatten_cons]
theorem splitZ {rs : List ZR} {p : Nat} (h : p < rs.length) : ∃ A x C, rs = A ++ x :: C ∧ A.length = p := by
 refine ⟨rs.take p, rs[p], rs.drop (p + 1), ?_, by rw [List.length_take]; omega⟩
 rw [← List.drop_eq_getElem_cons h, List.take_append_drop]
theorem atZ {A C : List ZR} {x : ZR} {p : Nat} (h : A.length = p) : (A ++ x :: C)[p]? = some x := by subst h; rw [List.getElem?_append_right (Nat.le_refl _), Nat.sub_self]; rfl
theorem zrV_get {A C : List ZR} {x : ZR} {p : Nat} (h : A.length = p) (iv gv : Value) : (iv :: gv :: zrV (A ++ x :: C)).toArray[2 + p * 1]? = some x.val := by
 rw [List.getElem?_toArray, show 2 + p * 1 = p + 1 + 1 by omega, List.getElem?_cons_succ, List.getElem?_cons_succ, List.getElem?_map, atZ h]; rfl
theorem zrV_set {A C : List ZR} {x y : ZR} {p : Nat} (h : A.length = p) (iv gv : Value) : (iv :: gv :: zrV (A ++ x :: C)).set (2 + p * 1) y.val = iv :: gv :: zrV (A ++ y :: C) := by
 subst h
 rw [show 2 + A.length * 1 = A.length + 1 + 1 by omega, List.set_cons_succ, List.set_cons_succ]
 congr 2
 unfold zrV
 rw [List.map_append, List.map_append, List.map_cons, List.map_cons, List.set_append_right _ _ (by rw [List.length_map]; exact Nat.le_refl _), List.length_map, Nat.sub_self, List.set_cons_zero]
def stkZ (T : List It) (G : List Bool) (g : Int) : List Int := (stkT T G g).map fun (i : Nat) => (i : Int)
abbrev tdV (T : List It) (G : List Bool) (ia ga : Option Addr) (ic gc : Nat) (rs : List ZR) : List Value := .slice ia T.length ic :: .slice ga G.length gc :: zrV rs
structure TS (gw : Nat) (T : List It) (G : List Bool) (f : Nat → List Int) (s : List Blk) : Prop where
  ex : ∃ (ia ga : Option Addr) (ic gc : Nat) (u v : List Blk) (rs : List ZR), s = (gw, .cells (tdV T G ia ga ic gc rs).toArray 108) :: (u ++ (v ++ (zrB rs ++ []))) ∧
    rs.length = 7 ∧ OwnT u (.slice ia T.length ic) T ∧ OwnO v (.slice ga G.length gc) G ∧ (∀ x ∈ rs, OwnZ x.u x.val x.l) ∧ ∀ g x, 1 ≤ g → rs[g]? = some x → x.l = f g
theorem TS.at {gw : Nat} {T : List It} {G : List Bool} {f : Nat → List Int} {s : List Blk} (h : TS gw T G f s) {g : Nat} (h1 : 1 ≤ g) (h7 : g < 7) : ∃ (ia ga : Option Addr) (ic gc : Nat) (uT uG : List Blk) (A : List ZR) (x : ZR) (C : List ZR),
    s ++ [] = (gw, .cells (tdV T G ia ga ic gc (A ++ x :: C)).toArray 108) :: (uT ++ (uG ++ (zrB A ++ (x.u ++ (zrB C ++ []))))) ∧
    A.length = g ∧ (A ++ x :: C).length = 7 ∧ OwnT uT (.slice ia T.length ic) T ∧ OwnO uG (.slice ga G.length gc) G ∧ (∀ y ∈ A ++ x :: C, OwnZ y.u y.val y.l) ∧ (∀ i y, 1 ≤ i → (A ++ x :: C)[i]? = some y → y.l = f i) ∧ OwnZ x.u x.val x.l ∧ x.l = f g := by
  obtain ⟨ia, ga, ic, gc, u, v, rs, rfl, hl, hT, hG, hZ, hS⟩ := h
  obtain ⟨A, x, C, rfl, hA⟩ := splitZ (p := g) (rs := rs) Ox
  refine ⟨ia, ga, ic, gc, u, v, A, x, C, ?_, hA, hl, hT, hG, hZ, hS, hZ x (by simp), hS g x h1 (atZ hA)⟩; rw [List.append_nil, zr_one, List.append_assoc, List.append_assoc]
theorem TS.atS {gw : Nat} {T : List It} {G : List Bool} {f : Nat → List Int} {s : List Blk} (h : TS gw T G f s) {g : Nat} (h1 : 1 ≤ g) (h7 : g < 7) {ys : List Int} {a : Int} (hf : f g = ys ++ [a]) : ∃ (ia ga : Option Addr) (ic gc : Nat) (uT uG : List Blk) (A C : List ZR) (gx cx : Nat) (rx : List Value),
    s ++ [] = (gw, .cells (tdV T G ia ga ic gc (A ++ ⟨some ⟨gx, 0, none⟩, cx, [(gx, .cells (zs (ys ++ [a]) ++ rx).toArray 3)], ys ++ [a]⟩ :: C)).toArray 108) :: (uT ++ (uG ++ (zrB A ++ ((gx, .cells (zs (ys ++ [a]) ++ rx).toArray 3) :: (zrB C ++ []))))) ∧
    A.length = g ∧ (∀ x : ZR, (A ++ x :: C).length = 7) ∧ OwnT uT (.slice ia T.length ic) T ∧ OwnO uG (.slice ga G.length gc) G ∧ (∀ y ∈ A ++ C, OwnZ y.u y.val y.l) ∧ (∀ x : ZR, ∀ i y, 1 ≤ i → i ≠ g → (A ++ x :: C)[i]? = some y → y.l = f i) ∧ ys.length + 1 ≤ cx ∧
    OwnZ [(gx, .cells (zs (ys ++ [a]) ++ rx).toArray 3)] (.slice (some ⟨gx, 0, none⟩) ys.length cx) ys := by
  obtain ⟨ia, ga, ic, gc, uT, uG, A, ⟨xa, xc, xu, xl⟩, C, hse, hA, hl, hT, hG, hZ, hS, hO, hx⟩ := h.at h1 h7
  obtain rfl : xl = ys ++ [a] := hx.trans hf
  have hO1 : Own 3 1 xu (.slice xa (ys.length + 1) xc) (ys.length + 1) (zs (ys ++ [a])) := by
    have := hO
    unfold OwnZ ZR.val at this
    simp only [List.length_append, List.length_singleton] at this
    exact this
  obtain ⟨gx, cap, rx, rfl, hv, -⟩ := Own.openG hO1 Ox
  cases hv
  obtain ⟨hs, -⟩ := hO1.shorter
  obtain ⟨a', c', e', hc'⟩ := hO1.val
  cases e'
  refine ⟨ia, ga, ic, gc, uT, uG, A, C, gx, xc, rx, hse, hA, fun x => by rw [← hl]; simp, hT, hG, fun y hy => hZ y (by simp at hy ⊢; rcases hy with h | h <;> simp [h]), fun x i y h1 hi hy => hS i y h1 ?_, hc', ?_⟩
  · subst hA
    rcases (by omega : i < A.length ∨ A.length + 1 ≤ i) with h | h
    · rw [List.getElem?_append_left h] at hy ⊢; exact hy
    · rw [List.getElem?_append_right Ox] at hy ⊢
      obtain ⟨m, hm⟩ : ∃ m, i - A.length = m + 1 := ⟨i - A.length - 1, by omega⟩
      rw [hm] at hy ⊢; exact hy
  · have e : (zs (ys ++ [a])).dropLast = zs ys := by simp
    rw [e] at hs
    exact hs
theorem TS.put {gw g : Nat} {T : List It} {G : List Bool} {f f' : Nat → List Int} {ia ga : Option Addr} {ic gc : Nat} {uT uG : List Blk} {A C : List ZR} {y : ZR} (hA : A.length = g) (hl : (A ++ y :: C).length = 7) (hT : OwnT uT (.slice ia T.length ic) T) (hG : OwnO uG (.slice ga G.length gc) G)
    (hZ : ∀ y ∈ A ++ C, OwnZ y.u y.val y.l) (hS : ∀ i z, 1 ≤ i → i ≠ g → (A ++ y :: C)[i]? = some z → z.l = f i) (hO : OwnZ y.u y.val y.l) (hf : y.l = f' g) (hf2 : ∀ i, i ≠ g → f' i = f i) :
    TS gw T G f' ((gw, .cells (tdV T G ia ga ic gc (A ++ y :: C)).toArray 108) :: (uT ++ (uG ++ (zrB A ++ (y.u ++ (zrB C ++ [])))))) := by
  refine ⟨ia, ga, ic, gc, uT, uG, A ++ y :: C, by rw [zr_one, List.append_assoc, List.append_assoc], hl, hT, hG, fun z hz => ?_, fun i z h1 hz => ?_⟩
  · rcases List.mem_append.1 hz with h | h
    · exact hZ z (List.mem_append_left _ h)
    · rcases List.mem_cons.1 h with rfl | h
      · exact hO
      · exact hZ z (List.mem_append_right _ h)
  · by_cases e : i = g
    · subst e
      rw [atZ hA] at hz
      cases hz
      exact hf
    · rw [hf2 i e]; exact hS i z h1 e hz
theorem stk_len (T : List It) (G : List Bool) (g : Int) : (stkZ T G g).length ≤ T.length := by
 unfold stkZ stkT
 rw [List.length_map]
 exact Nat.le_trans (List.length_filter_le _ _) (by rw [List.length_range]; exact Nat.le_refl _)
def stepD (f : Nat → List Int) (g : Int) : Nat → List Int := fun i => if (i : Int) = g then (f i).dropLast else f i
def stepP (n : Int) (f : Nat → List Int) (g : Int) : Nat → List Int := fun i => if (i : Int) = g then f i ++ [n] else f i
theorem stk_some {T : List It} {G : List Bool} {g : Int} {a : Nat} (h : topT T G g = some a) : ∃ ys : List Int, stkZ T G g = ys ++ [(a : Int)] := by
 obtain ⟨-, -, -, -, h5⟩ := top_spec h
 exact ⟨_, by unfold stkZ; rw [h5, List.map_append]; rfl⟩
theorem stk_none {T : List It} {G : List Bool} {g : Int} (h : topT T G g = none) : stkZ T G g = [] := by
 unfold topT at h
 unfold stkZ
 rw [List.getLast?_eq_none_iff.1 h]; rfl
def lastI (l : List Int) : Int := l.getLast?.getD (-1)
theorem zs_last {ys : List Int} {a : Int} {rest : List Value} : (zs (ys ++ [a]) ++ rest).toArray[ys.length]? = some (.int .i64 a) := by
 rw [List.getElem?_toArray, List.getElem?_append_left (by simp), List.getElem?_map, List.getElem?_append_right (Nat.le_refl _), Nat.sub_self]; rfl
def gsT (z : It) : List Int := if z.kind = 1 then [z.at_] else [z.at_, z.at_ + 1]
theorem gsT_touch (z : It) (g : Int) : touchT z g = decide (g ∈ gsT z) := by
 unfold touchT gsT
 by_cases h : z.kind = 1
 ·rw [if_pos h]; simp [h]
 ·rw [if_neg h]; simp [h]
theorem td_sz {T : List It} {G : List Bool} {ia ga : Option Addr} {ic gc g : Nat} {A C : List ZR} {x : ZR} (h : (A ++ x :: C).length = 7) (h7 : g < 7) (v : Value) : 2 + g * 1 + [v].length ≤ (tdV T G ia ga ic gc (A ++ x :: C)).toArray.size := by
 have e : (tdV T G ia ga ic gc (A ++ x :: C)).toArray.size = (A ++ x :: C).length + 1 + 1 := by
  show ((A ++ x :: C).map ZR.val).length + 1 + 1 = _
  rw [List.length_map]
 rw [e, h]
 show 2 + g * 1 + 1 ≤ _
 omega
theorem td_set {T : List It} {G : List Bool} {ia ga : Option Addr} {ic gc p : Nat} {A C : List ZR} {x y : ZR} {v : Value} (h : A.length = p) (hv : y.val = v) : (tdV T G ia ga ic gc (A ++ x :: C)).set (2 + p * 1) v = tdV T G ia ga ic gc (A ++ y :: C) := by
 subst hv
 exact zrV_set h _ _
theorem foldl_takeS {α β : Type} {st : β → α → β} {f : β} {gl : List α} {k : Nat} {x : α} (h : gl[k]? = some x) : (gl.take (k + 1)).foldl st f = st ((gl.take k).foldl st f) x := by
 rw [List.take_succ, h, List.foldl_append]; rfl
theorem zs_at {gl : List Int} {rg : List Value} {k : Nat} {x : Int} (h : gl[k]? = some x) : (zs gl ++ rg).toArray[k]? = some (.int .i64 x) := by
 have hk : k < gl.length := by
  rcases Nat.lt_or_ge k gl.length with h' | h'
  ·exact h'
  ·rw [List.getElem?_eq_none h'] at h; cases h
 rw [List.getElem?_toArray, List.getElem?_append_left (by rw [List.length_map]; exact hk), List.getElem?_map, h]; rfl
theorem bo_set {G : List Bool} {ro : List Value} {a : Nat} (h : a < G.length) (b : Bool) : (boL G ++ ro).set a (.bool b) = boL (G.set a b) ++ ro := by
 rw [List.set_append_left _ _ (by rw [List.length_map]; exact h)]
 congr 1
 exact List.map_set.symm
theorem bo_sz {G : List Bool} {ro : List Value} {a : Nat} (h : a < G.length) (b : Bool) : a + [Value.bool b].length ≤ (boL G ++ ro).toArray.size := by
 rw [List.size_toArray, List.length_append, List.length_map]
 show a + 1 ≤ _
 omega
theorem OwnO.openG {u : List Blk} {v : Value} {G : List Bool} (h : OwnO u v G) (hn : 0 < G.length) : ∃ g cap rest, u = [(g, .cells (boL G ++ rest).toArray 4)] ∧ v = .slice (some ⟨g, 0, none⟩) G.length cap ∧
    ∀ H : List Bool, H.length = G.length → OwnO [(g, .cells (boL H ++ rest).toArray 4)] (.slice (some ⟨g, 0, none⟩) H.length cap) H := by
  obtain ⟨g, cap, rest, rfl, rfl, hO⟩ := Own.openG h hn
  exact ⟨g, cap, rest, rfl, rfl, fun H hH => by have := hO (boL H) (by simp [hH]); unfold OwnO; rw [hH]; exact this⟩
theorem Kn.part {B w : World} {F : List Nat} {S vb rest : List Blk} (hp : S.Perm (vb ++ rest)) (K : Kn B F S w) : Kn w (vb.map (·.1)) vb w := (K.perm hp).self
theorem OwnT.openG {u : List Blk} {v : Value} {xs : List It} (h : OwnT u v xs) (hn : 0 < xs.length) : ∃ g cap rest, u = [(g, .cells (its xs ++ rest).toArray 72)] ∧ v = .slice (some ⟨g, 0, none⟩) xs.length cap ∧
    ∀ ys : List It, ys.length = xs.length → OwnT [(g, .cells (its ys ++ rest).toArray 72)] (.slice (some ⟨g, 0, none⟩) ys.length cap) ys := by
  obtain ⟨g, cap, rest, rfl, rfl, hO⟩ := Own.openG h hn
  exact ⟨g, cap, rest, rfl, rfl, fun ys hy => by have := hO (its ys) (by rw [its_len, its_len, hy]); unfold OwnT; rw [hy]; exact this⟩
theorem its_cell {T : List It} {rI : List Value} {a r : Nat} (h : a < T.length) (hr : r < 4) : (its T ++ rI).toArray[0 + a * 4 + r]? = (itC (it T a))[r]? := by
 rw [List.getElem?_toArray, List.getElem?_append_left (by rw [its_len]; omega), Nat.zero_add]
 exact its_get T a r h hr
theorem its_setn : ∀ {T : List It} {a : Nat} {s k p : Int}, a < T.length → (it T a).kind = k → (it T a).at_ = p → (its T).set (a * 4 + 2) (.int .i64 s) = its (T.set a ⟨k, p, s, (it T a).name⟩)
  | x :: T, 0, s, k, p, _, hk, ha => by
    subst hk ha
    rfl
  | x :: T, a + 1, s, k, p, h, hk, ha => by
    have e : its (x :: T) = itC x ++ its T := by simp [its]
    have e2 : its ((x :: T).set (a + 1) ⟨k, p, s, (it (x :: T) (a + 1)).name⟩) = itC x ++ its (T.set a ⟨k, p, s, (it T a).name⟩) := by
      rw [List.set_cons_succ]; simp [its]; rfl
    rw [e, e2, show (a + 1) * 4 + 2 = 4 + (a * 4 + 2) by omega, List.set_append_right _ _ (by show 4 ≤ _; omega), show 4 + (a * 4 + 2) - (itC x).length = a * 4 + 2 by show 4 + (a * 4 + 2) - 4 = _; omega]
    congr 1
    exact its_setn (Nat.lt_of_succ_lt_succ h) hk ha
theorem its_setN {T : List It} {rI : List Value} {a : Nat} {s k p : Int} (h : a < T.length) (hk : (it T a).kind = k) (ha : (it T a).at_ = p) : (its T ++ rI).set (0 + a * 4 + 2) (.int .i64 s) = its (T.set a ⟨k, p, s, (it T a).name⟩) ++ rI := by
 rw [List.set_append_left _ _ (by rw [its_len]; omega), Nat.zero_add, its_setn h hk ha]
theorem its_sz {T : List It} {rI : List Value} {a : Nat} (h : a < T.length) (v : Value) : 0 + a * 4 + 2 + [v].length ≤ (its T ++ rI).toArray.size := by
 rw [List.size_toArray, List.length_append, its_len]
 show 0 + a * 4 + 2 + 1 ≤ _
 omega
theorem TS.ext {gw : Nat} {T : List It} {G : List Bool} {f f' : Nat → List Int} {s : List Blk} (h : TS gw T G f s) (he : ∀ g : Nat, 1 ≤ g → f' g = f g) : TS gw T G f' s := by
 obtain ⟨ia, ga, ic, gc, u, v, rs, hs, hl, hT, hG, hZ, hS⟩ := h.ex
 exact ⟨ia, ga, ic, gc, u, v, rs, hs, hl, hT, hG, hZ, fun g x h1 hx => (hS g x h1 hx).trans (he g h1).symm⟩
def stkF (T : List It) (G : List Bool) : Nat → List Int := fun i => stkZ T G (i : Int)
theorem last_top (T : List It) (G : List Bool) (g : Nat) : (topT T G (g : Int) = none ∧ lastI (stkF T G g) = -1) ∨ ∃ a : Nat, topT T G (g : Int) = some a ∧ lastI (stkF T G g) = (a : Int) := by
 cases h : topT T G (g : Int) with
 | none => exact .inl ⟨rfl, by unfold stkF; rw [stk_none h]; rfl⟩
 | some a =>
  obtain ⟨ys, hy⟩ := stk_some h
  exact .inr ⟨a, rfl, by unfold stkF lastI; rw [hy, List.getLast?_append]; rfl⟩
theorem last_eq {T : List It} {G : List Bool} {g a : Nat} (h : lastI (stkF T G g) = (a : Int)) : topT T G (g : Int) = some a := by
 rcases last_top T G g with ⟨-, e⟩ | ⟨b, h1, e⟩
 ·omega
 ·rw [h1, show b = a by omega]
theorem stk_ne {T : List It} {G : List Bool} {g a : Nat} (h : topT T G (g : Int) = some a) : stkF T G g ≠ [] := by
 obtain ⟨ys, hy⟩ := stk_some h
 unfold stkF
 rw [hy]
 simp
theorem foldP_len (n : Int) (g : Nat) : ∀ (gl : List Int) (f : Nat → List Int), (gl.foldl (stepP n) f g).length ≤ (f g).length + gl.length
  | [], f => Nat.le_refl _
  | x :: gl, f => by
    have h := foldP_len n g gl (stepP n f x)
    have h2 : (stepP n f x g).length ≤ (f g).length + 1 := by
      unfold stepP; split
      · rw [List.length_append]; exact Nat.le_refl _
      · omega
    rw [List.foldl_cons, List.length_cons]
    omega
theorem drop_pre {f : Nat → List Int} {gl : List Int} {p : Nat} {B : Nat} (hgl : gl = [(p : Int)] ∨ gl = [(p : Int), (p : Int) + 1]) (h0 : f p ≠ []) (h1 : gl = [(p : Int), (p : Int) + 1] → f (p + 1) ≠ []) (hB : ∀ g, (f g).length ≤ B) :
    (∀ k (g : Nat), gl[k]? = some (g : Int) → (gl.take k).foldl stepD f g ≠ []) ∧ ∀ k (g : Nat), gl[k]? = some (g : Int) → ((gl.take k).foldl stepD f g).length ≤ B := by
  have key : ∀ k (g : Nat), gl[k]? = some (g : Int) → (gl.take k).foldl stepD f g = f g ∧ (g = p ∨ (gl = [(p : Int), (p : Int) + 1] ∧ g = p + 1)) := by
    intro k g hk
    rcases hgl with rfl | rfl
    · match k, hk with
      | 0, hk =>
        rw [List.getElem?_cons_zero] at hk
        have := Option.some.inj hk
        exact ⟨rfl, .inl Ox⟩
      | k + 1, hk => rw [List.getElem?_cons_succ] at hk; cases hk
    · match k, hk with
      | 0, hk =>
        rw [List.getElem?_cons_zero] at hk
        have := Option.some.inj hk
        exact ⟨rfl, .inl Ox⟩
      | 1, hk =>
        rw [List.getElem?_cons_succ, List.getElem?_cons_zero] at hk
        have := Option.some.inj hk
        refine ⟨?_, .inr ⟨rfl, by omega⟩⟩
        show stepD f (p : Int) g = f g
        unfold stepD
        rw [if_neg Ox]
      | k + 2, hk => rw [List.getElem?_cons_succ, List.getElem?_cons_succ] at hk; cases hk
  refine ⟨fun k g hk => ?_, fun k g hk => ?_⟩
  · obtain ⟨e, h | ⟨h2, h⟩⟩ := key k g hk
    · rw [e, h]; exact h0
    · rw [e, h]; exact h1 h2
  · rw [(key k g hk).1]; exact hB g
theorem touch_gs (z : It) (g : Nat) : touchT z (g : Int) = decide ((g : Int) ∈ gsT z) := gsT_touch z g
theorem push_ext {T : List It} {G : List Bool} {z : It} (hG : G.length = T.length) (g : Nat) : stkF (T ++ [z]) (G ++ [false]) g = (gsT z).foldl (stepP (T.length : Int)) (stkF T G) g := by
 have h := stk_push (T := T) (G := G) (g := (g : Int)) hG z
 unfold stkF stkZ
 rw [h, touch_gs]
 unfold gsT
 by_cases hk : z.kind = 1
 ·rw [if_pos hk]
  show _ = (if (g : Int) = z.at_ then _ else _)
  by_cases e : (g : Int) = z.at_
  ·rw [if_pos e, if_pos (by rw [e]; simp), List.map_append]; rfl
  ·rw [if_neg e, if_neg (by simp [e])]
 ·rw [if_neg hk]
  show _ = (if (g : Int) = z.at_ + 1 then (if (g : Int) = z.at_ then _ else _) ++ _ else (if (g : Int) = z.at_ then _ else _))
  by_cases e : (g : Int) = z.at_
  ·rw [if_neg (show ¬ (g : Int) = z.at_ + 1 by omega), if_pos e, if_pos (by rw [e]; simp), List.map_append]; rfl
  ·by_cases e2 : (g : Int) = z.at_ + 1
   ·rw [if_pos e2, if_neg e, if_pos (by rw [e2]; simp), List.map_append]; rfl
   ·rw [if_neg e2, if_neg e, if_neg (by simp [e, e2])]
theorem it_set_touch {T : List It} {a : Nat} {x : It} (h : a < T.length) (hk : x.kind = (it T a).kind) (ha : x.at_ = (it T a).at_) (g : Int) : ∀ i, i < T.length → touchT (it (T.set a x) i) g = touchT (it T i) g := fun i _ => by
  rw [it_setT h]
  by_cases e : i = a
  · subst e; rw [if_pos rfl]; unfold touchT; rw [hk, ha]
  · rw [if_neg e]
theorem phase_ext {T : List It} {G : List Bool} {a p : Nat} {x : It} (ht : topT T G (p : Int) = some a) (hG : G.length = T.length) (hk : x.kind = (it T a).kind) (ha : x.at_ = (it T a).at_) (hk1 : (it T a).kind = 1) (hp : (it T a).at_ = (p : Int)) (g : Nat) :
    stkF (T.set a x) (G.set a true) g = stepD (stkF T G) (p : Int) g := by
  have h1 := (top_spec ht).1
  unfold stkF stkZ stepD
  by_cases e : (g : Int) = (p : Int)
  · rw [if_pos e, e, stk_drop ht hG (List.length_set ..) (it_set_touch h1 hk ha _), ← e]
    simp
  · rw [if_neg e, stk_other h1 hG (List.length_set ..) (it_set_touch h1 hk ha _) (by unfold touchT; rw [hk1, hp]; exact decide_eq_false Ox)]
theorem keep_ext {T : List It} {G : List Bool} {a : Nat} {x : It} (h : a < T.length) (hk : x.kind = (it T a).kind) (ha : x.at_ = (it T a).at_) (g : Nat) : stkF (T.set a x) G g = stkF T G g := by
 unfold stkF stkZ
 rw [stk_ext (T := T) (G := G) (T' := T.set a x) (G' := G) (List.length_set ..) fun i hi => by rw [it_set_touch h hk ha _ i hi]]
theorem cross_ext {T : List It} {G : List Bool} {a p : Nat} (ht : topT T G (p : Int) = some a) (ht2 : topT T G ((p + 1 : Nat) : Int) = some a) (hG : G.length = T.length) (hp : (it T a).at_ = (p : Int)) (g : Nat) :
    stkF T (G.set a true) g = stepD (stepD (stkF T G) (p : Int)) ((p : Int) + 1) g := by
  have h1 := (top_spec ht).1
  show stkZ _ _ _ = (if (g : Int) = (p : Int) + 1 then (stepD (stkF T G) (p : Int) g).dropLast else (stepD (stkF T G) (p : Int) g))
  unfold stepD
  unfold stkF stkZ
  by_cases e : (g : Int) = (p : Int)
  · rw [if_neg Ox, if_pos e, e, stk_drop ht hG rfl fun _ _ => rfl, ← e]
    simp
  · by_cases e2 : (g : Int) = (p : Int) + 1
    · rw [if_pos e2, if_neg e, show (g : Int) = ((p + 1 : Nat) : Int) by omega, stk_drop ht2 hG rfl fun _ _ => rfl, show ((p + 1 : Nat) : Int) = (g : Int) by omega]
      simp
    · rw [if_neg e2, if_neg e, stk_other h1 hG rfl (fun _ _ => rfl) (by unfold touchT; rw [hp]; exact decide_eq_false Ox)]
theorem gs_rng {N : Nat} {z : It} (hz : fitB N z = true) (hN : N ≤ 6) : (∀ x ∈ gsT z, 1 ≤ x ∧ x < 7) ∧ (1 ≤ z.at_ ∧ z.at_ ≤ 6) ∧ (z.kind ≠ 1 → z.at_ + 1 ≤ 6) ∧ 1 ≤ (gsT z).length ∧ (gsT z).length ≤ 2 := by
 have h1 := (of_decide_eq_true hz).2.1
 have h2 : z.at_ ≤ 6 ∧ (z.kind ≠ 1 → z.at_ + 1 ≤ 6) := by
  rcases it_kind hz with ⟨k1, h5, -⟩ | ⟨k2, h5⟩
  ·exact ⟨by omega, fun h => absurd k1 h⟩
  ·exact ⟨by omega, fun _ => by omega⟩
 refine ⟨?_, ⟨h1, h2.1⟩, h2.2, ?_⟩
 ·intro x hx
  unfold gsT at hx
  split at hx
  ·simp at hx; omega
  ·rename_i hk; have := h2.2 hk; simp at hx; omega
 ·unfold gsT
  split
  ·exact ⟨by simp, by simp⟩
  ·exact ⟨by simp, by simp⟩
theorem fit_n {N : Nat} {x : It} (hx : fitB N x = true) (hk : x.kind = 1) : 1 ≤ x.n ∧ x.n ≤ 7 := by
 rcases it_kind hx with ⟨-, -, h5, h6⟩ | ⟨h5, -⟩
 ·exact ⟨h5, h6⟩
 ·omega
theorem TdI.at {N a : Nat} {T D : List It} {G : List Bool} (h : TdI N T G D) (ha : a < T.length) (hg : gnT G a = false) : fitB N (it T a) = true := h.fit _ (by rw [live_at ha hg]; simp)
theorem stkF_len (T : List It) (G : List Bool) (g : Nat) : (stkF T G g).length ≤ T.length := stk_len T G g
theorem zr_other {A C : List ZR} {x y : ZR} {g i : Nat} (hA : A.length = g) (hi : i ≠ g) : (A ++ y :: C)[i]? = (A ++ x :: C)[i]? := by
 subst hA
 rcases (by omega : i < A.length ∨ A.length + 1 ≤ i) with h | h
 ·rw [List.getElem?_append_left h, List.getElem?_append_left h]
 ·rw [List.getElem?_append_right Ox, List.getElem?_append_right Ox]
  obtain ⟨m, hm⟩ : ∃ m, i - A.length = m + 1 := ⟨i - A.length - 1, by omega⟩
  rw [hm]; rfl
section
variable {R : Option Nat} {ops : Array Oper} {Q : Exit → Act → World → Prop} {B : World} {F : List Nat} {s0 : Option (List Blk × List Blk)}
variable {l : List (Oper × Nat)} {a : Act} {s S : List Blk} {d : Option Tmp} {op : Op} {t : TypeId} {p : String} {af : Array Edge} {v : Value}
theorem rg_appB {so xo : Operand} {u S : List Blk} {xs : List Bool} {g1 : Nat} {x : Bool} {gd : Option (Nat × Bool)} (hg : Region.wanted ⟨d, .call ⟨.builtin .append, #[so, xo], #[105, 105]⟩, t, p, af, gd⟩ (yielded ops a.tmps) = true) (hs : a.eval so = v) (hown : OwnO u v xs) (hx : a.eval xo = .slice (some ⟨g1, 0, none⟩) 1 1) (hn : xs.length ≤ 1000000)
    (hp : S.Perm (u ++ ((g1, .cells #[.bool x] 4) :: s)))
    (hzz : ∀ z ∈ s0, z.1.Sublist s) (h : ∀ u' a' c', OwnO u' (.slice a' (xs ++ [x]).length c') (xs ++ [x]) → Rg R Tryz.prog ops Q B F s0 l (a.put d (.slice a' (xs ++ [x]).length c')) (u' ++ s)) :
    Rg R Tryz.prog ops Q B F s0 ((⟨d, .call ⟨.builtin .append, #[so, xo], #[105, 105]⟩, t, p, af, gd⟩, 1) :: l) a S := by
  obtain ⟨i, hi, hz, hsz, hb⟩ := info_partsN boInf
  refine rg_append (u := u) (s := (g1, .cells #[.bool x] 4) :: s) (i := i) (z := .bool false) (size := 1) (bytes := 1) (n := xs.length) (m := 1) (c := 1) (xs := boL xs) (news := [.bool x]) (ad := ⟨g1, 0, none⟩) hg
    UU105 hi hz hsz hb rfl (by decide) hs hown hx Rx ?_ (by simp [Value.oneCell']) (by simp only [maxLen]; omega) Ox hp (fun z hz => (hzz z hz).cons _) ?_
  · intro w K j y hj
    have hd := (Kn.hd0 (Kn.perm K (hp.trans List.perm_middle))).cell
    match j, hj with
    | 0, hj => simp only [List.getElem?_cons_zero, Option.some.injEq] at hj; subst hj; exact hd 0
    | j + 1, hj => simp at hj
  · intro u' v' hO _
    have hO' : OwnO u' v' (xs ++ [x]) := by
      have e : boL (xs ++ [x]) = boL xs ++ [.bool x] := by simp
      unfold OwnO
      rw [e, List.length_append]
      exact hO
    obtain ⟨a', c', rfl, -⟩ := Own.val hO'
    have := h u' a' c' hO'
    exact rg_sub (Sa (List.Sublist.cons _ (List.Sublist.refl _)) _) (fun z hz' => (hzz z hz').trans (Sr _ _)) this
end
theorem guides_any (z : It) (ha : 1 ≤ z.at_ ∧ z.at_ ≤ 6) (w : World) : Calls Tryz.prog 101 #[.agg #[.int .i64 z.kind, .int .i64 z.at_, .int .i64 z.n, .string z.name]] w fun e w' => RetZ w (gsT z).length (gsT z) e w' := by
 go_enter Tryz.func101, Tryz.ntmps101
 refine wk_start ?_
 refine wk_seq ?_
 refine Wr [1, 0] ?_
 refine Rgn fun g1 => ?_
 refine Zm ?_
 refine Zr ?_
 refine Wr [0, 0, 0] ?_
 refine Fd 0 0 UU72 ?_
 refine rf_load rfl rfl rfl UU3 rfl (fun w hw => (Kn.hd0 hw).at rfl) (Nq ?_)
 refine rfb_eql rfl rfl rfl rfl ?_
 rintro (_ | _) h1 <;> try simp only [qd, ne_eq] at h1
 ·simp only [qz]
  refine Zr ?_; refine Wr [0, 0, 0, 0, 0, 1, 0] ?_; refine Fd 0 1 UU72 ?_; refine rf_load rfl rfl rfl UU3 rfl (fun w hw => (Kn.hd0 hw).at rfl) (Nq ?_); refine Fd 0 1 UU72 ?_; refine rf_load rfl rfl rfl UU3 rfl (fun w hw => (Kn.hd0 hw).at rfl) (Nq ?_); refine rf_add rfl rfl rfl rfl (wrap_ok Ox Ox) (Nq ?_)
  refine rg_newS (cs := ?_) (ty := ?_) (n := 2) (c := 2) Rx (fun w => ?_) Nz (fun g2 => ?_); rotate_left 2
  focus (go_simp; rfl)
  refine Zm ?_; refine Zr ?_; refine ek_sub (sc _ (sk _ sn)) ?_
  refine Er fun w hw => ?_
  (try simp only [qz]); rw [show gsT z = [z.at_, z.at_ + 1] from if_neg h1]
  exact ⟨_, _, _, rfl, OwnZ.whole (xs := [z.at_, z.at_ + 1]) (by simp), hw.made (List.Sublist.refl _)⟩
 simp only [qz]
 refine Zr ?_
 refine Wr [0, 0, 1, 0] ?_
 refine Fd 0 1 UU72 ?_
 refine rf_load rfl rfl rfl UU3 rfl (fun w hw => (Kn.hd0 hw).at rfl) (Nq ?_)
 refine rg_newS (cs := ?_) (ty := ?_) (n := 1) (c := 1) Rx (fun w => ?_) Nz (fun g3 => ?_); rotate_left 2
 focus (go_simp; rfl)
 refine Zm ?_
 refine Zr ?_
 refine ek_sub (sc _ (sk _ sn)) ?_
 refine Er fun w hw => ?_
 (try simp only [qz])
 rw [show gsT z = [z.at_] from if_pos h1]
 exact ⟨_, _, _, rfl, OwnZ.whole (xs := [z.at_]) (by simp), hw.made (List.Sublist.refl _)⟩
theorem top_yes (gw g : Nat) (T : List It) (G : List Bool) (f : Nat → List Int) (s : List Blk) (hS : TS gw T G f s) (h1 : 1 ≤ g) (h7 : g < 7) (ys : List Int) (a : Int) (hf : f g = ys ++ [a]) (hyl : ys.length ≤ 100000) (w : World) (hK : Kn w (s.map (·.1)) s w) : Calls Tryz.prog 102 #[.pointer (some ⟨gw, 0, none⟩), .int .i64 (g : Int)] w fun e w' => e = .returned (.int .i64 a) ∧ Below w.heap.size w w' := by
 obtain ⟨ia, ga, ic, gc, uT, uG, A, C, gx, cx, rx, hse, hA, hl7, hOT, hOG, hZ, hst, hcx, hOx⟩ := hS.atS h1 h7 hf
 go_enter Tryz.func102, Tryz.ntmps102
 refine wk_startF (Kn.to hse hK.nil') ?_
 refine wk_seq ?_
 refine Wm [0] ?_
 refine Zr ?_
 refine Wm [0, 0, 0, 0, 0, 0, 0] ?_
 refine Zk ?_
 refine Fd 6 2 UU108 ?_
 refine rf_indexA (n := g) (sz := 1) (j := 2 + g * 1) rfl rfl rfl rfl UU106 Kx Ox rfl (Nq ?_)
 refine rf_load (v := .slice (some ⟨gx, 0, none⟩) (ys.length + 1) cx) rfl rfl rfl UU23 rfl (fun w hw => ((Kn.hd0 hw).cell _).trans ((zrV_get hA _ _).trans (by unfold ZR.val; rw [List.length_append]; rfl))) (Zm ?_)
 refine Zr ?_
 refine Wm [0, 0, 0] ?_
 refine rf_len rfl rfl rfl UU23 (Nq ?_)
 refine rfb_gtr rfl rfl rfl rfl ?_
 intro x h1
 obtain rfl : x = true := by (refine h1.symm.trans ?_; exact decide_eq_true Ox)
 clear h1
 simp only [qz]
 refine Zr ?_
 refine Wm [0, 0, 0, 0, 0, 0, 0] ?_
 refine rf_len rfl rfl rfl UU23 (Nq ?_)
 refine rf_sub (r := (ys.length : Int)) rfl rfl rfl rfl (wrap_eqB Ox Ox Ox) (Nq ?_)
 refine rf_indexS (n := ys.length) (sz := 1) (j := ys.length) rfl rfl rfl rfl UU23 Kx Ox Ox Ox (Nq ?_)
 refine rf_load (v := .int .i64 a) rfl rfl rfl UU3 rfl (fun w hw => ((Kn.hd0 (Kn.tlU (Kn.tlU (Kn.tlU (Kn.tl hw))))).cell _).trans zs_last) (Zm ?_)
 refine Zr ?_
 refine Er fun w hw => ?_
 (try simp only [qz])
 exact ⟨(by first | rfl | trivial), hK.same (Kn.of_nil (hw.to hse.symm))⟩
theorem top_no (gw g : Nat) (T : List It) (G : List Bool) (f : Nat → List Int) (s : List Blk) (hS : TS gw T G f s) (h1 : 1 ≤ g) (h7 : g < 7) (hf : f g = []) (w : World) (hK : Kn w (s.map (·.1)) s w) : Calls Tryz.prog 102 #[.pointer (some ⟨gw, 0, none⟩), .int .i64 (g : Int)] w fun e w' => e = .returned (.int .i64 (-1)) ∧ Below w.heap.size w w' := by
 obtain ⟨ia, ga, ic, gc, uT, uG, A, x, C, hse, hA, hl7, hOT, hOG, hZ, hst, hOx, hxl⟩ := hS.at h1 h7
 have hx0 : x.l = [] := hxl.trans hf
 go_enter Tryz.func102, Tryz.ntmps102
 refine wk_startF (Kn.to hse hK.nil') ?_
 refine wk_seq ?_
 refine Wm [0] ?_
 refine Zr ?_
 refine Wm [0, 0, 0, 0, 0, 0, 0] ?_
 refine Zk ?_
 refine Fd 6 2 UU108 ?_
 refine rf_indexA (n := g) (sz := 1) (j := 2 + g * 1) rfl rfl rfl rfl UU106 Kx Ox rfl (Nq ?_)
 refine rf_load (v := .slice x.a 0 x.c) rfl rfl rfl UU23 rfl (fun w hw => ((Kn.hd0 hw).cell _).trans ((zrV_get hA _ _).trans (by unfold ZR.val; rw [hx0]; rfl))) (Zm ?_)
 refine Zr ?_
 refine Wm [0, 0, 0] ?_
 refine rf_len rfl rfl rfl UU23 (Nq ?_)
 refine rf_gtr (b := false) rfl rfl rfl rfl (by decide) (Nq ?_)
 refine Zr ?_
 refine Wm [0] ?_
 refine Zr ?_
 refine Er fun w hw => ?_
 (try simp only [qz])
 exact ⟨(by first | rfl | trivial), hK.same (Kn.of_nil (hw.to hse.symm))⟩
theorem top_any (gw g : Nat) (T : List It) (G : List Bool) (f : Nat → List Int) (s : List Blk) (hS : TS gw T G f s) (h1 : 1 ≤ g) (h7 : g < 7) (hl : (f g).length ≤ 100000) (w : World) (hK : Kn w (s.map (·.1)) s w) : Calls Tryz.prog 102 #[.pointer (some ⟨gw, 0, none⟩), .int .i64 (g : Int)] w fun e w' => e = .returned (.int .i64 (lastI (f g))) ∧ Below w.heap.size w w' := by
 rcases (f g).eq_nil_or_concat with h | ⟨ys, a, h⟩
 ·rw [h]; exact top_no gw g T G f s hS h1 h7 h w hK
 rw [List.concat_eq_append] at h
 rw [h, List.length_append] at hl
 have e : lastI (f g) = a := by unfold lastI; rw [h, List.getLast?_append]; rfl
 rw [e]; exact top_yes gw g T G f s hS h1 h7 ys a h Ox w hK
theorem drop_any (gw a gg cg : Nat) (T : List It) (G : List Bool) (fs : Nat → List Int) (s : List Blk) (gl : List Int) (rg : List Value) (hS : TS gw T G fs s) (ha : a < G.length) (hG : G.length ≤ 100000) (hgl : ∀ x ∈ gl, 1 ≤ x ∧ x < 7) (hg6 : gl.length ≤ 100) (hcg : gl.length ≤ cg) (hne : ∀ k (g : Nat), gl[k]? = some (g : Int) → ((gl.take k).foldl stepD fs) g ≠ []) (hlen : ∀ k (g : Nat), gl[k]? = some (g : Int) → (((gl.take k).foldl stepD fs) g).length ≤ 100000) (w : World) (hK : Kn w (((gg, .cells (zs gl ++ rg).toArray 3) :: s).map (·.1)) ((gg, .cells (zs gl ++ rg).toArray 3) :: s) w) : Calls Tryz.prog 103 #[.pointer (some ⟨gw, 0, none⟩), .int .i64 (a : Int), .slice (some ⟨gg, 0, none⟩) gl.length cg] w fun e w' => e = .returned (.tuple #[]) ∧ ∃ s', Kn w (((gg, .cells (zs gl ++ rg).toArray 3) :: s).map (·.1)) ((gg, .cells (zs gl ++ rg).toArray 3) :: s') w' ∧ TS gw T (G.set a true) (gl.foldl stepD fs) s' := by
 obtain ⟨ia, ga, ic, gc, uT, uG, rs, hse, hrl, hOT, hOG, hZ, hst⟩ := hS.ex
 obtain ⟨go, cgo, ro, rfl, hv, hOG'⟩ := hOG.openG Ox
 cases hv
 subst hse
 go_enter Tryz.func103, Tryz.ntmps103
 refine wk_startF hK ?_
 refine wk_seq ?_
 refine Wm [0, 0, 0, 0, 0, 0, 1] ?_
 refine Zk ?_
 refine Fd 0 1 UU108 ?_
 refine rf_load (v := .slice (some ⟨go, 0, none⟩) G.length gc) rfl rfl rfl UU105 rfl (fun w hw => ((Kn.hd0 (Kn.tl hw)).cell 1).trans rfl) (Zm ?_)
 refine rf_indexS (n := a) (sz := 1) (j := a) rfl rfl rfl rfl UU105 Kx Ox Ox Ox (Nq ?_)
 have hszO := bo_sz (ro := ro) ha true
 refine rf_store rfl rfl Kx rfl rfl (UpdR.there _ (UpdR.there _ (UpdR.app _ (UpdR.here _ _ _ hszO)))) Nz (Nq ?_)
 rw [bo_set ha]
 refine rg_nil (ek_next (wk_seq ?_))
 obtain ⟨S1, hS1⟩ : ∃ S1 : List Blk, S1 = (gw, .cells (tdV T (G.set a true) ia (some ⟨go, 0, none⟩) ic gc rs).toArray 108) :: (uT ++ ((go, .cells (boL (G.set a true) ++ ro).toArray 4) :: (zrB rs ++ []))) := ⟨_, rfl⟩
 have hT1 : TS gw T (G.set a true) fs S1 := ⟨ia, _, ic, gc, uT, _, rs, hS1, hrl, hOT, hOG' _ (by simp), hZ, hst⟩
 have hsl : (G.set a true).length = G.length := List.length_set ..
 rw [show tdV T G ia (some ⟨go, 0, none⟩) ic gc rs = tdV T (G.set a true) ia (some ⟨go, 0, none⟩) ic gc rs from congrArg (fun k => Value.slice ia T.length ic :: Value.slice (some ⟨go, 0, none⟩) k gc :: zrV rs) hsl.symm]
 refine wk_perm (s' := (gg, .cells (zs gl ++ rg).toArray 3) :: (S1 ++ [])) (List.Perm.of_eq (by rw [List.append_nil S1, hS1]; try rfl)) ?_
 refine Wm [0, 0, 0] ?_
 refine rf_len rfl rfl rfl UU23 (Zm ?_)
 refine Zr ?_
 refine wk_loopF [7, 16, 17, 18, 19, 20, 21, 22, 23, 24, 25, 26, 27, 28, 29, 30, 31, 32, 33, 34, 35, 36, 37, 38, 39, 40] (fun mz f s => ∃ (k : Nat) (uV : List Blk), f 16 = .int .i64 k ∧ s = ((gg, .cells (zs gl ++ rg).toArray 3) :: (uV ++ [])) ∧ mz = gl.length - k ∧ k ≤ gl.length ∧ TS gw T (G.set a true) ((gl.take k).foldl stepD fs) uV) ((fun (k : Nat) (uV : List Blk) => gl.length - k) (0) (S1)) ?_ Kx ?_
 ·exact ⟨0, S1, rfl, rfl, rfl, by omega, hT1⟩
 rintro mz f1 s ⟨k, uV, hs1_16, rfl, hn, hd1, hd2⟩
 simp only [Act.putF, List.foldl_cons, List.foldl_nil, hs1_16, Act.put, Act.eval, qW, Nat.reduceAdd, Bool.not_true, Bool.not_false]
 clear hs1_16
 refine wk_seq ?_
 refine Wr [0] ?_
 refine rfb_lss rfl rfl rfl rfl ?_
 rintro (_ | _) h1 <;> try simp only [qd, ne_eq] at h1
 ·simp only [qz]
  refine rg_nil (ek_next (wk_seq (wk_cond_f rfl (wk_exit (ek_then_exit (ek_then_exit (ek_block_exit ?_))))))); refine ek_norm (fun w hw => ⟨rfl, _, res_0 rfl, ?_⟩); (try simp only [qz])
  obtain rfl : k = gl.length := by omega
  rw [List.take_length] at hd2
  exact ⟨(by first | rfl | trivial), _, Kn.to (by rw [List.append_nil]) hw, hd2⟩
 simp only [qz]
 refine rg_nil (ek_next (wk_seq (wk_cond_t rfl (wk_skip (ek_next (wk_seq (wk_block (wk_seq ?_))))))))
 obtain ⟨g, hgk, hg1, hg7⟩ : ∃ g : Nat, gl[k]? = some (g : Int) ∧ 1 ≤ g ∧ g < 7 := by
  have hkl : k < gl.length := by omega
  have h2 := hgl _ (List.getElem_mem hkl)
  exact ⟨gl[k].toNat, by rw [List.getElem?_eq_getElem hkl, Int.toNat_of_nonneg Ox], by omega, by omega⟩
 obtain ⟨ys, a1, hF⟩ : ∃ ys a1, ((gl.take k).foldl stepD fs) g = ys ++ [a1] := by
  rcases (((gl.take k).foldl stepD fs) g).eq_nil_or_concat with h | ⟨ys, a1, h⟩
  ·exact absurd h (hne k g hgk)
  ·exact ⟨ys, a1, h.trans List.concat_eq_append⟩
 refine Wr [0, 0, 0] ?_
 refine rf_indexS (n := k) (sz := 1) (j := k) rfl rfl rfl rfl UU23 Kx Ox Ox Ox (Nq ?_)
 refine rf_load (v := .int .i64 (g : Int)) rfl rfl rfl UU3 rfl (fun w hw => ((Kn.hd0 hw).cell _).trans (zs_at hgk)) (Zm ?_)
 refine rg_nil (ek_next ?_)
 have hyl := hlen k g hgk
 rw [hF, List.length_append] at hyl
 have hyl' : ys.length ≤ 100000 := by omega
 obtain ⟨ia, ga, ic, gc, uT, uG, A, C, gx, cx, rx, hse, hA, hl7, hOT, hOG, hZ, hst, hcx, hOx⟩ := hd2.atS hg1 hg7 hF
 rw [hse]
 refine wk_draws_m (hz1 := (sc _ (sk _ (Sa (Sa (Sa (sc _ (Sa sn _)) _) _) _)))) [(0, 0), (1, 0), (2, 0), (3, 0), (4, 0), (5, 0), (6, 0), (7, 0), (8, 0), (9, 0), (10, 0), (11, 0), (12, 0), (13, 0), (14, 0), (15, 0), (16, 0), (17, 3), (18, 3), (19, 0), (20, 2)] 20 Kx Kx (fun c d v a w h => by cases d <;> exact h) ?_
 simp only [List.map_cons, List.map_nil, List.getD_cons_zero, List.getD_cons_succ]
 refine Zm ?_
 refine Zk ?_
 refine Fd 6 2 UU108 ?_
 refine rf_indexA (n := g) (sz := 1) (j := 2 + g * 1) rfl rfl rfl rfl UU106 Kx Ox rfl (Nq ?_)
 refine rf_load (v := .slice (some ⟨gx, 0, none⟩) (ys.length + 1) cx) rfl rfl rfl UU23 rfl (fun w hw => ((Kn.hd0 (Kn.tl hw)).cell _).trans ((zrV_get hA _ _).trans (by unfold ZR.val; rw [List.length_append]; rfl))) (Zm ?_)
 refine Zk ?_
 refine Fd 6 2 UU108 ?_
 refine rf_indexA (n := g) (sz := 1) (j := 2 + g * 1) rfl rfl rfl rfl UU106 Kx Ox rfl (Nq ?_)
 refine rf_load (v := .slice (some ⟨gx, 0, none⟩) (ys.length + 1) cx) rfl rfl rfl UU23 rfl (fun w hw => ((Kn.hd0 (Kn.tl hw)).cell _).trans ((zrV_get hA _ _).trans (by unfold ZR.val; rw [List.length_append]; rfl))) (Nq ?_)
 refine rf_len rfl rfl rfl UU23 (Nq ?_)
 refine rf_sub (r := (ys.length : Int)) rfl rfl rfl rfl (wrap_eqB Ox Ox Ox) (Nq ?_)
 refine rf_sliceTo (n := ys.length) (sz := 1) rfl rfl rfl rfl UU23 Kx rfl Ox (Nq ?_)
 apply rg_softP
 case hy => (intro w hw; exact Gy)
 simp only [qz]
 refine Fd 6 2 UU108 ?_
 refine rf_indexA (n := g) (sz := 1) (j := 2 + g * 1) rfl rfl rfl rfl UU106 Kx Ox rfl (Nq ?_)
 have hszT := td_sz (T := T) (G := G) (ia := ia) (ga := ga) (ic := ic) (gc := gc) (hl7 ⟨some ⟨gx, 0, none⟩, cx, [(gx, .cells (zs (ys ++ [a1]) ++ rx).toArray 3)], ys ++ [a1]⟩) hg7 (.slice (some ⟨gx, 0, none⟩) ys.length cx)
 refine rf_storeM rfl rfl Kx rfl rfl (UpdR.there _ (UpdR.here _ _ _ hszT)) (sc _ (sk _ (Sa (Sa (Sa (sc _ (Sa sn _)) _) _) _))) (Nq ?_)
 rw [td_set (y := ⟨some ⟨gx, 0, none⟩, cx, [(gx, .cells (zs (ys ++ [a1]) ++ rx).toArray 3)], ys⟩) (v := .slice (some ⟨gx, 0, none⟩) ys.length cx) hA rfl]
 refine Zr ?_
 refine Wr [0, 0] ?_
 refine rf_add rfl rfl rfl rfl (wrap_ok Ox Ox) (Zm ?_)
 refine rg_nil ?_
 obtain ⟨S2, hS2⟩ : ∃ S2 : List Blk, S2 = (gw, .cells (tdV T (G.set a true) ia ga ic gc (A ++ ⟨some ⟨gx, 0, none⟩, cx, [(gx, .cells (zs (ys ++ [a1]) ++ rx).toArray 3)], ys⟩ :: C)).toArray 108) :: (uT ++ (uG ++ (zrB A ++ ((gx, .cells (zs (ys ++ [a1]) ++ rx).toArray 3) :: (zrB C ++ []))))) := ⟨_, rfl⟩
 have hT2 : TS gw T (G.set a true) (stepD ((gl.take k).foldl stepD fs) g) S2 := by
  rw [hS2]
  exact TS.put (y := ⟨some ⟨gx, 0, none⟩, cx, [(gx, .cells (zs (ys ++ [a1]) ++ rx).toArray 3)], ys⟩) hA (hl7 _) hOT hOG hZ (hst _) hOx (by show ys = if ((g : Nat) : Int) = (g : Int) then (((gl.take k).foldl stepD fs) g).dropLast else _; rw [if_pos rfl, hF, List.dropLast_concat]) (fun i hi => by show (if ((i : Nat) : Int) = (g : Int) then _ else _) = _; rw [if_neg Ox])
 rw [← foldl_takeS (st := stepD) (f := fs) hgk] at hT2
 refine ek_perm (s' := (gg, .cells (zs gl ++ rg).toArray 3) :: (S2 ++ [])) (List.Perm.of_eq (by rw [List.append_nil S2, hS2]; try rfl)) ?_
 refine ek_roundF (gl.length - (k + 1)) Ox Kx ?_
 exact ⟨k + 1, S2, rfl, by rfl, by rfl, by omega, hT2⟩
theorem put_any (N gw p : Nat) (T D : List It) (G : List Bool) (S0 : List Blk) (z : It) (hS : TS gw T G (stkF T G) S0) (hI : TdI N T G D) (hz : fitB N z = true) (hN : N ≤ 6) (hD : D.length ≤ 5000) (hpH : Hid (z.at_ = (p : Int))) (w : World) (hK : Kn w (S0.map (·.1)) S0 w) : Calls Tryz.prog 61 #[.pointer (some ⟨gw, 0, none⟩), .agg #[.int .i64 z.kind, .int .i64 z.at_, .int .i64 z.n, .string z.name]] w fun e w' => e = .returned (.tuple #[]) ∧ ∃ s', Kn w (S0.map (·.1)) s' w' ∧ ∃ T' G', TS gw T' G' (stkF T' G') s' ∧ TdI N T' G' (D ++ [z]) := by
 obtain ⟨hgr, hat, hgk1, hgn, hgn2⟩ := gs_rng hz hN
 have htl := hI.tl
 have hlF : ∀ g, (stkF T G g).length ≤ 5000 := fun g => Nat.le_trans (stkF_len T G g) Ox
 have hg0 : (gsT z)[0]? = some (p : Int) := by unfold gsT; split <;> rw [hpH.out] <;> rfl
 have hp6 : 1 ≤ p ∧ p ≤ 6 := by have := hpH.out; omega
 go_enter Tryz.func61, Tryz.ntmps61
 refine wk_startF hK.nil' ?_
 refine wk_seq ?_
 refine Wr [1] ?_
 refine Rgn fun g1 => ?_
 simp only [qz]
 refine Zr ?_
 refine Wr [0, 1, 0] ?_
 refine rf_loadR (n := 4) (vs := [.int .i64 z.kind, .int .i64 z.at_, .int .i64 z.n, .string z.name]) rfl rfl rfl UU72 rfl Kx (fun w hw => Kn.hd0 hw) rfl rfl (Nq ?_)
 apply (rg_retZ (n := (gsT z).length) (L := gsT z)) Rx Kx
 case hargs => exact Ax
 case h => exact fun w hw => guides_any z hat w
 case hz => exact Nz
 intro gg cg uG0 hOg
 obtain ⟨_, _, eg, hcg⟩ := Own.val hOg
 cases eg
 obtain ⟨_, _, rg, rfl, hvg, -⟩ := Own.open1 hOg Ox
 cases hvg
 refine Zx ?_
 refine Zr ?_
 refine Wx [0, 0, 0, 0, 1, 0] ?_
 refine rf_indexS (n := 0) (sz := 1) (j := 0) rfl rfl rfl rfl UU23 Kx Ox Ox Ox (Nq ?_)
 refine rf_load (v := .int .i64 (p : Int)) rfl rfl rfl UU3 rfl (fun w hw => ((Kn.hd0 hw).cell _).trans (zs_at hg0)) (Nq ?_)
 apply rg_pure Rx Kx
 case hargs => exact Ax
 case h => exact fun w hw => top_any gw p T G (stkF T G) S0 hS Ox Ox (by have := hlF p; omega) w (Kn.part (perm_atU (l := [_, _]) (u := S0) (List.Perm.refl _)) hw)
 case hz => exact Nz
 refine Zx ?_
 refine rg_nil (ek_next ?_)
 refine wk_cutF [15, 16, 17, 18, 19, 20, 21, 22, 23, 24, 25, 26, 27, 28, 29, 30, 31, 32, 33, 34, 35, 36, 37, 38, 39, 40, 41, 42, 43, 44, 45, 46, 47, 48, 49, 50, 51, 52, 53, 54, 55, 56, 57, 58, 59, 60, 61, 62, 63, 64, 65, 66, 67, 68, 69, 70, 71, 72, 73, 74, 75, 76, 77, 78, 79, 80, 81, 82, 83, 84, 85, 86, 87, 88, 89, 90, 91, 92, 93, 94, 95] (fun f s => s = ((gg, .cells (zs (gsT z) ++ rg).toArray 3) :: ((g1, .cells #[.int .i64 z.kind, .int .i64 z.at_, .int .i64 z.n, .string z.name] 72) :: (S0 ++ [])))) ?_ ?_
 ·refine wk_seq ?_
  rcases last_top T G p with ⟨ht, he⟩ | ⟨a, ht, he⟩
  ·rw [he]
   refine wk_draws _ _ [(0, 0), (1, 0), (2, 0), (3, 0), (4, 0), (5, 0), (6, 0), (7, 0), (8, 0), (9, 0), (10, 0), (11, 0), (12, 0), (13, 0), (14, 0), (15, 0), (16, 0), (17, 0), (18, 0), (19, 0), (20, 0), (21, 0), (22, 0), (23, 0), (24, 0), (25, 0), (26, 0), (27, 0)] [] Kx Kx (fun c d v a w h => by cases d <;> exact h) ((sc _ (sc _ (Sa sn _)))) (fun e => by first | exact absurd e (by decide) | rfl) ?_; simp only [List.map_cons, List.map_nil, List.getD_cons_zero, List.getD_cons_succ]
   refine Zx ?_; refine rf_geq (b := false) rfl rfl rfl rfl (by decide) (Zx ?_); refine rg_nil (ek_next (wk_cond_f rfl (wk_skip ?_))); refine ek_midF Kx ?_
   exact Rx
  rw [he]
  obtain ⟨h1a, hga, -, -, -⟩ := top_spec ht
  have hfa := hI.at h1a hga
  obtain ⟨ia, ga, ic, gc, uT, uG, rs, hs0, hrl, hOT, hOG, hZ, hst⟩ := hS.ex
  obtain ⟨_, _, eI, hcI⟩ := Own.val hOT
  cases eI
  obtain ⟨gI, cI, rI, rfl, hvI, hOT'⟩ := hOT.openG Ox
  cases hvI
  have hse : S0 ++ [] = (gw, .cells (tdV T G (some ⟨gI, 0, none⟩) ga ic gc rs).toArray 108) :: (gI, .cells (its T ++ rI).toArray 72) :: (uG ++ (zrB rs ++ [])) := (List.append_nil S0).trans hs0
  rw [hse]; refine wk_draws _ _ [(0, 0), (1, 0), (2, 0), (3, 0), (4, 0), (5, 0), (6, 0), (7, 0), (8, 0), (9, 0), (10, 0), (11, 0), (12, 0), (13, 0), (14, 0), (15, 0), (16, 0), (17, 0), (18, 0), (19, 0), (20, 0), (21, 0), (22, 0), (23, 0), (24, 0), (25, 0), (26, 0), (27, 0)] [] Kx Kx (fun c d v a w h => by cases d <;> exact h) ((sc _ (sc _ (sc _ (sc _ (Sa (Sa sn _) _)))))) (fun e => by first | exact absurd e (by decide) | rfl) ?_
  simp only [List.map_cons, List.map_nil, List.getD_cons_zero, List.getD_cons_succ]; refine Zx ?_; refine rfb_geq rfl rfl rfl rfl ?_; intro x h1
  obtain rfl : x = true := by (refine h1.symm.trans ?_; exact decide_eq_true Ox)
  clear h1; refine Zx ?_; apply rg_soft_g
  case hg => rfl
  case hy => (intro w hw; exact Gy)
  simp only [qz]; apply rg_soft_g
  case hg => rfl
  case hy => (intro w hw; exact Gy)
  simp only [qz]; refine Fd 0 0 UU108 ?_; refine rf_load (v := .slice (some ⟨gI, 0, none⟩) T.length ic) rfl rfl rfl UU22 rfl (fun w hw => ((Kn.hd0 (Kn.tl (Kn.tl hw))).cell 0).trans rfl) (Nq ?_); apply rg_soft_g
  case hg => rfl
  case hy => (intro w hw; exact Gy)
  simp only [qz]; refine rf_indexS (n := a) (sz := 4) (j := 0 + a * 4) rfl rfl rfl rfl UU22 Kx Ox Ox rfl (Nq ?_); refine rf_field (n := 0) (j := 0 + a * 4 + 0) rfl rfl rfl UU72 rfl Kx rfl (Nq ?_); refine rf_load (v := .int .i64 (it T a).kind) rfl rfl rfl UU3 rfl (fun w hw => ((Kn.hd0 (Kn.tl (Kn.tl (Kn.tl hw)))).cell _).trans ((its_cell (T := T) (r := 0) h1a Ox).trans rfl)) (Nq ?_)
  refine Fd 0 0 UU72 ?_; refine rf_load rfl rfl rfl UU3 rfl (fun w hw => (Kn.hd0 (Kn.tl hw)).at rfl) (Nq ?_); refine rfb_eql rfl rfl rfl rfl ?_
  rintro (_ | _) h2 <;> try simp only [qd, ne_eq] at h2
  ·refine Zx ?_
   refine rg_nil (ek_next (wk_cond_f rfl (wk_skip ?_))); rw [← hse]; refine ek_midF Kx ?_
   exact Rx
  refine Zx ?_; apply rg_soft_g
  case hg => rfl
  case hy => (intro w hw; exact Gy)
  simp only [qz]; apply rg_soft_g
  case hg => rfl
  case hy => (intro w hw; exact Gy)
  simp only [qz]; refine Fd 0 0 UU108 ?_; refine rf_load (v := .slice (some ⟨gI, 0, none⟩) T.length ic) rfl rfl rfl UU22 rfl (fun w hw => ((Kn.hd0 (Kn.tl (Kn.tl hw))).cell 0).trans rfl) (Nq ?_); apply rg_soft_g
  case hg => rfl
  case hy => (intro w hw; exact Gy)
  simp only [qz]; refine rf_indexS (n := a) (sz := 4) (j := 0 + a * 4) rfl rfl rfl rfl UU22 Kx Ox Ox rfl (Nq ?_); refine rf_field (n := 0) (j := 0 + a * 4 + 1) rfl rfl rfl UU72 rfl Kx rfl (Nq ?_); refine rf_load (v := .int .i64 (it T a).at_) rfl rfl rfl UU3 rfl (fun w hw => ((Kn.hd0 (Kn.tl (Kn.tl (Kn.tl hw)))).cell _).trans ((its_cell (T := T) (r := 1) h1a Ox).trans rfl)) (Nq ?_)
  refine Fd 0 1 UU72 ?_; refine rf_load rfl rfl rfl UU3 rfl (fun w hw => (Kn.hd0 (Kn.tl hw)).at rfl) (Nq ?_); refine rfb_eql rfl rfl rfl rfl ?_
  rintro (_ | _) h3 <;> try simp only [qd, ne_eq] at h3
  ·refine Zx ?_
   refine rg_nil (ek_next (wk_cond_f rfl (wk_skip ?_))); rw [← hse]; refine ek_midF Kx ?_
   exact Rx
  refine Zx ?_; refine Zr ?_
  have hka : (it T a).kind = z.kind := by omega
  have hpa : (it T a).at_ = z.at_ := by omega
  have hgL := hI.len
  refine Wr [0, 0, 0, 0] ?_; refine Fd 0 0 UU72 ?_; refine rf_load rfl rfl rfl UU3 rfl (fun w hw => (Kn.hd0 (Kn.tl hw)).at rfl) (Nq ?_); refine rfb_eql rfl rfl rfl rfl ?_
  rintro (_ | _) h4 <;> try simp only [qd, ne_eq] at h4
  ·refine Zx ?_
   refine Zr ?_
   have hk1 : ¬ z.kind = 1 := by omega
   have hgs2 : gsT z = [z.at_, z.at_ + 1] := if_neg hk1
   have hgl2 : (gsT z).length = 2 := by rw [hgs2]; rfl
   have hg1' : (gsT z)[1]? = some (((p + 1 : Nat) : Nat) : Int) := by rw [hgs2, hpH.out]; rfl
   have hp7 : p + 1 ≤ 6 := by have := hpH.out; have := hgk1 hk1; omega
   rw [← hse]; refine Wr [0, 0, 0, 0, 0, 0, 0, 0, 1, 0, 0, 0, 0] ?_; refine Fd 0 0 UU72 ?_; refine rf_load rfl rfl rfl UU3 rfl (fun w hw => (Kn.hd0 (Kn.tl hw)).at rfl) (Nq ?_); refine rfb_eql rfl rfl rfl rfl ?_
   rintro (_ | _) h5 <;> try simp only [qd, ne_eq] at h5
   ·refine Zx ?_
    refine rg_skip_h Rx Nz ?_; refine Zx ?_; refine rg_nil (ek_next (wk_cond_f rfl (wk_skip (ek_block ?_)))); refine ek_midF Kx ?_
    exact Rx
   refine Zx ?_; apply rg_soft_g
   case hg => rfl
   case hy => (intro w hw; exact Gy)
   simp only [qz]; apply rg_soft_g
   case hg => rfl
   case hy => (intro w hw; exact Gy)
   simp only [qz]; refine rf_indexS (n := 1) (sz := 1) (j := 1) rfl rfl rfl rfl UU23 Kx Ox Ox Ox (Nq ?_); refine rf_load (v := .int .i64 ((p + 1 : Nat) : Int)) rfl rfl rfl UU3 rfl (fun w hw => ((Kn.hd0 hw).cell _).trans (zs_at hg1')) (Nq ?_); apply rg_pure Rx Kx
   case hargs => exact Ax
   case h => exact fun w hw => top_any gw (p + 1) T G (stkF T G) S0 hS Ox Ox (by have := hlF (p + 1); omega) w (Kn.part (perm_atU (l := [_, _]) (u := S0) (List.Perm.refl _)) hw)
   case hz => exact Nz
   simp only [qz]; apply rg_soft_g
   case hg => rfl
   case hy => (intro w hw; exact Gy)
   simp only [qz]; refine rfb_eql rfl rfl rfl rfl ?_
   rintro (_ | _) h6 <;> try simp only [qd, ne_eq] at h6
   ·refine Zx ?_
    refine rg_nil (ek_next (wk_cond_f rfl (wk_skip (ek_block ?_)))); refine ek_midF Kx ?_
    exact Rx
   refine Zx ?_; refine Zr ?_
   have hgs3 : gsT z = [(p : Int), (p : Int) + 1] := by rw [hgs2, hpH.out]
   have ht2 : topT T G ((p + 1 : Nat) : Int) = some a := last_eq Ox
   refine Wx [0, 0, 0, 1] ?_
   have hpre := drop_pre (f := stkF T G) (gl := gsT z) (p := p) (B := 5000) (.inr hgs3) (stk_ne ht) (fun _ => stk_ne ht2) hlF
   refine rg_eff (T := fun vb => ∃ S2, vb = (gg, .cells (zs (gsT z) ++ rg).toArray 3) :: S2 ∧ TS gw T (G.set a true) ((gsT z).foldl stepD (stkF T G)) S2) (vb := (gg, .cells (zs (gsT z) ++ rg).toArray 3) :: S0) (rest := [(g1, .cells #[.int .i64 z.kind, .int .i64 z.at_, .int .i64 z.n, .string z.name] 72)]) Rx Kx (by simp only [qm, qs, Act.eval]; try rfl) ((perm_atU (l := [_]) (u := S0) (List.Perm.refl _)).cons _) (fun w hw => (drop_any gw a gg cg T G (stkF T G) S0 (gsT z) rg hS Ox Ox hgr Ox Ox hpre.1 (fun k g hk => Nat.le_trans (hpre.2 k g hk) Ox) w hw).mono fun e w' ⟨e1, s2, e2, e3⟩ => ⟨e1, _, e2, s2, rfl, e3⟩) (fun vb hvb => ?_)
   obtain ⟨S2, rfl, hT2⟩ := hvb
   simp only [qz]; refine Zr ?_; refine ek_ret (fun w hw => ⟨rfl, _, res_0 rfl, ?_⟩); (try simp only [qz])
   have hk3 : z.kind = 3 := by omega
   have hJ := hI.cross hz (by rw [hpH.out]; exact ht : topT T G z.at_ = some a) (by rw [hpH.out]; exact ht2) hk3 (hka.trans hk3) hpa
   rw [hgs3] at hT2
   exact ⟨(by first | rfl | trivial), S2, hw.sub (List.Sublist.cons _ (List.sublist_append_left _ _)), _, _, hT2.ext (fun g _ => cross_ext ht ht2 hI.len (hpa.trans hpH.out) g), hJ⟩
  refine Zx ?_; refine Zr ?_
  have hk1 : z.kind = 1 := by omega
  have hk2 : (it T a).kind = 1 := by omega
  obtain ⟨n1, n2⟩ := fit_n hfa hk2
  obtain ⟨n3, n4⟩ := fit_n hz hk1
  have hgs1 : gsT z = [(p : Int)] := by unfold gsT; rw [if_pos hk1, hpH.out]
  refine wk_drawsT_m (hz1 := (sc _ (sc _ (sc _ (sk _ (Sa (Sa sn _) _)))))) [(0, 0), (1, 0), (2, 0), (3, 0), (4, 0), (5, 0), (6, 0), (7, 0), (8, 0), (9, 0), (10, 0), (11, 0), (12, 0), (13, 0), (14, 0), (15, 0), (16, 0), (17, 0), (18, 0), (19, 2)] 19 Kx Kx (fun c d v a w h => by cases d <;> exact h) ?_; simp only [List.map_cons, List.map_nil, List.getD_cons_zero, List.getD_cons_succ]; refine Zx ?_; refine Zk ?_
  refine Fd 0 0 UU108 ?_; refine rf_load (v := .slice (some ⟨gI, 0, none⟩) T.length ic) rfl rfl rfl UU22 rfl (fun w hw => ((Kn.hd0 (Kn.tl (Kn.tl hw))).cell 0).trans rfl) (Zx ?_); refine Zk ?_; refine Fd 0 0 UU108 ?_; refine rf_load (v := .slice (some ⟨gI, 0, none⟩) T.length ic) rfl rfl rfl UU22 rfl (fun w hw => ((Kn.hd0 (Kn.tl (Kn.tl hw))).cell 0).trans rfl) (Zx ?_)
  refine rf_indexS (n := a) (sz := 4) (j := 0 + a * 4) rfl rfl rfl rfl UU22 Kx Ox Ox rfl (Nq ?_); refine rf_field (n := 0) (j := 0 + a * 4 + 2) rfl rfl rfl UU72 rfl Kx rfl (Nq ?_); refine rf_load (v := .int .i64 (it T a).n) rfl rfl rfl UU3 rfl (fun w hw => ((Kn.hd0 (Kn.tl (Kn.tl (Kn.tl hw)))).cell _).trans ((its_cell (T := T) (r := 2) h1a Ox).trans rfl)) (Nq ?_); refine Fd 0 2 UU72 ?_
  refine rf_load rfl rfl rfl UU3 rfl (fun w hw => (Kn.hd0 (Kn.tl hw)).at rfl) (Nq ?_); refine rf_add rfl rfl rfl rfl (wrap_ok Ox Ox) (Nq ?_); refine rf_and (r := sumN8 (it T a).n z.n) rfl rfl rfl rfl (and7 _) (Nq ?_); refine rf_indexS (n := a) (sz := 4) (j := 0 + a * 4) rfl rfl rfl rfl UU22 Kx Ox Ox rfl (Nq ?_); refine rf_field (n := 0) (j := 0 + a * 4 + 2) rfl rfl rfl UU72 rfl Kx rfl (Nq ?_)
  have hszI := its_sz (rI := rI) h1a (.int .i64 (sumN8 (it T a).n z.n))
  refine rf_storeM rfl rfl Kx rfl rfl (UpdR.there _ (UpdR.there _ (UpdR.there _ (UpdR.here _ _ _ hszI)))) (sc _ (sc _ (sc _ (sk _ (Sa (Sa sn _) _))))) (Nq ?_); rw [its_setN h1a hk2 hpa]; refine Zr ?_
  have hsl : (T.set a ⟨1, z.at_, sumN8 (it T a).n z.n, (it T a).name⟩).length = T.length := List.length_set ..
  have h1b : a < (T.set a ⟨1, z.at_, sumN8 (it T a).n z.n, (it T a).name⟩).length := by rw [hsl]; exact h1a
  obtain ⟨S1, hS1⟩ : ∃ S1 : List Blk, S1 = (gw, .cells (tdV (T.set a ⟨1, z.at_, sumN8 (it T a).n z.n, (it T a).name⟩) G (some ⟨gI, 0, none⟩) ga ic gc rs).toArray 108) :: (gI, .cells (its (T.set a ⟨1, z.at_, sumN8 (it T a).n z.n, (it T a).name⟩) ++ rI).toArray 72) :: (uG ++ (zrB rs ++ [])) := ⟨_, rfl⟩
  have hT1 : TS gw (T.set a ⟨1, z.at_, sumN8 (it T a).n z.n, (it T a).name⟩) G (stkF T G) S1 := ⟨_, ga, ic, gc, _, uG, rs, hS1, hrl, hOT' _ (List.length_set ..), hOG, hZ, hst⟩
  rw [show tdV T G (some ⟨gI, 0, none⟩) ga ic gc rs = tdV (T.set a ⟨1, z.at_, sumN8 (it T a).n z.n, (it T a).name⟩) G (some ⟨gI, 0, none⟩) ga ic gc rs from congrArg (fun k => Value.slice (some ⟨gI, 0, none⟩) k ic :: Value.slice ga G.length gc :: zrV rs) hsl.symm]; refine Wx [0, 0, 0, 0, 0, 0, 0, 0, 0] ?_; refine Zk ?_; refine Fd 0 0 UU108 ?_; refine rf_load (v := .slice (some ⟨gI, 0, none⟩) (T.set a ⟨1, z.at_, sumN8 (it T a).n z.n, (it T a).name⟩).length ic) rfl rfl rfl UU22 rfl (fun w hw => ((Kn.hd0 (Kn.tl (Kn.tl hw))).cell 0).trans rfl) (Zx ?_)
  refine rf_indexS (n := a) (sz := 4) (j := 0 + a * 4) rfl rfl rfl rfl UU22 Kx Ox Ox rfl (Nq ?_); refine rf_field (n := 0) (j := 0 + a * 4 + 2) rfl rfl rfl UU72 rfl Kx rfl (Nq ?_); refine rf_load (v := .int .i64 (sumN8 (it T a).n z.n)) rfl rfl rfl UU3 rfl (fun w hw => ((Kn.hd0 (Kn.tl (Kn.tl (Kn.tl hw)))).cell _).trans ((its_cell (T := (T.set a ⟨1, z.at_, sumN8 (it T a).n z.n, (it T a).name⟩)) (r := 2) h1b Ox).trans (by rw [it_setT h1a, if_pos rfl]; rfl))) (Nq ?_)
  refine rfb_eql rfl rfl rfl rfl ?_
  rintro (_ | _) h7 <;> try simp only [qd, ne_eq] at h7
  ·simp only [qz]
   refine Zr ?_; refine ek_sub (sk _ (sk _ (sc _ (sc _ (Sa (Sa sn _) _))))) ?_; refine ek_ret (fun w hw => ⟨rfl, _, res_0 rfl, ?_⟩); (try simp only [qz])
   have hS0 : ¬ sumN8 (it T a).n z.n = 0 := by omega
   have hJ := hI.phase hz (by rw [hpH.out]; exact ht : topT T G z.at_ = some a) hk1 hk2 hpa
   rw [if_neg hS0] at hJ
   exact ⟨(by first | rfl | trivial), S1, Kn.to hS1.symm hw, _, _, hT1.ext (fun g _ => keep_ext (x := ⟨1, z.at_, sumN8 (it T a).n z.n, (it T a).name⟩) h1a hk2.symm hpa.symm g), hJ⟩
  simp only [qz]; refine rg_nil (ek_next (wk_cond_t rfl ?_)); refine wk_perm (s' := (gg, .cells (zs (gsT z) ++ rg).toArray 3) :: (g1, .cells #[.int .i64 z.kind, .int .i64 z.at_, .int .i64 z.n, .string z.name] 72) :: (S1 ++ [])) (List.Perm.of_eq (by rw [List.append_nil S1, hS1]; try rfl)) ?_; refine Wx [0, 0, 0, 1] ?_
  have hpre := drop_pre (f := stkF T G) (gl := gsT z) (p := p) (B := 5000) (.inl hgs1) (stk_ne ht) (fun e => absurd (hgs1.symm.trans e) (by simp)) hlF
  refine rg_eff (T := fun vb => ∃ S2, vb = (gg, .cells (zs (gsT z) ++ rg).toArray 3) :: S2 ∧ TS gw (T.set a ⟨1, z.at_, sumN8 (it T a).n z.n, (it T a).name⟩) (G.set a true) ((gsT z).foldl stepD (stkF T G)) S2) (vb := (gg, .cells (zs (gsT z) ++ rg).toArray 3) :: S1) (rest := [(g1, .cells #[.int .i64 z.kind, .int .i64 z.at_, .int .i64 z.n, .string z.name] 72)]) Rx Kx (by simp only [qm, qs, Act.eval]; try rfl) ((perm_atU (l := [_]) (u := S1) (List.Perm.refl _)).cons _) (fun w hw => (drop_any gw a gg cg (T.set a ⟨1, z.at_, sumN8 (it T a).n z.n, (it T a).name⟩) G (stkF T G) S1 (gsT z) rg hT1 Ox Ox hgr Ox Ox hpre.1 (fun k g hk => Nat.le_trans (hpre.2 k g hk) Ox) w hw).mono fun e w' ⟨e1, s2, e2, e3⟩ => ⟨e1, _, e2, s2, rfl, e3⟩) (fun vb hvb => ?_)
  obtain ⟨S2, rfl, hT2⟩ := hvb
  simp only [qz]; refine Zr ?_; refine ek_ret (fun w hw => ⟨rfl, _, res_0 rfl, ?_⟩); (try simp only [qz])
  have hS0 : sumN8 (it T a).n z.n = 0 := by omega
  have hJ := hI.phase hz (by rw [hpH.out]; exact ht : topT T G z.at_ = some a) hk1 hk2 hpa
  rw [if_pos hS0] at hJ; rw [hgs1] at hT2
  exact ⟨(by first | rfl | trivial), S2, hw.sub (List.Sublist.cons _ (List.sublist_append_left _ _)), _, _, hT2.ext (fun g _ => phase_ext (x := ⟨1, z.at_, sumN8 (it T a).n z.n, (it T a).name⟩) ht hI.len hk2.symm hpa.symm hk2 (hpa.trans hpH.out) g), hJ⟩
 rintro f1 s rfl
 simp only [Act.putF, List.foldl_cons, List.foldl_nil, Act.put, Act.eval, qW, Nat.reduceAdd, Bool.not_true, Bool.not_false]
 refine wk_seq (wk_seq ?_)
 refine Wx [0, 0, 0] ?_
 refine rf_len rfl rfl rfl UU23 (Zx ?_)
 refine Zr ?_
 refine wk_loopF [7, 98, 99, 100, 101, 102, 103, 104, 105, 106, 107, 108, 109, 110, 111, 112, 113, 114, 115, 116, 117, 118, 119, 120] (fun mz f s => ∃ (k : Nat) (uV : List Blk), f 98 = .int .i64 k ∧ s = ((gg, .cells (zs (gsT z) ++ rg).toArray 3) :: ((g1, .cells #[.int .i64 z.kind, .int .i64 z.at_, .int .i64 z.n, .string z.name] 72) :: (uV ++ []))) ∧ mz = (gsT z).length - k ∧ k ≤ (gsT z).length ∧ TS gw T G (((gsT z).take k).foldl (stepP (T.length : Int)) (stkF T G)) uV) ((fun (k : Nat) (uV : List Blk) => (gsT z).length - k) (0) (S0)) ?_ Kx ?_
 ·exact ⟨0, S0, rfl, rfl, rfl, by omega, hS⟩
 rintro mz f2 s ⟨k, uV, hs2_98, rfl, hn, hd1, hd2⟩
 simp only [Act.putF, List.foldl_cons, List.foldl_nil, hs2_98, Act.put, Act.eval, qW, Nat.reduceAdd, Bool.not_true, Bool.not_false]
 clear hs2_98
 refine wk_seq ?_
 refine Wr [0] ?_
 refine rfb_lss rfl rfl rfl rfl ?_
 rintro (_ | _) h8 <;> try simp only [qd, ne_eq] at h8
 ·simp only [qz]
  refine Zr ?_
  have hk0 : k = (gsT z).length := by omega
  rw [hk0, List.take_length] at hd2
  obtain ⟨ia, ga, ic, gc, uT, uG, rs, hs0, hrl, hOT, hOG, hZ, hst⟩ := hd2.ex
  have hse : uV ++ [] = (gw, .cells (tdV T G ia ga ic gc rs).toArray 108) :: (uT ++ (uG ++ (zrB rs ++ []))) := (List.append_nil uV).trans hs0
  have hgL := hI.len
  rw [hse]; refine wk_rx (sc _ (sc _ (sc _ (((Sa sn _).trans (Sr _ _)).trans (Sr _ _))))) (sc _ (sc _ (sk _ (Sa sn _)))) 17 Kx ?_; refine rx_soft (i := 0) rfl Kx (fun c d v a w h => by cases d <;> exact h) (sc _ (sc _ (sc _ (((Sa sn _).trans (Sr _ _)).trans (Sr _ _))))) ?_; refine rg_move ?_; simp only [qz]; refine rg_nil ?_; refine ek_rx rfl (sc _ (sc _ (sc _ (((Sa sn _).trans (Sr _ _)).trans (Sr _ _))))) ?_; refine rx_softP (i := 1) rfl Kx (fun c d v a w h => by cases d <;> exact h) (sc _ (sc _ (sk _ (Sa sn _)))) rfl (sc _ (sc _ (sc _ (((Sa sn _).trans (Sr _ _)).trans (Sr _ _))))) ?_
  refine rg_move ?_; simp only [qz]; refine rg_nil ?_; refine ek_rx rfl (sc _ (sc _ (sc _ (((Sa sn _).trans (Sr _ _)).trans (Sr _ _))))) ?_; refine rx_soft (i := 2) rfl Kx (fun c d v a w h => by cases d <;> exact h) (sc _ (sc _ (sc _ (((Sa sn _).trans (Sr _ _)).trans (Sr _ _))))) ?_; refine rg_move ?_; simp only [qz]; refine rg_nil ?_; refine ek_rx rfl (sc _ (sc _ (sc _ (((Sa sn _).trans (Sr _ _)).trans (Sr _ _))))) ?_
  refine rx_soft (i := 3) rfl Kx (fun c d v a w h => by cases d <;> exact h) (sc _ (sc _ (sc _ (((Sa sn _).trans (Sr _ _)).trans (Sr _ _))))) ?_; apply rg_soft
  case hy => (intro w hw; exact Gy)
  simp only [qz]; refine rg_nil ?_; refine ek_rx rfl (sc _ (sc _ (sc _ (((Sa sn _).trans (Sr _ _)).trans (Sr _ _))))) ?_; refine rx_soft (i := 4) rfl Kx (fun c d v a w h => by cases d <;> exact h) (sc _ (sc _ (sc _ (((Sa sn _).trans (Sr _ _)).trans (Sr _ _))))) ?_; refine Fd 0 0 UU108 ?_; refine rg_nil ?_; refine ek_rx rfl (sc _ (sc _ (sc _ (((Sa sn _).trans (Sr _ _)).trans (Sr _ _))))) ?_; refine rx_soft (i := 5) rfl Kx (fun c d v a w h => by cases d <;> exact h) (sc _ (sc _ (sc _ (((Sa sn _).trans (Sr _ _)).trans (Sr _ _))))) ?_
  refine rf_load (v := .slice ia T.length ic) rfl rfl rfl UU22 rfl (fun w hw => ((Kn.hd0 (Kn.tl (Kn.tl hw))).cell 0).trans rfl) (Nq ?_); refine rg_nil ?_; refine ek_rx rfl (sc _ (sc _ (sc _ (((Sa sn _).trans (Sr _ _)).trans (Sr _ _))))) ?_; refine rx_soft (i := 6) rfl Kx (fun c d v a w h => by cases d <;> exact h) (sc _ (sc _ (sc _ (((Sa sn _).trans (Sr _ _)).trans (Sr _ _))))) ?_; refine rf_loadR (n := 4) (vs := [.int .i64 z.kind, .int .i64 z.at_, .int .i64 z.n, .string z.name]) rfl rfl rfl UU72 rfl Kx (fun w hw => Kn.hd0 (Kn.tl hw)) rfl rfl (Nq ?_)
  refine rg_nil ?_; refine ek_rx rfl (sc _ (sc _ (sc _ (((Sa sn _).trans (Sr _ _)).trans (Sr _ _))))) ?_; refine rx_soft (i := 9) rfl Kx (fun c d v a w h => by cases d <;> exact h) (sc _ (sc _ (sc _ (((Sa sn _).trans (Sr _ _)).trans (Sr _ _))))) ?_; refine rg_move ?_; simp only [qz]; refine rg_nil ?_; refine ek_rx rfl (sc _ (sc _ (sc _ (((Sa sn _).trans (Sr _ _)).trans (Sr _ _))))) ?_; refine rx_soft (i := 10) rfl Kx (fun c d v a w h => by cases d <;> exact h) (sc _ (sc _ (sc _ (((Sa sn _).trans (Sr _ _)).trans (Sr _ _))))) ?_
  apply rg_soft
  case hy => (intro w hw; exact Gy)
  simp only [qz]; refine rg_nil ?_; refine ek_rx rfl (sc _ (sc _ (sc _ (((Sa sn _).trans (Sr _ _)).trans (Sr _ _))))) ?_; refine rx_soft (i := 11) rfl Kx (fun c d v a w h => by cases d <;> exact h) (sc _ (sc _ (sc _ (((Sa sn _).trans (Sr _ _)).trans (Sr _ _))))) ?_; refine Fd 0 1 UU108 ?_; refine rg_nil ?_; refine ek_rx rfl (sc _ (sc _ (sc _ (((Sa sn _).trans (Sr _ _)).trans (Sr _ _))))) ?_; refine rx_soft (i := 12) rfl Kx (fun c d v a w h => by cases d <;> exact h) (sc _ (sc _ (sc _ (((Sa sn _).trans (Sr _ _)).trans (Sr _ _))))) ?_
  refine rf_load (v := .slice ga G.length gc) rfl rfl rfl UU105 rfl (fun w hw => ((Kn.hd0 (Kn.tl (Kn.tl hw))).cell 1).trans rfl) (Nq ?_); refine rg_nil ?_; refine ek_rx rfl (sc _ (sc _ (sc _ (((Sa sn _).trans (Sr _ _)).trans (Sr _ _))))) ?_; refine rx_hard2 (i := 7) (j := 13) (sc _ (sc _ (sc _ (((Sa sn _).trans (Sr _ _)).trans (Sr _ _))))) (sc _ (sc _ (sc _ (((Sa sn _).trans (Sr _ _)).trans (Sr _ _))))) Kx rfl rfl ?_ ?_
  ·refine rg_newS (cs := ?_) (ty := ?_) (n := 1) (c := 1) Rx (fun w => ?_) (fun _ h => by cases h; exact (sc _ (sc _ (sc _ (((Sa sn _).trans (Sr _ _)).trans (Sr _ _)))))) (fun g2 => ?_); rotate_left 2
   focus (go_simp; rfl)
   simp only [qz]; refine rg_nil ?_; refine ek_rx rfl (sk _ (sc _ (sc _ (sc _ (((Sa sn _).trans (Sr _ _)).trans (Sr _ _)))))) ?_; refine rx_hard2 (i := 8) (j := 13) (sk _ (sc _ (sc _ (sc _ (((Sa sn _).trans (Sr _ _)).trans (Sr _ _)))))) (sk _ (sc _ (sc _ (sc _ (((Sa sn _).trans (Sr _ _)).trans (Sr _ _)))))) Kx rfl rfl ?_ ?_
   ·refine rg_appendT (xs := T) (x := z) Rx rfl hOT rfl Ox (perm_atU (l := [_, _, _, _]) (u := uT) (List.Perm.refl _)) (fun w hw => Kn.hd0 hw) (fun _ h => by cases h; exact (sk _ (sc _ (sc _ (sc _ ((Sa sn _).trans (Sr _ _))))))) (fun uQ vQ hOQ => ?_)
    obtain ⟨aQ, cQ, rfl, -⟩ := Own.val hOQ
    simp only [qz]; refine rg_nil ?_; refine ek_rx rfl ((sk _ (sc _ (sc _ (sc _ ((Sa sn _).trans (Sr _ _)))))).trans (Sr _ _)) ?_; refine rx_hard1 (i := 13) ((sk _ (sc _ (sc _ (sc _ ((Sa sn _).trans (Sr _ _)))))).trans (Sr _ _)) Kx rfl ?_
    refine rg_newS (cs := ?_) (ty := ?_) (n := 1) (c := 1) Rx (fun w => ?_) (fun _ h => by cases h; exact ((sk _ (sc _ (sc _ (sc _ ((Sa sn _).trans (Sr _ _)))))).trans (Sr _ _))) (fun g3 => ?_); rotate_left 2
    focus (go_simp; rfl)
    simp only [qz]; refine rg_nil ?_; refine ek_rx rfl (sk _ ((sk _ (sc _ (sc _ (sc _ ((Sa sn _).trans (Sr _ _)))))).trans (Sr _ _))) ?_; refine rx_hard1 (i := 14) (sk _ ((sk _ (sc _ (sc _ (sc _ ((Sa sn _).trans (Sr _ _)))))).trans (Sr _ _))) Kx rfl ?_; refine rg_appB (xs := G) (x := false) Rx rfl hOG rfl Ox ((((((((((((((List.Perm.refl _).cons _).trans (List.perm_middle (l₁ := uG)).symm).cons _).trans (List.perm_middle (l₁ := uG)).symm).cons _).trans (List.perm_middle (l₁ := uG)).symm).cons _).trans (List.perm_middle (l₁ := uG)).symm).append_left _).trans (List.perm_append_comm_assoc uQ uG _)).cons _).trans (List.perm_middle (l₁ := uG)).symm).trans ((List.Perm.refl _).append_left _)) (fun _ h => by cases h; exact ((sk _ (sc _ (sc _ (sc _ (Sa sn _))))).trans (Sr _ _))) (fun uP aP cP hOP => ?_)
    simp only [qz]; refine rg_nil ?_; refine ek_rx rfl (((sk _ (sc _ (sc _ (sc _ (Sa sn _))))).trans (Sr _ _)).trans (Sr _ _)) ?_; refine rx_soft (i := 15) rfl Kx (fun c d v a w h => by cases d <;> exact h) (((sk _ (sc _ (sc _ (sc _ (Sa sn _))))).trans (Sr _ _)).trans (Sr _ _)) ?_; apply rg_soft
    case hy => (intro w hw; exact Gy)
    simp only [qz]; refine rg_nil ?_; refine ek_rx rfl (((sk _ (sc _ (sc _ (sc _ (Sa sn _))))).trans (Sr _ _)).trans (Sr _ _)) ?_; refine rx_soft (i := 16) rfl Kx (fun c d v a w h => by cases d <;> exact h) (((sk _ (sc _ (sc _ (sc _ (Sa sn _))))).trans (Sr _ _)).trans (Sr _ _)) ?_; refine Fd 0 0 UU108 ?_; refine rg_nil ?_; refine ek_rx rfl (((sk _ (sc _ (sc _ (sc _ (Sa sn _))))).trans (Sr _ _)).trans (Sr _ _)) ?_
    refine rx_hard1 (i := 17) (((sk _ (sc _ (sc _ (sk _ (Sa sn _))))).trans (Sr _ _)).trans (Sr _ _)) Kx rfl ?_; refine rf_store rfl rfl Kx rfl rfl (UpdR.app _ (UpdR.app _ (UpdR.there _ (UpdR.there _ (UpdR.there _ (UpdR.here _ _ _ (by show 0 + 1 ≤ (zrV rs).length + 1 + 1; omega))))))) (fun _ h => by cases h; exact (((sk _ (sc _ (sc _ (sk _ (Sa sn _))))).trans (Sr _ _)).trans (Sr _ _))) (Nq ?_); refine rg_nil ?_
    refine ek_rx rfl (((sk _ (sc _ (sc _ (sk _ (Sa sn _))))).trans (Sr _ _)).trans (Sr _ _)) ?_; refine rx_softP (i := 18) rfl Kx (fun c d v a w h => by cases d <;> exact h) (sc _ (sc _ (sk _ (Sa sn _)))) rfl (((sk _ (sc _ (sc _ (sk _ (Sa sn _))))).trans (Sr _ _)).trans (Sr _ _)) ?_; apply rg_soft
    case hy => (intro w hw; exact Gy)
    simp only [qz]; refine rg_nil ?_; refine ek_rx rfl (((sk _ (sc _ (sc _ (sk _ (Sa sn _))))).trans (Sr _ _)).trans (Sr _ _)) ?_; refine rx_softP (i := 19) rfl Kx (fun c d v a w h => by cases d <;> exact h) (sc _ (sc _ (sk _ (Sa sn _)))) rfl (((sk _ (sc _ (sc _ (sk _ (Sa sn _))))).trans (Sr _ _)).trans (Sr _ _)) ?_; refine Fd 0 1 UU108 ?_; refine rg_nil ?_; refine ek_rx rfl (((sk _ (sc _ (sc _ (sk _ (Sa sn _))))).trans (Sr _ _)).trans (Sr _ _)) ?_
    refine rx_hard1 (i := 20) (((sk _ (sc _ (sc _ (sk _ (Sa sn _))))).trans (Sr _ _)).trans (Sr _ _)) Kx rfl ?_; refine rf_store rfl rfl Kx rfl rfl (UpdR.app _ (UpdR.app _ (UpdR.there _ (UpdR.there _ (UpdR.there _ (UpdR.here _ _ _ (by show 1 + 1 ≤ (zrV rs).length + 1 + 1; omega))))))) (fun _ h => by cases h; exact (((sk _ (sc _ (sc _ (sk _ (Sa sn _))))).trans (Sr _ _)).trans (Sr _ _))) (Nq ?_); refine rg_nil ?_
    refine ek_rx rfl (((sk _ (sc _ (sc _ (sk _ (Sa sn _))))).trans (Sr _ _)).trans (Sr _ _)) ?_; refine rx_nil Kx ?_; refine ek_sub (Sa (Sa (sk _ (sk _ (sk _ (sc _ (Sa sn _))))) _) _) ?_; refine ek_perm ((((((List.Perm.refl _).append_left _).trans (List.perm_middle (l₁ := uQ))).append_left _).trans (List.perm_middle (l₁ := uP))).trans (((((List.Perm.refl _).append_left _).trans (List.perm_append_comm_assoc uP uQ _)).trans ((List.Perm.refl _).append_left _)).cons _)) ?_
    refine ek_norm (fun w hw => ⟨rfl, _, res_0 rfl, ?_⟩); (try simp only [qz])
    have hTE : TS gw (T ++ [z]) (G ++ [false]) ((gsT z).foldl (stepP (T.length : Int)) (stkF T G)) ((gw, .cells (tdV (T ++ [z]) (G ++ [false]) aQ aP cQ cP rs).toArray 108) :: (uQ ++ (uP ++ (zrB rs ++ [])))) := ⟨aQ, aP, cQ, cP, uQ, uP, rs, rfl, hrl, hOQ, hOP, hZ, hst⟩
    exact ⟨(by first | rfl | trivial), _, hw, _, _, hTE.ext (fun g _ => push_ext hI.len g), hI.push hz⟩
   refine rg_newS (cs := ?_) (ty := ?_) (n := 1) (c := 1) Rx (fun w => ?_) (fun _ h => by cases h; exact (sk _ (sc _ (sc _ (sc _ (((Sa sn _).trans (Sr _ _)).trans (Sr _ _))))))) (fun g4 => ?_); rotate_left 2
   focus (go_simp; rfl)
   simp only [qz]; refine rg_nil ?_; refine ek_rx rfl (sk _ (sk _ (sc _ (sc _ (sc _ (((Sa sn _).trans (Sr _ _)).trans (Sr _ _))))))) ?_; refine rx_hard1 (i := 8) (sk _ (sk _ (sc _ (sc _ (sc _ (((Sa sn _).trans (Sr _ _)).trans (Sr _ _))))))) Kx rfl ?_; refine rg_appendT (xs := T) (x := z) Rx rfl hOT rfl Ox (perm_atU (l := [_, _, _, _, _]) (u := uT) (List.Perm.refl _)) (fun w hw => Kn.hd0 (Kn.tl hw)) (fun _ h => by cases h; exact (sk _ (sk _ (sc _ (sc _ (sc _ ((Sa sn _).trans (Sr _ _)))))))) (fun uQ vQ hOQ => ?_)
   obtain ⟨aQ, cQ, rfl, -⟩ := Own.val hOQ
   simp only [qz]; refine rg_nil ?_; refine ek_rx rfl ((sk _ (sk _ (sc _ (sc _ (sc _ ((Sa sn _).trans (Sr _ _))))))).trans (Sr _ _)) ?_; refine rx_hard1 (i := 14) ((sk _ (sk _ (sc _ (sc _ (sc _ ((Sa sn _).trans (Sr _ _))))))).trans (Sr _ _)) Kx rfl ?_; refine rg_appB (xs := G) (x := false) Rx rfl hOG rfl Ox ((((((((((((((List.Perm.refl _).cons _).trans (List.perm_middle (l₁ := uG)).symm).cons _).trans (List.perm_middle (l₁ := uG)).symm).cons _).trans (List.perm_middle (l₁ := uG)).symm).cons _).trans (List.perm_middle (l₁ := uG)).symm).cons _).trans (List.perm_middle (l₁ := uG)).symm).append_left _).trans (List.perm_append_comm_assoc uQ uG _)).trans (((((List.Perm.refl _).append_left _).trans (List.perm_middle (l₁ := uQ))).trans ((List.Perm.refl _).cons _)).append_left _)) (fun _ h => by cases h; exact ((sk _ (sc _ (sc _ (sc _ (Sa sn _))))).trans (Sr _ _))) (fun uP aP cP hOP => ?_)
   simp only [qz]; refine rg_nil ?_; refine ek_rx rfl (((sk _ (sc _ (sc _ (sc _ (Sa sn _))))).trans (Sr _ _)).trans (Sr _ _)) ?_; refine rx_soft (i := 15) rfl Kx (fun c d v a w h => by cases d <;> exact h) (((sk _ (sc _ (sc _ (sc _ (Sa sn _))))).trans (Sr _ _)).trans (Sr _ _)) ?_; apply rg_soft
   case hy => (intro w hw; exact Gy)
   simp only [qz]; refine rg_nil ?_; refine ek_rx rfl (((sk _ (sc _ (sc _ (sc _ (Sa sn _))))).trans (Sr _ _)).trans (Sr _ _)) ?_; refine rx_soft (i := 16) rfl Kx (fun c d v a w h => by cases d <;> exact h) (((sk _ (sc _ (sc _ (sc _ (Sa sn _))))).trans (Sr _ _)).trans (Sr _ _)) ?_; refine Fd 0 0 UU108 ?_; refine rg_nil ?_; refine ek_rx rfl (((sk _ (sc _ (sc _ (sc _ (Sa sn _))))).trans (Sr _ _)).trans (Sr _ _)) ?_
   refine rx_hard1 (i := 17) (((sk _ (sc _ (sc _ (sk _ (Sa sn _))))).trans (Sr _ _)).trans (Sr _ _)) Kx rfl ?_; refine rf_store rfl rfl Kx rfl rfl (UpdR.app _ (UpdR.app _ (UpdR.there _ (UpdR.there _ (UpdR.there _ (UpdR.here _ _ _ (by show 0 + 1 ≤ (zrV rs).length + 1 + 1; omega))))))) (fun _ h => by cases h; exact (((sk _ (sc _ (sc _ (sk _ (Sa sn _))))).trans (Sr _ _)).trans (Sr _ _))) (Nq ?_); refine rg_nil ?_
   refine ek_rx rfl (((sk _ (sc _ (sc _ (sk _ (Sa sn _))))).trans (Sr _ _)).trans (Sr _ _)) ?_; refine rx_softP (i := 18) rfl Kx (fun c d v a w h => by cases d <;> exact h) (sc _ (sc _ (sk _ (Sa sn _)))) rfl (((sk _ (sc _ (sc _ (sk _ (Sa sn _))))).trans (Sr _ _)).trans (Sr _ _)) ?_; apply rg_soft
   case hy => (intro w hw; exact Gy)
   simp only [qz]; refine rg_nil ?_; refine ek_rx rfl (((sk _ (sc _ (sc _ (sk _ (Sa sn _))))).trans (Sr _ _)).trans (Sr _ _)) ?_; refine rx_softP (i := 19) rfl Kx (fun c d v a w h => by cases d <;> exact h) (sc _ (sc _ (sk _ (Sa sn _)))) rfl (((sk _ (sc _ (sc _ (sk _ (Sa sn _))))).trans (Sr _ _)).trans (Sr _ _)) ?_; refine Fd 0 1 UU108 ?_; refine rg_nil ?_; refine ek_rx rfl (((sk _ (sc _ (sc _ (sk _ (Sa sn _))))).trans (Sr _ _)).trans (Sr _ _)) ?_
   refine rx_hard1 (i := 20) (((sk _ (sc _ (sc _ (sk _ (Sa sn _))))).trans (Sr _ _)).trans (Sr _ _)) Kx rfl ?_; refine rf_store rfl rfl Kx rfl rfl (UpdR.app _ (UpdR.app _ (UpdR.there _ (UpdR.there _ (UpdR.there _ (UpdR.here _ _ _ (by show 1 + 1 ≤ (zrV rs).length + 1 + 1; omega))))))) (fun _ h => by cases h; exact (((sk _ (sc _ (sc _ (sk _ (Sa sn _))))).trans (Sr _ _)).trans (Sr _ _))) (Nq ?_); refine rg_nil ?_
   refine ek_rx rfl (((sk _ (sc _ (sc _ (sk _ (Sa sn _))))).trans (Sr _ _)).trans (Sr _ _)) ?_; refine rx_nil Kx ?_; refine ek_sub (Sa (Sa (sk _ (sk _ (sk _ (sc _ (Sa sn _))))) _) _) ?_; refine ek_perm ((((((List.Perm.refl _).append_left _).trans (List.perm_middle (l₁ := uQ))).append_left _).trans (List.perm_middle (l₁ := uP))).trans (((((List.Perm.refl _).append_left _).trans (List.perm_append_comm_assoc uP uQ _)).trans ((List.Perm.refl _).append_left _)).cons _)) ?_
   refine ek_norm (fun w hw => ⟨rfl, _, res_0 rfl, ?_⟩); (try simp only [qz])
   have hTE : TS gw (T ++ [z]) (G ++ [false]) ((gsT z).foldl (stepP (T.length : Int)) (stkF T G)) ((gw, .cells (tdV (T ++ [z]) (G ++ [false]) aQ aP cQ cP rs).toArray 108) :: (uQ ++ (uP ++ (zrB rs ++ [])))) := ⟨aQ, aP, cQ, cP, uQ, uP, rs, rfl, hrl, hOQ, hOP, hZ, hst⟩
   exact ⟨(by first | rfl | trivial), _, hw, _, _, hTE.ext (fun g _ => push_ext hI.len g), hI.push hz⟩
  refine rg_newS (cs := ?_) (ty := ?_) (n := 1) (c := 1) Rx (fun w => ?_) (fun _ h => by cases h; exact (sc _ (sc _ (sc _ (((Sa sn _).trans (Sr _ _)).trans (Sr _ _)))))) (fun g5 => ?_); rotate_left 2
  focus (go_simp; rfl)
  simp only [qz]; refine rg_nil ?_; refine ek_rx rfl (sk _ (sc _ (sc _ (sc _ (((Sa sn _).trans (Sr _ _)).trans (Sr _ _)))))) ?_; refine rx_hard1 (i := 7) (sk _ (sc _ (sc _ (sc _ (((Sa sn _).trans (Sr _ _)).trans (Sr _ _)))))) Kx rfl ?_
  refine rg_newS (cs := ?_) (ty := ?_) (n := 1) (c := 1) Rx (fun w => ?_) (fun _ h => by cases h; exact (sk _ (sc _ (sc _ (sc _ (((Sa sn _).trans (Sr _ _)).trans (Sr _ _))))))) (fun g6 => ?_); rotate_left 2
  focus (go_simp; rfl)
  simp only [qz]; refine rg_nil ?_; refine ek_rx rfl (sk _ (sk _ (sc _ (sc _ (sc _ (((Sa sn _).trans (Sr _ _)).trans (Sr _ _))))))) ?_; refine rx_hard1 (i := 8) (sk _ (sk _ (sc _ (sc _ (sc _ (((Sa sn _).trans (Sr _ _)).trans (Sr _ _))))))) Kx rfl ?_; refine rg_appendT (xs := T) (x := z) Rx rfl hOT rfl Ox (perm_atU (l := [_, _, _, _, _]) (u := uT) (List.Perm.refl _)) (fun w hw => Kn.hd0 hw) (fun _ h => by cases h; exact (sk _ (sk _ (sc _ (sc _ (sc _ ((Sa sn _).trans (Sr _ _)))))))) (fun uQ vQ hOQ => ?_)
  obtain ⟨aQ, cQ, rfl, -⟩ := Own.val hOQ
  simp only [qz]; refine rg_nil ?_; refine ek_rx rfl ((sk _ (sk _ (sc _ (sc _ (sc _ ((Sa sn _).trans (Sr _ _))))))).trans (Sr _ _)) ?_; refine rx_hard1 (i := 14) ((sk _ (sk _ (sc _ (sc _ (sc _ ((Sa sn _).trans (Sr _ _))))))).trans (Sr _ _)) Kx rfl ?_; refine rg_appB (xs := G) (x := false) Rx rfl hOG rfl Ox ((((((((((((((List.Perm.refl _).cons _).trans (List.perm_middle (l₁ := uG)).symm).cons _).trans (List.perm_middle (l₁ := uG)).symm).cons _).trans (List.perm_middle (l₁ := uG)).symm).cons _).trans (List.perm_middle (l₁ := uG)).symm).cons _).trans (List.perm_middle (l₁ := uG)).symm).append_left _).trans (List.perm_append_comm_assoc uQ uG _)).trans (((((((List.Perm.refl _).cons _).trans (List.Perm.swap _ _ _)).append_left _).trans (List.perm_middle (l₁ := uQ))).trans ((List.Perm.refl _).cons _)).append_left _)) (fun _ h => by cases h; exact ((sk _ (sc _ (sc _ (sc _ (Sa sn _))))).trans (Sr _ _))) (fun uP aP cP hOP => ?_)
  simp only [qz]; refine rg_nil ?_; refine ek_rx rfl (((sk _ (sc _ (sc _ (sc _ (Sa sn _))))).trans (Sr _ _)).trans (Sr _ _)) ?_; refine rx_soft (i := 15) rfl Kx (fun c d v a w h => by cases d <;> exact h) (((sk _ (sc _ (sc _ (sc _ (Sa sn _))))).trans (Sr _ _)).trans (Sr _ _)) ?_; apply rg_soft
  case hy => (intro w hw; exact Gy)
  simp only [qz]; refine rg_nil ?_; refine ek_rx rfl (((sk _ (sc _ (sc _ (sc _ (Sa sn _))))).trans (Sr _ _)).trans (Sr _ _)) ?_; refine rx_soft (i := 16) rfl Kx (fun c d v a w h => by cases d <;> exact h) (((sk _ (sc _ (sc _ (sc _ (Sa sn _))))).trans (Sr _ _)).trans (Sr _ _)) ?_; refine Fd 0 0 UU108 ?_; refine rg_nil ?_; refine ek_rx rfl (((sk _ (sc _ (sc _ (sc _ (Sa sn _))))).trans (Sr _ _)).trans (Sr _ _)) ?_
  refine rx_hard1 (i := 17) (((sk _ (sc _ (sc _ (sk _ (Sa sn _))))).trans (Sr _ _)).trans (Sr _ _)) Kx rfl ?_; refine rf_store rfl rfl Kx rfl rfl (UpdR.app _ (UpdR.app _ (UpdR.there _ (UpdR.there _ (UpdR.there _ (UpdR.here _ _ _ (by show 0 + 1 ≤ (zrV rs).length + 1 + 1; omega))))))) (fun _ h => by cases h; exact (((sk _ (sc _ (sc _ (sk _ (Sa sn _))))).trans (Sr _ _)).trans (Sr _ _))) (Nq ?_); refine rg_nil ?_
  refine ek_rx rfl (((sk _ (sc _ (sc _ (sk _ (Sa sn _))))).trans (Sr _ _)).trans (Sr _ _)) ?_; refine rx_softP (i := 18) rfl Kx (fun c d v a w h => by cases d <;> exact h) (sc _ (sc _ (sk _ (Sa sn _)))) rfl (((sk _ (sc _ (sc _ (sk _ (Sa sn _))))).trans (Sr _ _)).trans (Sr _ _)) ?_; apply rg_soft
  case hy => (intro w hw; exact Gy)
  simp only [qz]; refine rg_nil ?_; refine ek_rx rfl (((sk _ (sc _ (sc _ (sk _ (Sa sn _))))).trans (Sr _ _)).trans (Sr _ _)) ?_; refine rx_softP (i := 19) rfl Kx (fun c d v a w h => by cases d <;> exact h) (sc _ (sc _ (sk _ (Sa sn _)))) rfl (((sk _ (sc _ (sc _ (sk _ (Sa sn _))))).trans (Sr _ _)).trans (Sr _ _)) ?_; refine Fd 0 1 UU108 ?_; refine rg_nil ?_; refine ek_rx rfl (((sk _ (sc _ (sc _ (sk _ (Sa sn _))))).trans (Sr _ _)).trans (Sr _ _)) ?_
  refine rx_hard1 (i := 20) (((sk _ (sc _ (sc _ (sk _ (Sa sn _))))).trans (Sr _ _)).trans (Sr _ _)) Kx rfl ?_; refine rf_store rfl rfl Kx rfl rfl (UpdR.app _ (UpdR.app _ (UpdR.there _ (UpdR.there _ (UpdR.there _ (UpdR.here _ _ _ (by show 1 + 1 ≤ (zrV rs).length + 1 + 1; omega))))))) (fun _ h => by cases h; exact (((sk _ (sc _ (sc _ (sk _ (Sa sn _))))).trans (Sr _ _)).trans (Sr _ _))) (Nq ?_); refine rg_nil ?_
  refine ek_rx rfl (((sk _ (sc _ (sc _ (sk _ (Sa sn _))))).trans (Sr _ _)).trans (Sr _ _)) ?_; refine rx_nil Kx ?_; refine ek_sub (Sa (Sa (sk _ (sk _ (sk _ (sc _ (Sa sn _))))) _) _) ?_; refine ek_perm ((((((List.Perm.refl _).append_left _).trans (List.perm_middle (l₁ := uQ))).append_left _).trans (List.perm_middle (l₁ := uP))).trans (((((List.Perm.refl _).append_left _).trans (List.perm_append_comm_assoc uP uQ _)).trans ((List.Perm.refl _).append_left _)).cons _)) ?_
  refine ek_norm (fun w hw => ⟨rfl, _, res_0 rfl, ?_⟩); (try simp only [qz])
  have hTE : TS gw (T ++ [z]) (G ++ [false]) ((gsT z).foldl (stepP (T.length : Int)) (stkF T G)) ((gw, .cells (tdV (T ++ [z]) (G ++ [false]) aQ aP cQ cP rs).toArray 108) :: (uQ ++ (uP ++ (zrB rs ++ [])))) := ⟨aQ, aP, cQ, cP, uQ, uP, rs, rfl, hrl, hOQ, hOP, hZ, hst⟩
  exact ⟨(by first | rfl | trivial), _, hw, _, _, hTE.ext (fun g _ => push_ext hI.len g), hI.push hz⟩
 simp only [qz]
 refine rg_nil (ek_next (wk_seq (wk_cond_t rfl (wk_skip (ek_next (wk_seq (wk_block (wk_seq ?_))))))))
 obtain ⟨g, hgk, hg1, hg7⟩ : ∃ g : Nat, (gsT z)[k]? = some (g : Int) ∧ 1 ≤ g ∧ g < 7 := by
  have hkl : k < (gsT z).length := by omega
  have h2 := hgr _ (List.getElem_mem hkl)
  exact ⟨(gsT z)[k].toNat, by rw [List.getElem?_eq_getElem hkl, Int.toNat_of_nonneg Ox], by omega, by omega⟩
 refine Wr [0, 0, 0] ?_
 refine rf_indexS (n := k) (sz := 1) (j := k) rfl rfl rfl rfl UU23 Kx Ox Ox Ox (Nq ?_)
 refine rf_load (v := .int .i64 (g : Int)) rfl rfl rfl UU3 rfl (fun w hw => ((Kn.hd0 hw).cell _).trans (zs_at hgk)) (Zx ?_)
 refine rg_nil (ek_next ?_)
 obtain ⟨ia, ga, ic, gc, uT, uG, A, x, C, hse, hA, hl7, hOT, hOG, hZ, hst, hOx, hxl⟩ := hd2.at hg1 hg7
 have hxn : x.l.length ≤ 10000 := by
  rw [hxl]
  have y1 := foldP_len (T.length : Int) g ((gsT z).take k) (stkF T G)
  have y2 := hlF g
  have y3 : ((gsT z).take k).length ≤ 2 := by rw [List.length_take]; omega
  omega
 rw [hse]
 refine wk_drawsT _ _ [(0, 0), (1, 0), (2, 0), (3, 0), (4, 0), (5, 0), (6, 0), (7, 0), (8, 0), (9, 0), (10, 0), (11, 0), (12, 0), (15, 0), (16, 0), (13, 1), (14, 1), (17, 0), (18, 2)] [18] Kx Kx (fun c d v a w h => by cases d <;> exact h) ((sc _ (sc _ (sc _ (Sa (Sa (Sa ((Sa sn _).trans (Sr _ _)) _) _) _))))) (fun e => by exact absurd e (by decide)) ?_ ((sc _ (sc _ (sk _ (Sa (Sa (Sa (Sa sn _) _) _) _)))))
 simp only [List.map_cons, List.map_nil, List.getD_cons_zero, List.getD_cons_succ]
 refine Zx ?_
 refine Zk ?_
 refine Fd 6 2 UU108 ?_
 refine rf_indexA (n := g) (sz := 1) (j := 2 + g * 1) rfl rfl rfl rfl UU106 Kx Ox rfl (Nq ?_)
 refine rf_load (v := .slice x.a x.l.length x.c) rfl rfl rfl UU23 rfl (fun w hw => ((Kn.hd0 (Kn.tl (Kn.tl hw))).cell _).trans ((zrV_get hA _ _).trans Rx)) (Zx ?_)
 refine Zk ?_
 refine Fd 0 0 UU108 ?_
 refine rf_load (v := .slice ia T.length ic) rfl rfl rfl UU22 rfl (fun w hw => ((Kn.hd0 (Kn.tl (Kn.tl hw))).cell 0).trans rfl) (Nq ?_)
 refine rf_len rfl rfl rfl UU22 (Nq ?_)
 refine Zk ?_
 refine Fd 6 2 UU108 ?_
 refine rg_newS (cs := ?_) (ty := ?_) (n := 1) (c := 1) Rx (fun w => ?_) (fun _ h => by cases h; exact (sc _ (sc _ (sc _ (Sa (Sa (Sa ((Sa sn _).trans (Sr _ _)) _) _) _))))) (fun g7 => ?_); rotate_left 2
 focus (go_simp; rfl)
 simp only [qz]
 refine rg_appZ (xs := x.l) (x := (T.length : Int)) Rx rfl hOx rfl Ox ((((((((((((((((List.Perm.refl _).append_left _).trans (List.perm_append_comm_assoc (zrB A) x.u _)).append_left _).trans (List.perm_append_comm_assoc uG x.u _)).append_left _).trans (List.perm_append_comm_assoc uT x.u _)).cons _).trans (List.perm_middle (l₁ := x.u)).symm).cons _).trans (List.perm_middle (l₁ := x.u)).symm).cons _).trans (List.perm_middle (l₁ := x.u)).symm).cons _).trans (List.perm_middle (l₁ := x.u)).symm).trans ((List.Perm.refl _).append_left _)) (fun _ h => by cases h; exact (sc _ (sc _ (sc _ (Sa (Sa (Sa (Sa sn _) _) _) _))))) (fun uN aN cN hON => ?_)
 simp only [qz]
 refine rf_indexA (n := g) (sz := 1) (j := 2 + g * 1) rfl rfl rfl rfl UU106 Kx Ox rfl (Nq ?_)
 have hszT := td_sz (T := T) (G := G) (ia := ia) (ga := ga) (ic := ic) (gc := gc) hl7 hg7 (.slice aN (x.l ++ [(T.length : Int)]).length cN)
 refine rf_storeM rfl rfl Kx rfl rfl (UpdR.app _ (UpdR.there _ (UpdR.there _ (UpdR.here _ _ _ hszT)))) ((sc _ (sc _ (sk _ (Sa (Sa (Sa (Sa sn _) _) _) _)))).trans (Sr _ _)) (Nq ?_)
 rw [td_set (y := ⟨aN, cN, uN, x.l ++ [(T.length : Int)]⟩) (v := .slice aN (x.l ++ [(T.length : Int)]).length cN) hA rfl]
 refine Zr ?_
 refine Wr [0, 0] ?_
 refine rf_add rfl rfl rfl rfl (wrap_ok Ox Ox) (Zx ?_)
 refine rg_nil ?_
 refine ek_perm ((((List.Perm.refl _).append_left _).trans (List.perm_middle (l₁ := uN))).trans (((((List.Perm.refl _).append_left _).trans (List.perm_middle (l₁ := uN))).trans (((((List.Perm.refl _).append_left _).trans (List.perm_middle (l₁ := uN))).trans (((((List.Perm.refl _).append_left _).trans (List.perm_append_comm_assoc uN uT _)).trans (((((List.Perm.refl _).append_left _).trans (List.perm_append_comm_assoc uN uG _)).trans (((((List.Perm.refl _).append_left _).trans (List.perm_append_comm_assoc uN (zrB A) _)).trans ((List.Perm.refl _).append_left _)).append_left _)).append_left _)).cons _)).cons _)).cons _)) ?_
 obtain ⟨S2, hS2⟩ : ∃ S2 : List Blk, S2 = (gw, .cells (tdV T G ia ga ic gc (A ++ ⟨aN, cN, uN, x.l ++ [(T.length : Int)]⟩ :: C)).toArray 108) :: (uT ++ (uG ++ (zrB A ++ (uN ++ (zrB C ++ []))))) := ⟨_, rfl⟩
 have hT2 : TS gw T G (stepP (T.length : Int) (((gsT z).take k).foldl (stepP (T.length : Int)) (stkF T G)) g) S2 := by
  rw [hS2]
  exact TS.put (y := ⟨aN, cN, uN, x.l ++ [(T.length : Int)]⟩) (f := (((gsT z).take k).foldl (stepP (T.length : Int)) (stkF T G))) hA (by rw [← hl7]; simp) hOT hOG (fun y hy => hZ y (by simp at hy ⊢; rcases hy with h | h <;> simp [h])) (fun i z h1 hi hz => hst i z h1 ((zr_other hA hi).symm.trans hz)) hON (by show x.l ++ _ = if ((g : Nat) : Int) = (g : Int) then (((gsT z).take k).foldl (stepP (T.length : Int)) (stkF T G)) g ++ _ else _; rw [if_pos rfl, ← hxl]) (fun i hi => by show (if ((i : Nat) : Int) = (g : Int) then _ else _) = _; rw [if_neg Ox])
 rw [← foldl_takeS (st := stepP (T.length : Int)) (f := stkF T G) hgk] at hT2
 refine ek_perm (s' := (gg, .cells (zs (gsT z) ++ rg).toArray 3) :: (g1, .cells #[.int .i64 z.kind, .int .i64 z.at_, .int .i64 z.n, .string z.name] 72) :: (S2 ++ [])) (List.Perm.of_eq (by rw [List.append_nil S2, hS2]; try rfl)) ?_
 refine ek_roundF ((gsT z).length - (k + 1)) Ox Kx ?_
 exact ⟨k + 1, S2, rfl, by rfl, by rfl, by omega, hT2⟩
theorem TS.start (g : Nat) : TS g [] [] (stkF [] []) [(g, .cells #[.slice none 0 0, .slice none 0 0, .slice none 0 0, .slice none 0 0, .slice none 0 0, .slice none 0 0, .slice none 0 0, .slice none 0 0, .slice none 0 0] 108)] := by
 refine ⟨none, none, 0, 0, [], [], List.replicate 7 ⟨none, 0, [], []⟩, rfl, rfl, OwnT.nil, OwnO.nil, fun x hx => ?_, fun i x _ hx => ?_⟩
 ·obtain rfl := List.eq_of_mem_replicate hx
  exact OwnZ.nil
 have hm := List.mem_of_getElem? hx
 obtain rfl := List.eq_of_mem_replicate hm
 rfl
theorem take_snocI {xs : List It} {i : Nat} {x : It} (h : i < xs.length) (hx : it xs i = x) : xs.take (i + 1) = xs.take i ++ [x] := by
 rw [List.take_succ]
 congr 1
 rw [← hx]
 unfold it
 rw [List.getD_eq_getElem?_getD, List.getElem?_eq_getElem h]; rfl
theorem its_range {w : World} {g e k : Nat} {T : List It} {rI : List Value} (h : Hd w g e (its T ++ rI).toArray) (hk : k < T.length) : w.rangeAt g (0 + k * 4) (itC (it T k)) := fun j v hj => by
  have hj4 : j < 4 := by
    rcases Nat.lt_or_ge j 4 with h' | h'
    · exact h'
    · rw [List.getElem?_eq_none (show (itC (it T k)).length ≤ j from h')] at hj; cases hj
  exact (h.cell _).trans ((its_cell hk hj4).trans hj)
theorem bo_at {G : List Bool} {ro : List Value} {k : Nat} (h : k < G.length) : (boL G ++ ro).toArray[k]? = some (.bool (gnT G k)) := by
 rw [List.getElem?_toArray, List.getElem?_append_left (by rw [List.length_map]; exact h), List.getElem?_map]
 unfold gnT
 rw [List.getD_eq_getElem?_getD, List.getElem?_eq_getElem h]; rfl
theorem pre_len (T : List It) (G : List Bool) (k : Nat) : (preT T G k).length ≤ k := by
 unfold preT
 rw [List.length_map]
 exact Nat.le_trans (List.length_filter_le _ _) (by rw [List.length_range]; exact Nat.le_refl _)
theorem pre_in {T : List It} {G : List Bool} {k : Nat} (h : gnT G k = false) : preT T G (k + 1) = preT T G k ++ [it T k] := by
 unfold preT
 rw [List.range_succ, List.filter_append, List.map_append, List.filter_cons_of_pos (by rw [h]; rfl)]; rfl
theorem pre_out {T : List It} {G : List Bool} {k : Nat} (h : gnT G k = true) : preT T G (k + 1) = preT T G k := by
 unfold preT
 rw [List.range_succ, List.filter_append, List.map_append, List.filter_cons_of_neg (by rw [h]; decide)]
 simp
theorem tidy_any (N : Nat) (xs : List It) (a : Option Addr) (c : Nat) (hv : Hid (itemE (N : Int) xs = 0)) (hN : N ≤ 6) (hfit : ∀ j, j < xs.length → fitB N (it xs j) = true) (hl : xs.length ≤ 5000) (w : World) (hA : AS w a (its xs)) : Calls Tryz.prog 19 #[.int .i64 N, .slice a xs.length c] w fun e w' => ∃ L, ((∀ x ∈ L, fitB N x = true) ∧ L.length ≤ xs.length ∧ ∀ m, actQ L m = actQ xs m) ∧ RetS w L 0 e w' := by
 go_enter Tryz.func19, Tryz.ntmps19
 refine wk_start ?_
 refine wk_seq ?_
 refine Wx [0, 0] ?_
 refine Zr ?_
 refine Wx [0, 0, 1, 0] ?_
 apply rg_pure Rx Kx
 case hargs => exact Ax
 case h => exact fun w hw => by have := mcheck_any (N : Int) xs a c w (hA.kn0 hw); rw [hv.out] at this; exact this
 case hz => exact Nz
 refine Zx ?_
 refine Zr ?_
 refine Wx [0, 0] ?_
 refine rf_neq (b := false) rfl rfl rfl rfl (by decide) (Nq ?_)
 refine Zr ?_
 refine Wr [0, 1, 0] ?_
 refine rf_build (cs := fun a => #[.slice none 0 0, .slice none 0 0, .slice none 0 0, .slice none 0 0, .slice none 0 0, .slice none 0 0, .slice none 0 0, .slice none 0 0, .slice none 0 0]) rfl rfl Kx (Nq ?_)
 refine Rgn fun g1 => ?_
 refine Zx ?_
 refine Zr ?_
 refine Wx [0, 0, 0] ?_
 refine rf_len rfl rfl rfl UU22 (Zx ?_)
 refine Zr ?_
 refine wk_loopF [9, 23, 24, 25, 26, 27, 28, 29, 30] (fun mz f s => ∃ (i : Nat) (T : List It) (G : List Bool) (uV : List Blk), f 23 = .int .i64 i ∧ s = (uV ++ []) ∧ mz = xs.length - i ∧ i ≤ xs.length ∧ TS g1 T G (stkF T G) uV ∧ TdI N T G (xs.take i)) ((fun (i : Nat) (T : List It) (G : List Bool) (uV : List Blk) => xs.length - i) (0) ([]) ([]) ([(g1, .cells #[.slice none 0 0, .slice none 0 0, .slice none 0 0, .slice none 0 0, .slice none 0 0, .slice none 0 0, .slice none 0 0, .slice none 0 0, .slice none 0 0] 108)])) ?_ Kx ?_
 ·exact ⟨0, [], [], [(g1, .cells #[.slice none 0 0, .slice none 0 0, .slice none 0 0, .slice none 0 0, .slice none 0 0, .slice none 0 0, .slice none 0 0, .slice none 0 0, .slice none 0 0] 108)], rfl, rfl, rfl, by omega, TS.start g1, TdI.start N⟩
 rintro mz f1 s ⟨i, T, G, uV, hs1_23, rfl, hn, hd1, hd2, hd3⟩
 simp only [Act.putF, List.foldl_cons, List.foldl_nil, hs1_23, Act.put, Act.eval, qW, Nat.reduceAdd, Bool.not_true, Bool.not_false]
 clear hs1_23
 refine wk_seq ?_
 refine Wr [0] ?_
 refine rfb_lss rfl rfl rfl rfl ?_
 rintro (_ | _) h1 <;> try simp only [qd, ne_eq] at h1
 ·simp only [qz]
  refine Zr ?_; refine Wx [0] ?_; refine Zr ?_
  have hi0 : i = xs.length := by omega
  rw [hi0, List.take_length] at hd3; clear hi0
  obtain ⟨ia, ga, ic, gc, uT, uG, rs, hs0, hrl, hOT, hOG, hZ, hst⟩ := hd2.ex
  have hse : uV ++ [] = (g1, .cells (tdV T G ia ga ic gc rs).toArray 108) :: (uT ++ (uG ++ (zrB rs ++ []))) := (List.append_nil uV).trans hs0
  rw [hse]
  have htl := hd3.tl
  have hgL := Lib.hid hd3.len
  obtain ⟨_, _, eI, hcI⟩ := Own.val hOT
  cases eI
  obtain ⟨_, _, eG, hcG⟩ := Own.val hOG
  cases eG
  refine Wx [0, 0, 0, 0, 0, 0] ?_; refine Zk ?_; refine Fd 0 0 UU108 ?_; refine rf_load (v := .slice ia T.length ic) rfl rfl rfl UU22 rfl (fun w hw => ((Kn.hd0 hw).cell 0).trans rfl) (Nq ?_); refine rf_len rfl rfl rfl UU22 (Zx ?_); refine Zr ?_; refine wk_loopF [10, 11, 12, 36, 37, 38, 39, 40, 41, 42, 43, 44, 45, 46, 47, 48, 49, 50, 51, 52, 53] (fun mz f s => ∃ (k : Nat) (L : List It) (vo : Option Addr) (co : Nat) (uO : List Blk), f 10 = .slice vo L.length co ∧ f 36 = .int .i64 k ∧ s = (uO ++ ((g1, .cells (tdV T G ia ga ic gc rs).toArray 108) :: (uT ++ (uG ++ (zrB rs ++ []))))) ∧ mz = T.length - k ∧ k ≤ T.length ∧ Hid (preT T G k = L) ∧ OwnT uO (.slice vo L.length co) L) ((fun (k : Nat) (L : List It) (vo : Option Addr) (co : Nat) (uO : List Blk) => T.length - k) (0) ([]) (none) (0) ([])) ?_ Kx ?_
  ·exact ⟨0, [], none, 0, [], rfl, rfl, rfl, rfl, Nat.zero_le _, Lib.hid rfl, OwnT.nil⟩
  rintro mz f2 s ⟨k, L, vo, co, uO, hs2_10, hs2_36, rfl, hn, he1, he2, he3⟩
  simp only [Act.putF, List.foldl_cons, List.foldl_nil, hs2_10, hs2_36, Act.put, Act.eval, qW, Nat.reduceAdd, Bool.not_true, Bool.not_false]; clear hs2_10 hs2_36; refine wk_seq ?_; refine Wr [0] ?_; refine rfb_lss rfl rfl rfl rfl ?_
  rintro (_ | _) h2 <;> try simp only [qd, ne_eq] at h2
  ·simp only [qz]
   refine Zr ?_; refine Wx [0, 0, 0] ?_; refine Zr ?_; refine ek_sub (Sa (sk _ (((sn.trans (Sr _ _)).trans (Sr _ _)).trans (Sr _ _))) _) ?_; refine ek_ret (fun w hw => ⟨rfl, _, res_tt _ _ rfl, ?_⟩); (try simp only [qz])
   have hk0 : k = T.length := by omega
   have hL : liveT T G = L := by have := he2.out; rw [hk0] at this; exact this
   refine ⟨L, ⟨fun x hx => hd3.fit x (by rw [hL]; exact hx), ?_, fun m => ?_⟩, _, uO, rfl, he3, hw.made (List.sublist_append_left _ _)⟩
   ·have := hd3.cnt; rw [hL] at this; exact this
   have := hd3.act m; rw [hL] at this; exact this
  simp only [qz]; refine Zr ?_
  have hkG : k < G.length := by have := hgL.out; omega
  obtain ⟨gI, cI, rI, rfl, hvI, -⟩ := hOT.openG Ox
  cases hvI
  obtain ⟨go, cgo, ro, rfl, hvG, -⟩ := hOG.openG Ox
  cases hvG
  rw [List.singleton_append, List.singleton_append]; refine Wx [0, 0, 0, 1, 0, 1] ?_; refine rf_indexS (n := k) (sz := 4) (j := 0 + k * 4) rfl rfl rfl rfl UU22 Kx Ox Ox Ox (Nq ?_); refine rf_loadC (n := 4) (vs := itC (it T k)) rfl rfl rfl UU72 rfl Kx rfl (fun w hw => its_range (Kn.hd0 (Kn.tl (Kn.tlU hw))) Ox) (Nq ?_)
  refine Rgn fun g2 => ?_
  refine Zx ?_; refine rf_storeR (n := 4) rfl rfl Kx rfl rfl (UpdR.here _ _ _ Nl) Nz (Nw ?_); refine Zr ?_; refine Wx [0, 0, 0, 0, 0, 0, 0, 0] ?_; refine Zk ?_; refine Fd 0 1 UU108 ?_; refine rf_load (v := .slice (some ⟨go, 0, none⟩) G.length gc) rfl rfl rfl UU105 rfl (fun w hw => ((Kn.hd0 (Kn.tlU (Kn.tl hw))).cell 1).trans rfl) (Zx ?_); refine rf_indexS (n := k) (sz := 1) (j := k) rfl rfl rfl rfl UU105 Kx Ox Ox Ox (Nq ?_)
  refine rf_load (v := .bool (gnT G k)) rfl rfl rfl UU4 rfl (fun w hw => ((Kn.hd0 (Kn.tl (Kn.tl (Kn.tlU (Kn.tl hw))))).cell _).trans (bo_at hkG)) (Zx ?_); refine rg_nil (ek_next ?_); refine wk_cond (t := _) rfl (fun h3 => ?_) (fun h3 => ?_)
  ·refine Wx [0, 0, 1, 1, 0] ?_
   refine rf_loadR (n := 4) (vs := itC (it T k)) rfl rfl rfl UU72 rfl Kx (fun w hw => Kn.hd0 hw) rfl rfl (Nq ?_)
   refine rg_newS (cs := ?_) (ty := ?_) (n := 1) (c := 1) Rx (fun w => ?_) Nz (fun g3 => ?_); rotate_left 2
   focus (go_simp; rfl)
   simp only [qz]; refine rg_appendT (xs := L) (x := it T k) Rx rfl he3 rfl (by rw [← he2.out]; have := pre_len T G k; omega) (perm_atU (l := [_, _]) (u := uO) (List.Perm.refl _)) (fun w hw => Kn.hd0 hw) Nz (fun uQ vQ hOQ => ?_)
   obtain ⟨aQ, cQ, rfl, -⟩ := Own.val hOQ
   refine Zx ?_; refine Zr ?_; refine Wr [0, 0] ?_; refine rf_add rfl rfl rfl rfl (wrap_ok Ox Ox) (Zx ?_); refine rg_nil ?_; refine ek_sub (Sa (sk _ (sk _ (sc _ (sc _ (sc _ (Sa sn _)))))) _) ?_; refine ek_roundF (T.length - (k + 1)) Ox Kx ?_
   exact ⟨k + 1, L ++ [it T k], aQ, cQ, uQ, rfl, rfl, by rfl, by rfl, Ox, (Lib.hid (by rw [pre_in (by simpa using h3), he2.out])), hOQ⟩
  refine wk_skip (ek_block (ek_next ?_)); refine Wr [0, 0] ?_; refine rf_add rfl rfl rfl rfl (wrap_ok Ox Ox) (Zx ?_); refine rg_nil ?_; refine ek_sub (sk _ (Sa (sc _ (sc _ (sc _ (Sa sn _)))) _)) ?_; refine ek_roundF (T.length - (k + 1)) Ox Kx ?_
  exact ⟨k + 1, L, vo, co, uO, rfl, rfl, by rfl, by rfl, Ox, (Lib.hid (by rw [pre_out (by simpa using h3), he2.out])), he3⟩
 simp only [qz]
 refine Zr ?_
 obtain ⟨b, off, rfl, hlt, hcell⟩ := AS.openT hA Ox
 obtain ⟨x, hx⟩ : ∃ x, it xs i = x := ⟨_, rfl⟩
 have hit := hcell i Ox
 have hfx := hfit i Ox
 rw [hx] at hit hfx
 replace hx := Lib.hid hx
 refine Wr [0, 0, 1, 1] ?_
 refine rf_indexS (n := i) (sz := 4) (j := off + i * 4) rfl rfl rfl rfl UU22 Kx Ox Ox rfl (Nq ?_)
 refine rf_loadC (n := 4) (vs := itC x) rfl rfl rfl UU72 rfl Kx rfl (fun w hw => itAt_range (hit.kn hw hlt (by simp))) (Nq ?_)
 refine Rgn fun g4 => ?_
 simp only [qz]
 refine rf_storeR (n := 4) rfl rfl Kx rfl rfl (UpdR.here _ _ _ Nl) Nz (Nw ?_)
 refine rg_nil (ek_next ?_)
 refine Wx [0, 0, 1] ?_
 refine rf_loadR (n := 4) (vs := itC x) rfl rfl rfl UU72 rfl Kx (fun w hw => Kn.hd0 hw) rfl rfl (Nq ?_)
 refine rg_eff (T := fun vb => ∃ T' G', TS g1 T' G' (stkF T' G') vb ∧ TdI N T' G' (xs.take i ++ [x])) (vb := uV) (rest := [(g4, .cells (itC x).toArray 72)]) Rx Kx (by simp only [qm, qs, Act.eval]; try rfl) (perm_atU (l := [_]) (u := uV) (List.Perm.refl _)) (fun w hw => put_any N g1 x.at_.toNat T (xs.take i) G uV x hd2 hd3 hfx hN (by rw [List.length_take]; omega) (Lib.hid (by have := (gs_rng hfx hN).2.1; omega)) w hw) (fun uW hTuW => ?_)
 obtain ⟨T2, G2, hT2, hI2⟩ := hTuW
 simp only [qz]
 refine Zr ?_
 refine Wr [0, 0] ?_
 refine rf_add rfl rfl rfl rfl (wrap_ok Ox Ox) (Zx ?_)
 refine rg_nil ?_
 refine ek_sub (Sa (sk _ sn) _) ?_
 refine ek_roundF (xs.length - (i + 1)) Ox Kx ?_
 exact ⟨i + 1, T2, G2, uW, rfl, by rfl, by rfl, Ox, hT2, (by rw [take_snocI Ox hx.out]; exact hI2)⟩
set_option maxHeartbeats 1000000
def mvI (t : List It) : Nat → Nat → Nat
  | 0, c => c
  | j + 1, c => swp ((it t j).at_ - 1).toNat (mvI t j c)
theorem swq_swp {p i j : Nat} : swq p i = j ↔ i = swp p j := by
 unfold swq swp
 constructor
 ·intro h; split at h <;> (try split at h) <;> (repeat' split) <;> omega
 ·intro h; (repeat' split) <;> (repeat' split at h) <;> omega
theorem cr_act {N : Nat} {t : List It} (hf : ∀ x ∈ t, fitB N x = true) (h3 : ∀ j, j < t.length → (it t j).kind = 3) : ∀ j, j ≤ t.length → ∀ c, c < N → mvI t j c < N ∧ ix (atTo N t j) (mvI t j c) = c ∧ ∀ i, actQ (t.take j) dl i c = if i = mvI t j c then 1 else 0
  | 0, _, c, hc => ⟨hc, idTo_at _ _ (Nat.le_refl _) c hc, fun i => rfl⟩
  | j + 1, hj, c, hc => by
    obtain ⟨h1, h2, h4⟩ := cr_act hf h3 j Ox c hc
    have hx := hf _ (it_mem (show j < t.length by omega))
    have hk := h3 j Ox
    obtain ⟨p, hp, hpN⟩ : ∃ p, ((it t j).at_ - 1).toNat = p ∧ p + 1 < N := by
      rcases it_kind hx with ⟨k1, -⟩ | ⟨-, h5⟩
      · omega
      · exact ⟨_, rfl, h5⟩
    refine ⟨?_, ?_, fun i => ?_⟩
    · rw [mvI, hp]; exact swp_lt hpN h1
    · rw [mvI, atTo, hp, swp_ix (by rw [atTo_len]; exact hpN), h2]
    · rw [take_it Ox, actQ_snoc, mvI, hp]
      unfold itQ
      rw [if_neg Ox, if_pos hk, hp]
      show actQ (t.take j) dl (swq p i) c = _
      rw [h4]
      by_cases e : swq p i = mvI t j c
      · rw [if_pos e, if_pos (swq_swp.1 e)]
      · rw [if_neg e, if_neg fun h => e (swq_swp.2 h)]
theorem perm_mv {N : Nat} {t : List It} (h : isP (N : Int) t = true) : (permZ (N : Int) t).length = N ∧ ∀ c, c < N → ix (permZ (N : Int) t) c = mvI t t.length c := by
 obtain ⟨hv, hk⟩ := isP_all h
 obtain ⟨hn1, hn2, _, hfit⟩ := validB_all hv
 rw [permZ_ok (m := N) rfl h]
 have hf : ∀ x ∈ t, fitB N x = true := fun x hx => by obtain ⟨j, hj, rfl⟩ := mem_it hx; exact hfit j hj
 have hc : ∀ j, j < t.length → Crs N (it t j) := fun j hj => crs_of (hfit j hj) (hk j hj)
 have hA := atTo_perm (m := N) Ox Ox t.length hc
 have hAl := atTo_len N t t.length
 refine ⟨by rw [invL_len, hAl], fun c hcN => ?_⟩
 obtain ⟨h1, h2, -⟩ := cr_act hf hk t.length (Nat.le_refl _) c hcN
 have hpf : pf (atTo N t t.length) (mvI t t.length c) = c := by unfold pf; rw [h2]; rfl
 have := invL_at hA (j := mvI t t.length c) (by rw [hAl]; exact h1)
 rw [hpf] at this
 exact this
theorem cr_mat {N : Nat} {t L : List It} {m : List Nm} (hP : isP (N : Int) t = true) (hm : validB N m = true) (hme : EqT N (tb N m) (actQ t dl)) (hL : CrL (permZ (N : Int) t) L) (h0 : crE (permZ (N : Int) t) = 0) :
    matO N L = .ok m ∧ L.length = invs (permZ (N : Int) t) := by
  obtain ⟨hv, hk⟩ := isP_all hP
  obtain ⟨hn1, hn2, _, hfit⟩ := validB_all hv
  have hf : ∀ x ∈ t, fitB N x = true := fun x hx => by obtain ⟨j, hj, rfl⟩ := mem_it hx; exact hfit j hj
  obtain ⟨hlen, hmv⟩ := perm_mv hP
  obtain ⟨-, hinv, hmat, hPL, -, hpz, -⟩ := hL.facts h0
  rw [hlen] at hmat hPL hpz
  obtain ⟨hvL, hkL⟩ := isP_all hPL
  obtain ⟨-, -, hlL, hfitL⟩ := validB_all hvL
  have hfL : ∀ x ∈ L, fitB N x = true := fun x hx => by obtain ⟨j, hj, rfl⟩ := mem_it hx; exact hfitL j hj
  refine ⟨?_, hinv.symm⟩; rw [hmat]
  congr 1
  have h1N : 1 ≤ N := by omega
  have h6N : N ≤ 6 := by omega
  have hms := hmat
  rw [matO_S h1N h6N hlL hfL] at hms
  obtain ⟨yv, -, ye, -⟩ := mat_facts h1N h6N hfL hms
  refine tb_ext yv hm fun i k hi hk' => ?_
  rw [ye i k hi hk', hme i k hi hk']
  have a1 := (cr_act hfL hkL L.length (Nat.le_refl _) k hk').2.2 i
  have a2 := (cr_act hf hk t.length (Nat.le_refl _) k hk').2.2 i
  rw [List.take_length] at a1 a2; rw [a1, a2]
  have e : mvI L L.length k = mvI t t.length k := by
    have b1 := (perm_mv hPL).2 k hk'
    have b2 := hmv k hk'
    rw [hpz] at b1
    omega
  rw [e]
noncomputable def lstR (n : Int) (xs : List Nm) : Int × Int := if validB n xs = true then (if unB n xs = true then (expo xs, 0) else (0, 22)) else (0, 20)
theorem sunitary_bad (n : Int) (xs : List Nm) (a : Option Addr) (c : Nat) (hl : xs.length ≤ 1000000) (hv : Hid (validB n xs = false)) (w : World) (hA : AS w a (nms xs)) : Calls Tryz.prog 62 #[.agg #[.int .i64 n, .slice a xs.length c]] w fun e w' => e = .returned (.tuple #[.int .i64 ((0 : Int)), .int .i64 20]) ∧ Below w.heap.size w w' := by
 go_enter Tryz.func62, Tryz.ntmps62
 refine wk_start ?_
 refine wk_seq ?_
 refine wk_region [1, 0, 0] rfl Kx ?_
 simp only [List.zip_cons_cons, List.zip_nil_right]
 refine Rgn fun g1 => ?_
 simp only [Act.put, Act.eval, qn, qv, Nat.reduceAdd]
 refine rg_assign ?_
 simp only [Act.put, Act.eval, qn, qv, Nat.reduceAdd]
 refine rg_assign ?_
 simp only [Act.put, Act.eval, qn, qv, Nat.reduceAdd]
 refine rg_nil ?_
 refine ek_next ?_
 refine wk_seq ?_
 refine wk_region [0, 1, 0, 0, 0, 0, 0] rfl Kx ?_
 simp only [List.zip_cons_cons, List.zip_nil_right]
 refine rf_loadR (n := 2) rfl rfl rfl UU28 rfl Kx (fun w hw => Kn.hd0 hw) rfl rfl ?_
 simp only [Act.put, Act.eval, qn, qv, Nat.reduceAdd]
 apply rg_pure Rx Kx
 case hargs => exact Ax
 case h => exact fun w hw => by have := unitary_any n xs a c hl w (hA.kn0 hw); simp only [hv.out, Bool.and_false, Bool.and_true, Bool.false_and, if_true, if_false, Bool.false_eq_true] at this; exact this
 case hz => exact Nz
 simp only [Act.put, Act.eval, qn, qv, Nat.reduceAdd]
 refine rg_move ?_
 simp only [Act.put, Act.eval, qn, qv, Nat.reduceAdd]
 refine rf_extract rfl rfl rfl rfl ?_
 simp only [Act.put, Act.eval, qn, qv, Nat.reduceAdd]
 refine rf_extract rfl rfl rfl rfl ?_
 simp only [Act.put, Act.eval, qn, qv, Nat.reduceAdd]
 refine rg_assign ?_
 simp only [Act.put, Act.eval, qn, qv, Nat.reduceAdd]
 refine rg_assign ?_
 simp only [Act.put, Act.eval, qn, qv, Nat.reduceAdd]
 refine rg_nil ?_
 refine ek_next ?_
 refine wk_seq ?_
 refine wk_block ?_
 refine wk_seq ?_
 refine wk_region [0, 0, 0] rfl Kx ?_
 simp only [List.zip_cons_cons, List.zip_nil_right]
 refine rg_move ?_
 simp only [Act.put, Act.eval, qn, qv, Nat.reduceAdd]
 refine rfb_neq rfl rfl rfl rfl ?_
 intro x h1
 cases x
 ·(try simp only [decide_eq_true_eq, decide_eq_false_iff_not, Int.not_lt, Int.not_le, beq_iff_eq, beq_eq_false_iff_ne, bne_iff_ne, bne_eq_false_iff_eq, ne_eq, Bool.not_eq_true', Bool.not_eq_false'] at h1)
  simp only [Act.put, Act.eval, qn, qv, Nat.reduceAdd]; refine rg_assign ?_; simp only [Act.put, Act.eval, qn, qv, Nat.reduceAdd]; refine rg_nil ?_; refine ek_next ?_; refine wk_cond_f rfl ?_; refine wk_seq ?_; refine wk_region [0, 0, 0] rfl Kx ?_; simp only [List.zip_cons_cons, List.zip_nil_right]; refine rg_move ?_; simp only [Act.put, Act.eval, qn, qv, Nat.reduceAdd]; refine rf_not rfl rfl rfl ?_; simp only [Act.put, Act.eval, qn, qv, Nat.reduceAdd]
  refine rg_assign ?_; simp only [Act.put, Act.eval, qn, qv, Nat.reduceAdd]; refine rg_nil ?_; refine ek_next ?_; refine wk_cond (t := _) rfl (fun h2 => ?_) (fun h2 => ?_)
  ·(try simp only [decide_eq_true_eq, decide_eq_false_iff_not, Bool.not_eq_true', Bool.not_eq_false', Int.not_lt, Int.not_le] at h2)
   refine wk_seq ?_; refine wk_region [0, 0] rfl Kx ?_; simp only [List.zip_cons_cons, List.zip_nil_right]; refine rg_assign ?_; simp only [Act.put, Act.eval, qn, qv, Nat.reduceAdd]; refine rg_assign ?_; simp only [Act.put, Act.eval, qn, qv, Nat.reduceAdd]; refine rg_nil ?_; refine ek_next ?_; refine wk_ret ?_; refine ek_block_ret ?_; refine ek_then_ret ?_; refine ek_ret (fun w hw => ⟨rfl, _, res_tt _ _ rfl, ?_⟩); (try simp only [Act.put, Act.eval, qn, qv, Nat.reduceAdd])
   first | exact ⟨rfl, hw.below⟩ | exact ⟨trivial, hw.below⟩ | exact hw.below | (exfalso; simp_all)
  ·(try simp only [decide_eq_true_eq, decide_eq_false_iff_not, Bool.not_eq_true', Bool.not_eq_false', Int.not_lt, Int.not_le] at h2)
   refine wk_skip ?_; refine ek_block ?_; refine ek_next ?_; refine wk_seq ?_; refine wk_region [0, 1, 0, 0, 0, 0] rfl Kx ?_; simp only [List.zip_cons_cons, List.zip_nil_right]; refine rf_loadR (n := 2) rfl rfl rfl UU28 rfl Kx (fun w hw => Kn.hd0 hw) rfl rfl ?_; simp only [Act.put, Act.eval, qn, qv, Nat.reduceAdd]; apply rg_pure Rx Kx
   case hargs => exact Ax
   case h => exact fun w hw => by have := mExponent_any n xs a c hl w (hA.kn0 hw); simp only [expR, hv.out, if_true] at this; exact this
   case hz => exact Nz
   simp only [Act.put, Act.eval, qn, qv, Nat.reduceAdd]; refine rf_extract rfl rfl rfl rfl ?_; simp only [Act.put, Act.eval, qn, qv, Nat.reduceAdd]; refine rf_extract rfl rfl rfl rfl ?_; simp only [Act.put, Act.eval, qn, qv, Nat.reduceAdd]; refine rg_assign ?_; simp only [Act.put, Act.eval, qn, qv, Nat.reduceAdd]; refine rg_assign ?_; simp only [Act.put, Act.eval, qn, qv, Nat.reduceAdd]; refine rg_nil ?_; refine ek_next ?_
   refine wk_ret ?_; refine ek_ret (fun w hw => ⟨rfl, _, res_tt _ _ rfl, ?_⟩); (try simp only [Act.put, Act.eval, qn, qv, Nat.reduceAdd])
   first | exact ⟨rfl, hw.below⟩ | exact ⟨trivial, hw.below⟩ | exact hw.below | (exfalso; simp_all)
 ·(try simp only [decide_eq_true_eq, decide_eq_false_iff_not, Int.not_lt, Int.not_le, beq_iff_eq, beq_eq_false_iff_ne, bne_iff_ne, bne_eq_false_iff_eq, ne_eq, Bool.not_eq_true', Bool.not_eq_false'] at h1)
  simp only [Act.put, Act.eval, qn, qv, Nat.reduceAdd]; refine rg_assign ?_; simp only [Act.put, Act.eval, qn, qv, Nat.reduceAdd]; refine rg_nil ?_; refine ek_next ?_; refine wk_cond_t rfl ?_; refine wk_seq ?_; refine wk_region [0, 0, 0] rfl Kx ?_; simp only [List.zip_cons_cons, List.zip_nil_right]; refine rg_move ?_; simp only [Act.put, Act.eval, qn, qv, Nat.reduceAdd]; refine rg_assign ?_; simp only [Act.put, Act.eval, qn, qv, Nat.reduceAdd]
  refine rg_assign ?_; simp only [Act.put, Act.eval, qn, qv, Nat.reduceAdd]; refine rg_nil ?_; refine ek_next ?_; refine wk_ret ?_; refine ek_block_ret ?_; refine ek_then_ret ?_; refine ek_ret (fun w hw => ⟨rfl, _, res_tt _ _ rfl, ?_⟩); (try simp only [Act.put, Act.eval, qn, qv, Nat.reduceAdd])
  first | exact ⟨rfl, hw.below⟩ | exact ⟨trivial, hw.below⟩ | exact hw.below | (exfalso; simp_all)
theorem sunitary_non (n : Int) (xs : List Nm) (a : Option Addr) (c : Nat) (hl : xs.length ≤ 1000000) (hv : Hid (validB n xs = true)) (hu : Hid (unB n xs = false)) (w : World) (hA : AS w a (nms xs)) : Calls Tryz.prog 62 #[.agg #[.int .i64 n, .slice a xs.length c]] w fun e w' => e = .returned (.tuple #[.int .i64 ((0 : Int)), .int .i64 22]) ∧ Below w.heap.size w w' := by
 go_enter Tryz.func62, Tryz.ntmps62
 refine wk_start ?_
 refine wk_seq ?_
 refine wk_region [1, 0, 0] rfl Kx ?_
 simp only [List.zip_cons_cons, List.zip_nil_right]
 refine Rgn fun g1 => ?_
 simp only [Act.put, Act.eval, qn, qv, Nat.reduceAdd]
 refine rg_assign ?_
 simp only [Act.put, Act.eval, qn, qv, Nat.reduceAdd]
 refine rg_assign ?_
 simp only [Act.put, Act.eval, qn, qv, Nat.reduceAdd]
 refine rg_nil ?_
 refine ek_next ?_
 refine wk_seq ?_
 refine wk_region [0, 1, 0, 0, 0, 0, 0] rfl Kx ?_
 simp only [List.zip_cons_cons, List.zip_nil_right]
 refine rf_loadR (n := 2) rfl rfl rfl UU28 rfl Kx (fun w hw => Kn.hd0 hw) rfl rfl ?_
 simp only [Act.put, Act.eval, qn, qv, Nat.reduceAdd]
 apply rg_pure Rx Kx
 case hargs => exact Ax
 case h => exact fun w hw => by have := unitary_any n xs a c hl w (hA.kn0 hw); simp only [hv.out, hu.out, Bool.and_false, Bool.and_true, Bool.false_and, if_true, if_false, Bool.false_eq_true] at this; exact this
 case hz => exact Nz
 simp only [Act.put, Act.eval, qn, qv, Nat.reduceAdd]
 refine rg_move ?_
 simp only [Act.put, Act.eval, qn, qv, Nat.reduceAdd]
 refine rf_extract rfl rfl rfl rfl ?_
 simp only [Act.put, Act.eval, qn, qv, Nat.reduceAdd]
 refine rf_extract rfl rfl rfl rfl ?_
 simp only [Act.put, Act.eval, qn, qv, Nat.reduceAdd]
 refine rg_assign ?_
 simp only [Act.put, Act.eval, qn, qv, Nat.reduceAdd]
 refine rg_assign ?_
 simp only [Act.put, Act.eval, qn, qv, Nat.reduceAdd]
 refine rg_nil ?_
 refine ek_next ?_
 refine wk_seq ?_
 refine wk_block ?_
 refine wk_seq ?_
 refine wk_region [0, 0, 0] rfl Kx ?_
 simp only [List.zip_cons_cons, List.zip_nil_right]
 refine rg_move ?_
 simp only [Act.put, Act.eval, qn, qv, Nat.reduceAdd]
 refine rfb_neq rfl rfl rfl rfl ?_
 intro x h1
 cases x
 ·(try simp only [decide_eq_true_eq, decide_eq_false_iff_not, Int.not_lt, Int.not_le, beq_iff_eq, beq_eq_false_iff_ne, bne_iff_ne, bne_eq_false_iff_eq, ne_eq, Bool.not_eq_true', Bool.not_eq_false'] at h1)
  simp only [Act.put, Act.eval, qn, qv, Nat.reduceAdd]; refine rg_assign ?_; simp only [Act.put, Act.eval, qn, qv, Nat.reduceAdd]; refine rg_nil ?_; refine ek_next ?_; refine wk_cond_f rfl ?_; refine wk_seq ?_; refine wk_region [0, 0, 0] rfl Kx ?_; simp only [List.zip_cons_cons, List.zip_nil_right]; refine rg_move ?_; simp only [Act.put, Act.eval, qn, qv, Nat.reduceAdd]; refine rf_not rfl rfl rfl ?_; simp only [Act.put, Act.eval, qn, qv, Nat.reduceAdd]
  refine rg_assign ?_; simp only [Act.put, Act.eval, qn, qv, Nat.reduceAdd]; refine rg_nil ?_; refine ek_next ?_; refine wk_cond (t := _) rfl (fun h2 => ?_) (fun h2 => ?_)
  ·(try simp only [decide_eq_true_eq, decide_eq_false_iff_not, Bool.not_eq_true', Bool.not_eq_false', Int.not_lt, Int.not_le] at h2)
   refine wk_seq ?_; refine wk_region [0, 0] rfl Kx ?_; simp only [List.zip_cons_cons, List.zip_nil_right]; refine rg_assign ?_; simp only [Act.put, Act.eval, qn, qv, Nat.reduceAdd]; refine rg_assign ?_; simp only [Act.put, Act.eval, qn, qv, Nat.reduceAdd]; refine rg_nil ?_; refine ek_next ?_; refine wk_ret ?_; refine ek_block_ret ?_; refine ek_then_ret ?_; refine ek_ret (fun w hw => ⟨rfl, _, res_tt _ _ rfl, ?_⟩); (try simp only [Act.put, Act.eval, qn, qv, Nat.reduceAdd])
   first | exact ⟨rfl, hw.below⟩ | exact ⟨trivial, hw.below⟩ | exact hw.below | (exfalso; simp_all)
  ·(try simp only [decide_eq_true_eq, decide_eq_false_iff_not, Bool.not_eq_true', Bool.not_eq_false', Int.not_lt, Int.not_le] at h2)
   refine wk_skip ?_; refine ek_block ?_; refine ek_next ?_; refine wk_seq ?_; refine wk_region [0, 1, 0, 0, 0, 0] rfl Kx ?_; simp only [List.zip_cons_cons, List.zip_nil_right]; refine rf_loadR (n := 2) rfl rfl rfl UU28 rfl Kx (fun w hw => Kn.hd0 hw) rfl rfl ?_; simp only [Act.put, Act.eval, qn, qv, Nat.reduceAdd]; apply rg_pure Rx Kx
   case hargs => exact Ax
   case h => exact fun w hw => by have := mExponent_any n xs a c hl w (hA.kn0 hw); simp only [expR, hv.out, if_true] at this; exact this
   case hz => exact Nz
   simp only [Act.put, Act.eval, qn, qv, Nat.reduceAdd]; refine rf_extract rfl rfl rfl rfl ?_; simp only [Act.put, Act.eval, qn, qv, Nat.reduceAdd]; refine rf_extract rfl rfl rfl rfl ?_; simp only [Act.put, Act.eval, qn, qv, Nat.reduceAdd]; refine rg_assign ?_; simp only [Act.put, Act.eval, qn, qv, Nat.reduceAdd]; refine rg_assign ?_; simp only [Act.put, Act.eval, qn, qv, Nat.reduceAdd]; refine rg_nil ?_; refine ek_next ?_
   refine wk_ret ?_; refine ek_ret (fun w hw => ⟨rfl, _, res_tt _ _ rfl, ?_⟩); (try simp only [Act.put, Act.eval, qn, qv, Nat.reduceAdd])
   first | exact ⟨rfl, hw.below⟩ | exact ⟨trivial, hw.below⟩ | exact hw.below | (exfalso; simp_all)
 ·(try simp only [decide_eq_true_eq, decide_eq_false_iff_not, Int.not_lt, Int.not_le, beq_iff_eq, beq_eq_false_iff_ne, bne_iff_ne, bne_eq_false_iff_eq, ne_eq, Bool.not_eq_true', Bool.not_eq_false'] at h1)
  simp only [Act.put, Act.eval, qn, qv, Nat.reduceAdd]; refine rg_assign ?_; simp only [Act.put, Act.eval, qn, qv, Nat.reduceAdd]; refine rg_nil ?_; refine ek_next ?_; refine wk_cond_t rfl ?_; refine wk_seq ?_; refine wk_region [0, 0, 0] rfl Kx ?_; simp only [List.zip_cons_cons, List.zip_nil_right]; refine rg_move ?_; simp only [Act.put, Act.eval, qn, qv, Nat.reduceAdd]; refine rg_assign ?_; simp only [Act.put, Act.eval, qn, qv, Nat.reduceAdd]
  refine rg_assign ?_; simp only [Act.put, Act.eval, qn, qv, Nat.reduceAdd]; refine rg_nil ?_; refine ek_next ?_; refine wk_ret ?_; refine ek_block_ret ?_; refine ek_then_ret ?_; refine ek_ret (fun w hw => ⟨rfl, _, res_tt _ _ rfl, ?_⟩); (try simp only [Act.put, Act.eval, qn, qv, Nat.reduceAdd])
  first | exact ⟨rfl, hw.below⟩ | exact ⟨trivial, hw.below⟩ | exact hw.below | (exfalso; simp_all)
theorem sunitary_yes (n : Int) (xs : List Nm) (a : Option Addr) (c : Nat) (hl : xs.length ≤ 1000000) (hv : Hid (validB n xs = true)) (hu : Hid (unB n xs = true)) (w : World) (hA : AS w a (nms xs)) : Calls Tryz.prog 62 #[.agg #[.int .i64 n, .slice a xs.length c]] w fun e w' => e = .returned (.tuple #[.int .i64 (expo xs), .int .i64 0]) ∧ Below w.heap.size w w' := by
 go_enter Tryz.func62, Tryz.ntmps62
 refine wk_start ?_
 refine wk_seq ?_
 refine wk_region [1, 0, 0] rfl Kx ?_
 simp only [List.zip_cons_cons, List.zip_nil_right]
 refine Rgn fun g1 => ?_
 simp only [Act.put, Act.eval, qn, qv, Nat.reduceAdd]
 refine rg_assign ?_
 simp only [Act.put, Act.eval, qn, qv, Nat.reduceAdd]
 refine rg_assign ?_
 simp only [Act.put, Act.eval, qn, qv, Nat.reduceAdd]
 refine rg_nil ?_
 refine ek_next ?_
 refine wk_seq ?_
 refine wk_region [0, 1, 0, 0, 0, 0, 0] rfl Kx ?_
 simp only [List.zip_cons_cons, List.zip_nil_right]
 refine rf_loadR (n := 2) rfl rfl rfl UU28 rfl Kx (fun w hw => Kn.hd0 hw) rfl rfl ?_
 simp only [Act.put, Act.eval, qn, qv, Nat.reduceAdd]
 apply rg_pure Rx Kx
 case hargs => exact Ax
 case h => exact fun w hw => by have := unitary_any n xs a c hl w (hA.kn0 hw); simp only [hv.out, hu.out, Bool.and_false, Bool.and_true, Bool.false_and, if_true, if_false, Bool.false_eq_true] at this; exact this
 case hz => exact Nz
 simp only [Act.put, Act.eval, qn, qv, Nat.reduceAdd]
 refine rg_move ?_
 simp only [Act.put, Act.eval, qn, qv, Nat.reduceAdd]
 refine rf_extract rfl rfl rfl rfl ?_
 simp only [Act.put, Act.eval, qn, qv, Nat.reduceAdd]
 refine rf_extract rfl rfl rfl rfl ?_
 simp only [Act.put, Act.eval, qn, qv, Nat.reduceAdd]
 refine rg_assign ?_
 simp only [Act.put, Act.eval, qn, qv, Nat.reduceAdd]
 refine rg_assign ?_
 simp only [Act.put, Act.eval, qn, qv, Nat.reduceAdd]
 refine rg_nil ?_
 refine ek_next ?_
 refine wk_seq ?_
 refine wk_block ?_
 refine wk_seq ?_
 refine wk_region [0, 0, 0] rfl Kx ?_
 simp only [List.zip_cons_cons, List.zip_nil_right]
 refine rg_move ?_
 simp only [Act.put, Act.eval, qn, qv, Nat.reduceAdd]
 refine rfb_neq rfl rfl rfl rfl ?_
 intro x h1
 cases x
 ·(try simp only [decide_eq_true_eq, decide_eq_false_iff_not, Int.not_lt, Int.not_le, beq_iff_eq, beq_eq_false_iff_ne, bne_iff_ne, bne_eq_false_iff_eq, ne_eq, Bool.not_eq_true', Bool.not_eq_false'] at h1)
  simp only [Act.put, Act.eval, qn, qv, Nat.reduceAdd]; refine rg_assign ?_; simp only [Act.put, Act.eval, qn, qv, Nat.reduceAdd]; refine rg_nil ?_; refine ek_next ?_; refine wk_cond_f rfl ?_; refine wk_seq ?_; refine wk_region [0, 0, 0] rfl Kx ?_; simp only [List.zip_cons_cons, List.zip_nil_right]; refine rg_move ?_; simp only [Act.put, Act.eval, qn, qv, Nat.reduceAdd]; refine rf_not rfl rfl rfl ?_; simp only [Act.put, Act.eval, qn, qv, Nat.reduceAdd]
  refine rg_assign ?_; simp only [Act.put, Act.eval, qn, qv, Nat.reduceAdd]; refine rg_nil ?_; refine ek_next ?_; refine wk_cond (t := _) rfl (fun h2 => ?_) (fun h2 => ?_)
  ·(try simp only [decide_eq_true_eq, decide_eq_false_iff_not, Bool.not_eq_true', Bool.not_eq_false', Int.not_lt, Int.not_le] at h2)
   refine wk_seq ?_; refine wk_region [0, 0] rfl Kx ?_; simp only [List.zip_cons_cons, List.zip_nil_right]; refine rg_assign ?_; simp only [Act.put, Act.eval, qn, qv, Nat.reduceAdd]; refine rg_assign ?_; simp only [Act.put, Act.eval, qn, qv, Nat.reduceAdd]; refine rg_nil ?_; refine ek_next ?_; refine wk_ret ?_; refine ek_block_ret ?_; refine ek_then_ret ?_; refine ek_ret (fun w hw => ⟨rfl, _, res_tt _ _ rfl, ?_⟩); (try simp only [Act.put, Act.eval, qn, qv, Nat.reduceAdd])
   first | exact ⟨rfl, hw.below⟩ | exact ⟨trivial, hw.below⟩ | exact hw.below | (exfalso; simp_all)
  ·(try simp only [decide_eq_true_eq, decide_eq_false_iff_not, Bool.not_eq_true', Bool.not_eq_false', Int.not_lt, Int.not_le] at h2)
   refine wk_skip ?_; refine ek_block ?_; refine ek_next ?_; refine wk_seq ?_; refine wk_region [0, 1, 0, 0, 0, 0] rfl Kx ?_; simp only [List.zip_cons_cons, List.zip_nil_right]; refine rf_loadR (n := 2) rfl rfl rfl UU28 rfl Kx (fun w hw => Kn.hd0 hw) rfl rfl ?_; simp only [Act.put, Act.eval, qn, qv, Nat.reduceAdd]; apply rg_pure Rx Kx
   case hargs => exact Ax
   case h => exact fun w hw => by have := mExponent_any n xs a c hl w (hA.kn0 hw); simp only [expR, hv.out, if_true] at this; exact this
   case hz => exact Nz
   simp only [Act.put, Act.eval, qn, qv, Nat.reduceAdd]; refine rf_extract rfl rfl rfl rfl ?_; simp only [Act.put, Act.eval, qn, qv, Nat.reduceAdd]; refine rf_extract rfl rfl rfl rfl ?_; simp only [Act.put, Act.eval, qn, qv, Nat.reduceAdd]; refine rg_assign ?_; simp only [Act.put, Act.eval, qn, qv, Nat.reduceAdd]; refine rg_assign ?_; simp only [Act.put, Act.eval, qn, qv, Nat.reduceAdd]; refine rg_nil ?_; refine ek_next ?_
   refine wk_ret ?_; refine ek_ret (fun w hw => ⟨rfl, _, res_tt _ _ rfl, ?_⟩); (try simp only [Act.put, Act.eval, qn, qv, Nat.reduceAdd])
   first | exact ⟨rfl, hw.below⟩ | exact ⟨trivial, hw.below⟩ | exact hw.below | (exfalso; simp_all)
 ·(try simp only [decide_eq_true_eq, decide_eq_false_iff_not, Int.not_lt, Int.not_le, beq_iff_eq, beq_eq_false_iff_ne, bne_iff_ne, bne_eq_false_iff_eq, ne_eq, Bool.not_eq_true', Bool.not_eq_false'] at h1)
  simp only [Act.put, Act.eval, qn, qv, Nat.reduceAdd]; refine rg_assign ?_; simp only [Act.put, Act.eval, qn, qv, Nat.reduceAdd]; refine rg_nil ?_; refine ek_next ?_; refine wk_cond_t rfl ?_; refine wk_seq ?_; refine wk_region [0, 0, 0] rfl Kx ?_; simp only [List.zip_cons_cons, List.zip_nil_right]; refine rg_move ?_; simp only [Act.put, Act.eval, qn, qv, Nat.reduceAdd]; refine rg_assign ?_; simp only [Act.put, Act.eval, qn, qv, Nat.reduceAdd]
  refine rg_assign ?_; simp only [Act.put, Act.eval, qn, qv, Nat.reduceAdd]; refine rg_nil ?_; refine ek_next ?_; refine wk_ret ?_; refine ek_block_ret ?_; refine ek_then_ret ?_; refine ek_ret (fun w hw => ⟨rfl, _, res_tt _ _ rfl, ?_⟩); (try simp only [Act.put, Act.eval, qn, qv, Nat.reduceAdd])
  first | exact ⟨rfl, hw.below⟩ | exact ⟨trivial, hw.below⟩ | exact hw.below | (exfalso; simp_all)
theorem sunitary_any (n : Int) (xs : List Nm) (a : Option Addr) (c : Nat) (hl : xs.length ≤ 1000000) (w : World) (hA : AS w a (nms xs)) : Calls Tryz.prog 62 #[.agg #[.int .i64 n, .slice a xs.length c]] w fun e w' => e = .returned (.tuple #[.int .i64 (lstR n xs).1, .int .i64 (lstR n xs).2]) ∧ Below w.heap.size w w' := by
 unfold lstR
 rcases hv : validB n xs with _ | _
 ·exact sunitary_bad n xs a c hl (Lib.hid hv) w hA
 ·rcases hu : unB n xs with _ | _
  ·exact sunitary_non n xs a c hl (Lib.hid hv) (Lib.hid hu) w hA
  ·exact sunitary_yes n xs a c hl (Lib.hid hv) (Lib.hid hu) w hA
theorem sleast_any (n : Int) (xs : List Nm) (a : Option Addr) (c : Nat) (hl : xs.length ≤ 1000000) (w : World) (hA : AS w a (nms xs)) : Calls Tryz.prog 20 #[.agg #[.int .i64 n, .slice a xs.length c]] w fun e w' => e = .returned (.tuple #[.int .i64 (lstR n xs).1, .int .i64 (lstR n xs).2]) ∧ Below w.heap.size w w' := by
 go_enter Tryz.func20, Tryz.ntmps20
 refine wk_start ?_
 refine wk_seq ?_
 refine wk_region [1, 0, 0] rfl Kx ?_
 simp only [List.zip_cons_cons, List.zip_nil_right]
 refine Rgn fun g1 => ?_
 simp only [Act.put, Act.eval, qn, qv, Nat.reduceAdd]
 refine rg_assign ?_
 simp only [Act.put, Act.eval, qn, qv, Nat.reduceAdd]
 refine rg_assign ?_
 simp only [Act.put, Act.eval, qn, qv, Nat.reduceAdd]
 refine rg_nil ?_
 refine ek_next ?_
 refine wk_seq ?_
 refine wk_region [0, 1, 0, 0, 0, 0] rfl Kx ?_
 simp only [List.zip_cons_cons, List.zip_nil_right]
 refine rf_loadR (n := 2) rfl rfl rfl UU28 rfl Kx (fun w hw => Kn.hd0 hw) rfl rfl ?_
 simp only [Act.put, Act.eval, qn, qv, Nat.reduceAdd]
 apply rg_pure Rx Kx
 case hargs => exact Ax
 case h => exact fun w hw => sunitary_any n xs a c hl w (hA.kn0 hw)
 case hz => exact Nz
 simp only [Act.put, Act.eval, qn, qv, Nat.reduceAdd]
 refine rf_extract rfl rfl rfl rfl ?_
 simp only [Act.put, Act.eval, qn, qv, Nat.reduceAdd]
 refine rf_extract rfl rfl rfl rfl ?_
 simp only [Act.put, Act.eval, qn, qv, Nat.reduceAdd]
 refine rg_assign ?_
 simp only [Act.put, Act.eval, qn, qv, Nat.reduceAdd]
 refine rg_assign ?_
 simp only [Act.put, Act.eval, qn, qv, Nat.reduceAdd]
 refine rg_nil ?_
 refine ek_next ?_
 refine wk_ret ?_
 refine ek_ret (fun w hw => ⟨rfl, _, res_tt _ _ rfl, ?_⟩)
 (try simp only [Act.put, Act.eval, qn, qv, Nat.reduceAdd])
 first | exact ⟨rfl, hw.below⟩ | exact ⟨trivial, hw.below⟩ | exact hw.below | (exfalso; simp_all)
end Go.Proofs.YthjjkajjpejcdaaGreat
