/- Texts in one: AgP0, AgP1, PgT, PgU, Pg8, Sp1, PgV, Fw1, Pg6, Pg9, Fw3, Sp2. -/
import Derived.Test.YtccbinnlnkpplaaGreatLProgramsJ
namespace Go.Proofs.YtccbinnlnkpplaaGreat
set_option linter.all false
set_option maxRecDepth 100000
set_option maxHeartbeats 1000000
theorem nm_okA {xs : List Nm} (h : allOk xs = true) (k : Nat) : (nm xs k).Ok := by
  by_cases hk : k < xs.length
  · exact ok_at h hk
  · have e : nm xs k = Nm.zero := by
      show El.at NmE xs k = _
      unfold El.at
      rw [List.getD_eq_getElem?_getD, List.getElem?_eq_none Ox]
      rfl
    rw [e]; exact zero_ok
def tb (N : Nat) (xs : List Nm) (i k : Nat) : Q4 := (nm xs (i * N + k)).val
theorem validB_mk {N : Nat} {l : List Nm} (h1 : 1 ≤ N) (h6 : N ≤ 6) (hl : l.length = N * N) (ho : allOk l = true) : validB N l = true := by
  have e : ((N * N : Nat) : Int) = (N : Int) * N := Int.natCast_mul N N
  unfold validB
  simp only [Bool.and_eq_true, decide_eq_true_eq]
  exact ⟨by omega, by omega, by omega, ho⟩
theorem made_valid {N : Nat} {f : Nat → Nat → NR} {l : List Nm} (h1 : 1 ≤ N) (h6 : N ≤ 6) (h : madeR N f = .ok l) (hf : ∀ i k z, i < N → k < N → f i k = .ok z → z.Ok) : validB N l = true := by
  refine validB_mk h1 h6 (made_len h) (allOk_true fun t ht => okB_iff.2 ?_)
  have hl := made_len h
  have hg := gather_get h t Ox
  have ht' : t < N * N := by omega
  exact hf (t / N) (t % N) _ (Nat.div_lt_of_lt_mul ht') (Nat.mod_lt _ Ox) hg
theorem rC_gather {f : Nat → NR} {t : Nat} (hf : ∀ i c, i < t → f i = .error c → c ≠ 0) (h : rC (gather f t) = 0) : ∃ l, gather f t = .ok l := by
  cases hg : gather f t with
  | ok l => exact ⟨l, rfl⟩
  | error c =>
    obtain ⟨i, hi, he⟩ := gather_err_mem hg
    rw [hg] at h
    exact absurd h (hf i c hi he)
theorem unB_C {N : Nat} {xs : List Nm} (hv : validB N xs = true) : unB N xs = true ↔ UnC N (tb N xs) := by
  obtain ⟨N', e, h1, h6, hlen, h36, hok⟩ := validB_true hv
  obtain rfl : N' = N := by omega
  rw [unB_iff]
  have one : ∀ k l, k < N' → l < N' → (wnum (colS xs N' k l N') = (wantN k l, true) ↔ sumQ N' (fun i => Q4.conj (nm xs (i * N' + k)).val * (nm xs (i * N' + l)).val) = dl k l) := fun k l hk hl => by
    rw [← colS_val hok hlen h6 hk hl N' Ox]
    exact wnum_iff (colS_W hok hlen h6 hk hl N' Ox).2.1 k l
  exact ⟨fun h i j hi hj => (one i j hi hj).1 (h i j hi hj), fun h i j hi hj => (one i j hi hj).2 (h i j hi hj)⟩
theorem unC_congr {n : Nat} {a b : Nat → Nat → Q4} (h : ∀ i k, i < n → k < n → a i k = b i k) (hb : UnC n b) : UnC n a := by
  intro i j hi hj; rw [← hb i j hi hj]
  exact sumQ_congr fun k hk => by rw [h k i hk hi, h k j hk hj]
end Go.Proofs.YtccbinnlnkpplaaGreat
namespace Go.Proofs.YtccbinnlnkpplaaGreat
set_option linter.all false
set_option maxRecDepth 100000
set_option maxHeartbeats 1000000
theorem tb_ext {N : Nat} {xs ys : List Nm} (hx : validB N xs = true) (hy : validB N ys = true) (h : ∀ i k, i < N → k < N → tb N xs i k = tb N ys i k) : xs = ys := by
  obtain ⟨N', e, h1, h6, hl, -, ho⟩ := validB_true hx
  obtain rfl : N' = N := by omega
  obtain ⟨N'', e', -, -, hl', -, ho'⟩ := validB_true hy
  obtain rfl : N'' = N' := by omega
  have hh : ∀ t, t < N'' * N'' → nm xs t = nm ys t := fun t ht => by
    have hd := h (t / N'') (t % N'') (Nat.div_lt_of_lt_mul ht) (Nat.mod_lt _ Ox)
    unfold tb at hd
    rw [Nat.mul_comm, Nat.div_add_mod] at hd
    exact val_ok (nm_okA ho t) (nm_okA ho' t) hd
  refine List.ext_getElem Ox fun t g1 g2 => ?_
  have := hh t Ox
  unfold nm El.at at this
  rw [List.getD_eq_getElem?_getD, List.getD_eq_getElem?_getD, List.getElem?_eq_getElem g1, List.getElem?_eq_getElem g2] at this
  exact this
theorem mulM_ok {n m : Int} {xs ys : List Nm} (h : rC (mulM n m xs ys) = 0) : ∃ (N : Nat) (l : List Nm), n = N ∧ m = N ∧ 1 ≤ N ∧ N ≤ 6 ∧ validB N xs = true ∧ validB N ys = true ∧ mulM n m xs ys = .ok l ∧ validB N l = true ∧
    ∀ i k, i < N → k < N → tb N l i k = sumQ N fun j => tb N xs i j * tb N ys j k := by
  unfold mulM at h ⊢
  cases hv : validB n xs with
  | false => rw [hv] at h; cases (show (20 : Int) = 0 from h)
  | true =>
  cases hv2 : validB m ys with
  | false => rw [hv, hv2] at h; cases (show (20 : Int) = 0 from h)
  | true =>
  rw [hv, hv2, Bool.and_self, if_pos rfl] at h
  by_cases hnm : n = m
  · subst hnm
    obtain ⟨N, rfl, h1, h6, hlen, h36, hok⟩ := validB_true hv
    obtain ⟨-, -, -, -, -, -, hok2⟩ := validB_true hv2
    rw [if_pos rfl, Int.toNat_natCast] at h; rw [Bool.and_self, if_pos rfl, if_pos rfl, Int.toNat_natCast]
    obtain ⟨l, hl⟩ : ∃ l, madeR N (mulF N xs ys) = .ok l := rC_gather (fun i c _ he => by have := prodsR_code he; omega) h
    have hx : ∀ k, (nm xs k).Ok := nm_okA hok
    have hy : ∀ k, (nm ys k).Ok := nm_okA hok2
    refine ⟨N, l, rfl, rfl, h1, h6, hv, hv2, hl, made_valid h1 h6 hl fun i k z hi hk hz => (prodsR_val (fun _ => hx _) (fun _ => hy _) hz).1, fun i k hi hk => ?_⟩
    exact (prodsR_val (fun _ => hx _) (fun _ => hy _) (made_get hl hi hk)).2
  · rw [if_neg hnm] at h; cases (show (21 : Int) = 0 from h)
theorem mapM_valid {F : Nat → List Nm → Nat → Nat → NR} {N : Nat} {xs : List Nm} (hv : validB N xs = true) (g : Nm → Nm) (hg : ∀ z : Nm, z.Ok → (g z).Ok) (ix : Nat → Nat → Nat) (hF : ∀ i k, F N xs i k = .ok (g (nm xs (ix i k)))) :
    ∃ l, mapM F N xs = .ok l ∧ validB N l = true ∧ ∀ i k, i < N → k < N → nm l (i * N + k) = g (nm xs (ix i k)) := by
  obtain ⟨N', e, h1, h6, hlen, h36, hok⟩ := validB_true hv
  obtain rfl : N' = N := by omega
  unfold mapM
  rw [hv, if_pos rfl, Int.toNat_natCast]
  obtain ⟨l, hl⟩ : ∃ l, madeR N' (F N' xs) = .ok l := by
    have := gather_pure (fun t => g (nm xs (ix (t / N') (t % N')))) (N' * N')
    refine ⟨_, Eq.trans (gather_congr _ fun t _ => ?_) this⟩
    exact hF _ _
  refine ⟨l, hl, made_valid h1 h6 hl fun i k z hi hk hz => ?_, fun i k hi hk => ?_⟩
  · rw [hF] at hz; cases hz; exact hg _ (nm_okA hok _)
  · have := made_get hl hi hk
    rw [hF] at this
    exact (Except.ok.inj this).symm
theorem dagM_ok {N : Nat} {xs : List Nm} (hv : validB N xs = true) : ∃ l, mapM dagF N xs = .ok l ∧ validB N l = true ∧ ∀ i k, i < N → k < N → tb N l i k = Q4.conj (tb N xs k i) := by
  obtain ⟨l, h1, h2, h3⟩ := mapM_valid (F := dagF) hv Nm.conj (fun z hz => conj_ok hz) (fun i k => k * N + i) fun i k => rfl
  exact ⟨l, h1, h2, fun i k hi hk => by unfold tb; rw [h3 i k hi hk, val_conj]⟩
set_option maxHeartbeats 1000000
theorem turn_M (z : Nm) : ∀ n, Nm.turn n z = turnM n z
  | 0 => rfl
  | n + 1 => by show (Nm.turn n z).rot = (turnM n z).rot; rw [turn_M z n]
def itQ (x : It) (m : Tb) : Tb := if x.kind = 1 then phQ (x.at_ - 1).toNat (omP (x.n % 8).toNat) m else if x.kind = 3 then crQ (x.at_ - 1).toNat m else cpQ (x.at_ - 1).toNat m
def actQ (L : List It) (m : Tb) : Tb := L.foldl (fun m x => itQ x m) m
def cpls (L : List It) : Nat := (L.filter fun x => decide (x.kind = 2)).length
theorem actQ_snoc (L : List It) (x : It) (m : Tb) : actQ (L ++ [x]) m = itQ x (actQ L m) := by unfold actQ; rw [List.foldl_append]; rfl
theorem it_kind {N : Nat} {x : It} (h : fitB N x = true) : (x.kind = 1 ∧ (x.at_ - 1).toNat < N ∧ 1 ≤ x.n ∧ x.n ≤ 7) ∨ ((x.kind = 2 ∨ x.kind = 3) ∧ (x.at_ - 1).toNat + 1 < N) := by
  have h' := of_decide_eq_true h
  unfold wd at h'
  obtain ⟨h0, h1, h2⟩ := h'
  by_cases k1 : x.kind = 1
  · rw [if_pos k1] at h0 h2
    split at h0
    · rename_i hn
      rw [if_pos hn] at h2
      exact .inl ⟨k1, by omega, hn.1, hn.2.1⟩
    · exact absurd rfl h0
  · rw [if_neg k1] at h0 h2
    split at h0
    · rename_i hk
      rw [if_pos hk] at h2
      split at h0
      · rename_i hn
        rw [if_pos hn] at h2
        exact .inr ⟨hk, by omega⟩
      · exact absurd rfl h0
    · exact absurd rfl h0
def EqT (N : Nat) (a b : Tb) : Prop := ∀ i k, i < N → k < N → a i k = b i k
theorem itQ_congr {N : Nat} {x : It} {a b : Tb} (hx : fitB N x = true) (h : EqT N a b) : EqT N (itQ x a) (itQ x b) := fun i k hi hk => by
  unfold itQ
  rcases it_kind hx with ⟨k1, hp, -⟩ | ⟨k2, hp⟩
  · rw [if_pos k1, if_pos k1]; unfold phQ; rw [h i k hi hk]
  · have n1 : ¬ x.kind = 1 := by omega
    rw [if_neg n1, if_neg n1]
    by_cases k3 : x.kind = 3
    · rw [if_pos k3, if_pos k3]; exact h _ k (swq_lt hp hi) hk
    · rw [if_neg k3, if_neg k3]
      unfold cpQ
      rw [h i k hi hk, h _ k (by omega : (x.at_ - 1).toNat < N) hk, h _ k hp hk]
theorem itQ_un {N : Nat} {x : It} {m : Tb} (hx : fitB N x = true) (h : UnC N m) : UnC N (itQ x m) := by
  unfold itQ
  rcases it_kind hx with ⟨k1, hp, -⟩ | ⟨k2, hp⟩
  · rw [if_pos k1]; exact ph_un (omP_unit _) h
  · rw [if_neg Ox]
    split
    · exact cr_un hp h
    · exact cp_un hp h
theorem actQ_un {N : Nat} : ∀ {L : List It} {m : Tb}, (∀ x ∈ L, fitB N x = true) → UnC N m → UnC N (actQ L m)
  | [], _, _, h => h
  | x :: L, m, hf, h => actQ_un (L := L) (fun y hy => hf y (by simp [hy])) (itQ_un (hf x (by simp)) h)
theorem dl_un (N : Nat) : UnC N dl := fun i j hi hj => by
  rw [sumQ_congr (g := fun k => dl i k * dl k j) fun k _ => by rw [dl_conj, dl_comm k i], sumQ_dl _ hi]
theorem it_lin {N : Nat} {x : It} (hx : fitB N x = true) (m : Tb) {i k : Nat} (hi : i < N) : itQ x m i k = sumQ N fun j => itQ x dl i j * m j k := by
  have base : ∀ i, i < N → m i k = sumQ N fun j => dl i j * m j k := fun i hi => (sumQ_dl (fun j => m j k) hi).symm
  unfold itQ
  rcases it_kind hx with ⟨k1, hp, -⟩ | ⟨k2, hp⟩
  · rw [if_pos k1]; simp only [if_pos k1]
    unfold phQ
    by_cases e : i = (x.at_ - 1).toNat
    · simp only [if_pos e]; rw [sumQ_congr fun j _ => Q4.mul_assoc _ _ _, sumQ_mul, ← base i hi]
    · simp only [if_neg e]
      exact base i hi
  · have n1 : ¬ x.kind = 1 := by omega
    rw [if_neg n1]; simp only [if_neg n1]
    split
    · exact base _ (swq_lt hp hi)
    · unfold cpQ
      generalize (x.at_ - 1).toNat = p at *
      have lin : ∀ u v : Q4, sumQ N (fun j => hhQ * (u * dl p j + v * dl (p + 1) j) * m j k) = hhQ * (u * m p k + v * m (p + 1) k) := fun u v => by
        rw [sumQ_congr (g := fun j => hhQ * (u * (dl p j * m j k) + v * (dl (p + 1) j * m j k))) fun j _ => by rw [Q4.mul_assoc, Q4.add_mul, Q4.mul_assoc u, Q4.mul_assoc v], sumQ_mul, sumQ_add, sumQ_mul, sumQ_mul, ← base p Ox, ← base (p + 1) hp]
      by_cases e : i = p
      · simp only [if_pos e]
        have := lin 1 imQ
        simp only [Q4.one_mul] at this
        exact this.symm
      · simp only [if_neg e]
        by_cases e2 : i = p + 1
        · simp only [if_pos e2]
          have := lin imQ 1
          simp only [Q4.one_mul] at this
          exact this.symm
        · simp only [if_neg e2]
          exact base i hi
theorem act_lin {N : Nat} : ∀ {L : List It} (m : Tb), (∀ x ∈ L, fitB N x = true) → ∀ {i k : Nat}, i < N → actQ L m i k = sumQ N fun j => actQ L dl i j * m j k
  | [], m, _, i, k, hi => (sumQ_dl (fun j => m j k) hi).symm
  | x :: L, m, hf, i, k, hi => by
    have hx := hf x (by simp)
    have hL : ∀ y ∈ L, fitB N y = true := fun y hy => hf y (by simp [hy])
    show actQ L (itQ x m) i k = sumQ N fun j => actQ L (itQ x dl) i j * m j k
    rw [act_lin (L := L) (itQ x m) hL hi]; rw [sumQ_congr fun j hj => by rw [it_lin hx m hj], ← mul_assocT]
    exact sumQ_congr fun j _ => by rw [act_lin (L := L) (itQ x dl) hL hi]
theorem nm_setI {l : List Nm} {j t : Nat} {v : Nm} (hj : j < l.length) : nm (l.set j v) t = if t = j then v else nm l t := by
  unfold nm El.at
  rw [List.getD_eq_getElem?_getD, List.getD_eq_getElem?_getD, List.getElem?_set]
  by_cases e : t = j
  · subst e; rw [if_pos rfl, if_pos rfl, if_pos hj]; rfl
  · rw [if_neg (fun h => e h.symm), if_neg e]
theorem idM_nm {N t : Nat} (h1 : 1 ≤ N) (h6 : N ≤ 6) (ht : t < N * N) : nm (idM N) t = if t / N = t % N then Nm.one else Nm.zero := by
  have e : idM N = (List.range (N * N)).map fun t => if t / N = t % N then Nm.one else Nm.zero := by
    unfold idM identR
    rw [if_pos Ox, Int.toNat_natCast]
    show rL (gather _ _) = _
    rw [show gather (fun t => idR (t / N) (t % N)) (N * N) = .ok _ from gather_pure (fun t => if t / N = t % N then Nm.one else Nm.zero) (N * N)]
    rfl
  rw [e]
  unfold nm El.at
  rw [List.getD_eq_getElem?_getD, List.getElem?_map, List.getElem?_range ht]; rfl
theorem ix_eq {N i k p q : Nat} (hk : k < N) (hq : q < N) : i * N + k = p * N + q ↔ i = p ∧ k = q := by
  constructor
  · intro h
    have e1 := ix_div (i := i) hk
    have e2 := ix_div (i := p) hq
    have e3 := ix_mod (i := i) hk
    have e4 := ix_mod (i := p) hq
    rw [h] at e1 e3
    exact ⟨e1.symm.trans e2, e3.symm.trans e4⟩
  · rintro ⟨rfl, rfl⟩; rfl
theorem idM_at {N i k : Nat} (h1 : 1 ≤ N) (h6 : N ≤ 6) (hi : i < N) (hk : k < N) : nm (idM N) (i * N + k) = if i = k then Nm.one else Nm.zero := by
  rw [idM_nm h1 h6 (ix_lt hi hk), ix_div hk, ix_mod hk]
theorem itL_at {N : Nat} {x : It} (h1 : 1 ≤ N) (h6 : N ≤ 6) (hx : fitB N x = true) {i k : Nat} (hi : i < N) (hk : k < N) : tb N (itL N x) i k = itQ x dl i k := by
  have vz : Nm.zero.val = 0 := val_zero
  have vo : Nm.one.val = 1 := val_one
  have base : (nm (idM N) (i * N + k)).val = dl i k := by
    rw [idM_at h1 h6 hi hk]
    by_cases e : i = k
    · rw [if_pos e, e, dl_self]; rfl
    · rw [if_neg e, dl_ne e]; rfl
  have lid := idM_len h1 h6
  unfold tb itL plcL itQ
  rcases it_kind hx with ⟨k1, hp, hn1, hn7⟩ | ⟨k2, hp⟩
  · have e1 : ownN x = 1 := if_pos k1
    have e2 : ownL x = [Nm.turn (x.n % 8).toNat Nm.one] := if_pos k1
    rw [e1, e2, if_pos k1]
    generalize (x.at_ - 1).toNat = p at *
    show (nm ((idM N).set ((p + 0 / 1) * N + p + 0 % 1) _) _).val = _
    rw [Nat.zero_div, Nat.zero_mod, Nat.add_zero, Nat.add_zero, nm_setI (by rw [lid]; exact ix_lt hp hp)]
    unfold phQ
    by_cases e : i = p ∧ k = p
    · rw [if_pos ((ix_eq hk hp).2 e), if_pos e.1, e.1, e.2, dl_self, Q4.mul_one]
      show (Nm.turn _ Nm.one).val = _
      rw [turn_M, turnM_val, vo, Q4.mul_one]
    · rw [if_neg (fun h => e ((ix_eq hk hp).1 h)), base]
      by_cases e3 : i = p
      · rw [if_pos e3, dl_ne Ox, Q4.mul_zero]
      · rw [if_neg e3]
  · have n1 : ¬ x.kind = 1 := by omega
    have e1 : ownN x = 2 := if_neg n1
    rw [e1, if_neg n1]
    have four : ∀ z0 z1 z2 z3 : Nm, ownL x = [z0, z1, z2, z3] → ∀ p, p + 1 < N → nm (plcS N p 2 (ownL x) (idM N) 4) (i * N + k) =
        if i = p + 1 ∧ k = p + 1 then z3 else if i = p + 1 ∧ k = p then z2 else if i = p ∧ k = p + 1 then z1 else if i = p ∧ k = p then z0 else nm (idM N) (i * N + k) := by
      intro z0 z1 z2 z3 e p hp; rw [e]
      show nm ((((idM N).set ((p + 0) * N + p + 0) z0).set ((p + 0) * N + p + 1) z1).set ((p + 1) * N + p + 0) z2 |>.set ((p + 1) * N + p + 1) z3) _ = _
      rw [nm_setI (by simp only [List.length_set, lid]; rw [Nat.add_assoc]; exact ix_lt hp hp), nm_setI (by simp only [List.length_set, lid]; exact ix_lt hp Ox),
        nm_setI (by simp only [List.length_set, lid]; rw [Nat.add_assoc]; exact ix_lt Ox hp), nm_setI (by simp only [lid]; exact ix_lt Ox Ox)]
      simp only [Nat.add_zero, Nat.add_assoc]; simp only [ix_eq (N := N) (i := i) (k := k) hk hp, ix_eq (N := N) (i := i) (k := k) hk (show p < N by omega)]
    generalize (x.at_ - 1).toNat = p at *
    show (nm (plcS N p 2 (ownL x) (idM N) 4) (i * N + k)).val = _
    split
    · rename_i k3
      have e2 : ownL x = [Nm.zero, Nm.one, Nm.one, Nm.zero] := by unfold ownL; rw [if_neg n1, if_pos k3]
      rw [four _ _ _ _ e2 p hp]
      unfold crQ swq
      by_cases a1 : i = p
      · subst a1
        rw [if_neg Ox, if_neg Ox, if_pos rfl]
        by_cases b1 : k = i + 1
        · rw [if_pos ⟨rfl, b1⟩, b1, dl_self]; rfl
        · rw [if_neg Ox, dl_ne Ox]
          by_cases b2 : k = i
          · rw [if_pos ⟨rfl, b2⟩]; rfl
          · rw [if_neg Ox, base, dl_ne Ox]
      · rw [if_neg a1]
        by_cases a2 : i = p + 1
        · subst a2
          rw [if_pos rfl]
          by_cases b1 : k = p + 1
          · rw [if_pos ⟨rfl, b1⟩, dl_ne Ox]; rfl
          · rw [if_neg Ox]
            by_cases b2 : k = p
            · rw [if_pos ⟨rfl, b2⟩, b2, dl_self]; rfl
            · rw [if_neg Ox, if_neg Ox, if_neg Ox, base, dl_ne Ox, dl_ne Ox]
        · rw [if_neg Ox, if_neg Ox, if_neg Ox, if_neg Ox, if_neg a2, base]
    · rename_i k3
      have e2 : ownL x = [halfN, sideN, sideN, halfN] := by unfold ownL; rw [if_neg n1, if_neg k3]
      have vh : halfN.val = hhQ := by show Q4.dh (Nm.one.co) = _; rw [dh_hh]; show hhQ * 1 = _; rw [Q4.mul_one]
      have vs : sideN.val = hhQ * imQ := by
        have : sideN.val = Q4.dh (⟨0, 0, 1, 0, 0⟩ : Nm).co := rfl
        rw [this, dh_hh]; rfl
      rw [four _ _ _ _ e2 p hp]
      unfold cpQ
      by_cases a1 : i = p
      · subst a1
        rw [if_neg Ox, if_neg Ox, if_pos rfl]
        by_cases b1 : k = i + 1
        · rw [if_pos ⟨rfl, b1⟩, b1, dl_self, dl_ne Ox, Q4.zero_add, Q4.mul_one, vs]
        · rw [if_neg Ox, dl_ne (show i + 1 ≠ k by omega), Q4.mul_zero, Q4.add_zero]
          by_cases b2 : k = i
          · rw [if_pos ⟨rfl, b2⟩, b2, dl_self, Q4.mul_one, vh]
          · rw [if_neg Ox, base, dl_ne Ox, Q4.mul_zero]
      · rw [if_neg a1]
        by_cases a2 : i = p + 1
        · subst a2
          rw [if_pos rfl]
          by_cases b1 : k = p + 1
          · rw [if_pos ⟨rfl, b1⟩, b1, dl_self, dl_ne Ox, Q4.mul_zero, Q4.zero_add, Q4.mul_one, vh]
          · rw [if_neg Ox, dl_ne (show p + 1 ≠ k by omega), Q4.add_zero]
            by_cases b2 : k = p
            · rw [if_pos ⟨rfl, b2⟩, b2, dl_self, Q4.mul_one, vs]
            · rw [if_neg Ox, if_neg Ox, if_neg Ox, base, dl_ne Ox, dl_ne Ox, Q4.mul_zero, Q4.mul_zero]
        · rw [if_neg Ox, if_neg Ox, if_neg Ox, if_neg Ox, if_neg a2, base]
theorem idM_ok {N : Nat} (h1 : 1 ≤ N) (h6 : N ≤ 6) : validB N (idM N) = true := by
  refine validB_mk h1 h6 (idM_len h1 h6) ?_
  unfold allOk
  rw [List.all_eq_true]; intro z hz
  obtain ⟨t, ht, e⟩ := List.getElem_of_mem hz
  have := idM_nm h1 h6 (t := t) (by rw [← idM_len h1 h6]; exact ht)
  unfold nm El.at at this
  rw [List.getD_eq_getElem?_getD, List.getElem?_eq_getElem ht] at this
  have this' : (idM N)[t] = _ := this
  rw [← e, this']
  split <;> decide
theorem take_it {xs : List It} {j : Nat} (h : j < xs.length) : xs.take (j + 1) = xs.take j ++ [it xs j] := by
  rw [List.take_succ, List.getElem?_eq_getElem h]
  unfold it
  rw [List.getD_eq_getElem?_getD, List.getElem?_eq_getElem h]; rfl
theorem matS_act {N : Nat} {xs : List It} (h1 : 1 ≤ N) (h6 : N ≤ 6) (hf : ∀ x ∈ xs, fitB N x = true) : ∀ j, j ≤ xs.length → ∀ {l : List Nm}, matS N xs j = .ok l → validB N l = true ∧ EqT N (tb N l) (actQ (xs.take j) dl)
  | 0, _, l, h => by
    cases (show Except.ok (idM N) = Except.ok l from h)
    refine ⟨idM_ok h1 h6, fun i k hi hk => ?_⟩
    show (nm _ _).val = dl i k
    rw [idM_at h1 h6 hi hk]
    by_cases e : i = k
    · rw [if_pos e, e, dl_self]; rfl
    · rw [if_neg e, dl_ne e]; rfl
  | j + 1, hj, l, h => by
    rw [matS] at h
    split at h
    · cases h
    · rename_i l0 h0
      obtain ⟨v0, e0⟩ := matS_act h1 h6 hf j Ox h0
      obtain ⟨N', l', n1, n2, -, -, -, -, hl, hv, ht⟩ := mulM_ok (show rC (mulM N N (itL N (it xs j)) l0) = 0 by rw [h]; rfl)
      obtain rfl : N = N' := by omega
      rw [h] at hl
      cases hl
      have hx := hf _ (it_mem (show j < xs.length by omega))
      refine ⟨hv, fun i k hi hk => ?_⟩; rw [ht i k hi hk, take_it Ox, actQ_snoc, it_lin hx _ hi]
      exact sumQ_congr fun j' hj' => by rw [itL_at h1 h6 hx hi hj', e0 j' k hj' hk]
theorem act_in {N : Nat} : ∀ {L : List It} {m : Tb} {K : Nat}, (∀ x ∈ L, fitB N x = true) → (∀ i k, i < N → k < N → InQ K (m i k)) → ∀ i k, i < N → k < N → InQ (K + cpls L) (actQ L m i k)
  | [], _, _, _, h => h
  | x :: L, m, K, hf, h => by
    have hx := hf x (by simp)
    have hL : ∀ y ∈ L, fitB N y = true := fun y hy => hf y (by simp [hy])
    show ∀ i k, i < N → k < N → InQ (K + cpls (x :: L)) (actQ L (itQ x m) i k)
    rcases it_kind hx with ⟨k1, hp, -⟩ | ⟨k2, hp⟩
    · have e : cpls (x :: L) = cpls L := by unfold cpls; rw [List.filter_cons_of_neg]; simp; omega
      rw [e]
      refine act_in hL fun i k hi hk => ?_
      unfold itQ
      rw [if_pos k1]
      unfold phQ
      split
      · exact (h i k hi hk).omn _
      · exact h i k hi hk
    · by_cases k3 : x.kind = 3
      · have e : cpls (x :: L) = cpls L := by unfold cpls; rw [List.filter_cons_of_neg]; simp; omega
        rw [e]
        refine act_in hL fun i k hi hk => ?_
        unfold itQ
        rw [if_neg Ox, if_pos k3]
        exact h _ k (swq_lt hp hi) hk
      · have e : cpls (x :: L) = cpls L + 1 := by unfold cpls; rw [List.filter_cons_of_pos]; rfl; simp; omega
        rw [e, show K + (cpls L + 1) = (K + 1) + cpls L by omega]
        refine act_in hL fun i k hi hk => ?_
        unfold itQ
        rw [if_neg Ox, if_neg k3]
        unfold cpQ
        have i1 := h (x.at_ - 1).toNat k Ox hk
        have i2 := h ((x.at_ - 1).toNat + 1) k hp hk
        split
        · exact (i1.add i2.im).hh
        · split
          · exact (i1.im.add i2).hh
          · exact (h i k hi hk).up
theorem expo_max {xs : List Nm} {K : Int} (h0 : 0 ≤ K) (h : ∀ z ∈ xs, z.k ≤ K) : expo xs ≤ K := by
  unfold expo
  have : ∀ (xs : List Nm) (a : Int), a ≤ K → (∀ z ∈ xs, z.k ≤ K) → xs.foldl (fun k z => if k < z.k then z.k else k) a ≤ K := by
    intro xs
    induction xs with
    | nil => intro a ha _; exact ha
    | cons x xs ih =>
      intro a ha h
      refine ih _ ?_ fun z hz => h z (by simp [hz])
      have hx := h x (by simp)
      show (if a < x.k then x.k else a) ≤ K
      split
      · exact hx
      · exact ha
  exact this xs 0 h0 h
theorem expo_cpls {N : Nat} {L : List It} {l : List Nm} (hf : ∀ x ∈ L, fitB N x = true) (hv : validB N l = true) (he : EqT N (tb N l) (actQ L dl)) : expo l ≤ cpls L := by
  obtain ⟨N', e, h1, h6, hl, -, ho⟩ := validB_true hv
  obtain rfl : N' = N := by omega
  refine expo_max Ox fun z hz => ?_
  obtain ⟨t, ht, ez⟩ := List.getElem_of_mem hz
  have hz' : nm l t = z := by unfold nm El.at; rw [List.getD_eq_getElem?_getD, List.getElem?_eq_getElem ht]; exact ez
  have hd : N' * (t / N') + t % N' = t := Nat.div_add_mod t N'
  have hi : t / N' < N' := Nat.div_lt_of_lt_mul Ox
  have hk : t % N' < N' := Nat.mod_lt _ Ox
  have h2 := act_in (K := 0) hf (fun i k _ _ => by
    show InQ 0 (dl i k)
    unfold dl
    split
    · exact InQ.one 0
    · exact InQ.zero 0) (t / N') (t % N') hi hk
  rw [← he _ _ hi hk] at h2
  unfold tb at h2
  rw [Nat.mul_comm, hd, hz', Nat.zero_add] at h2
  have ok : z.Ok := by rw [← hz']; exact nm_okA ho t
  exact le_in ok.nf ok.k0 h2
theorem prog_mat {N : Nat} {L : List It} {l m : List Nm} (hf : ∀ x ∈ L, fitB N x = true) (hm : validB N m = true) (hu : unB N m = true) (hI : EqT N (actQ L fun i k => Q4.conj (tb N m k i)) dl) : EqT N (actQ L dl) (tb N m) := fun i l hi hl => by
  have hc := (unB_C hm).1 hu
  have h1 : ∀ k, k < N → sumQ N (fun j => actQ L dl i j * Q4.conj (tb N m k j)) = dl i k := fun k hk => by
    rw [← hI i k hi hk, act_lin _ hf hi]
  have h2 : sumQ N (fun k => sumQ N (fun j => actQ L dl i j * Q4.conj (tb N m k j)) * tb N m k l) = tb N m i l := by
    rw [sumQ_congr fun k hk => by rw [h1 k hk], sumQ_dl _ hi]
  rw [mul_assocT (fun i j => actQ L dl i j) (fun j k => Q4.conj (tb N m k j)) (tb N m) i l] at h2; rw [← h2, sumQ_congr fun j hj => by rw [hc j l hj hl], sumQ_dlr _ hl]
set_option maxHeartbeats 1000000
theorem empU : (⟨#[]⟩ : ByteArray).toList.isEmpty = true := by
  unfold ByteArray.toList
  unfold ByteArray.toList.loop
  rfl
theorem fit_crossU {N p : Nat} (hp : p + 1 < N) : fitB N (cross p) = true := by
  have e : wd (cross p) = 2 := by unfold wd cross; rw [if_neg (show ¬ ((3 : Int) = 1) by decide), if_pos (show (3 : Int) = 2 ∨ (3 : Int) = 3 by decide), if_pos ⟨rfl, empU⟩]
  exact fitB_true ⟨by rw [e]; decide, by show (1 : Int) ≤ (p : Int) + 1; omega, by rw [e]; show (p : Int) + 1 ≤ _; omega⟩
theorem fit_cplU {N p : Nat} (hp : p + 1 < N) : fitB N (cplI ((p : Int) + 1)) = true := by
  have e : wd (cplI ((p : Int) + 1)) = 2 := by unfold wd cplI; rw [if_neg (show ¬ ((2 : Int) = 1) by decide), if_pos (show (2 : Int) = 2 ∨ (2 : Int) = 3 by decide), if_pos ⟨rfl, empU⟩]
  exact fitB_true ⟨by rw [e]; decide, by show (1 : Int) ≤ (p : Int) + 1; omega, by rw [e]; show (p : Int) + 1 ≤ _; omega⟩
theorem fit_phsU {N p m : Nat} (hp : p < N) (h0 : m ≠ 0) (h7 : m < 8) : fitB N (phsI ((p : Int) + 1) m) = true := by
  have e : wd (phsI ((p : Int) + 1) m) = 1 := by unfold wd phsI; rw [if_pos (show (1 : Int) = 1 from rfl), if_pos ⟨by show (1 : Int) ≤ (m : Int); omega, by show (m : Int) ≤ 7; omega, empU⟩]
  exact fitB_true ⟨by rw [e]; decide, by show (1 : Int) ≤ (p : Int) + 1; omega, by rw [e]; show (p : Int) + 1 ≤ _; omega⟩
theorem itQ_cross (p : Nat) (m : Tb) : itQ (cross p) m = crQ p m := by
  have e : ((cross p).at_ - 1).toNat = p := by show ((p : Int) + 1 - 1).toNat = p; omega
  unfold itQ
  rw [if_neg (show ¬ (cross p).kind = 1 by show ¬ (3 : Int) = 1; decide), if_pos (show (cross p).kind = 3 from rfl), e]
theorem itQ_cpl (p : Nat) (m : Tb) : itQ (cplI ((p : Int) + 1)) m = cpQ p m := by
  have e : ((cplI ((p : Int) + 1)).at_ - 1).toNat = p := by show ((p : Int) + 1 - 1).toNat = p; omega
  unfold itQ
  rw [if_neg (show ¬ (cplI ((p : Int) + 1)).kind = 1 by show ¬ (2 : Int) = 1; decide), if_neg (show ¬ (cplI ((p : Int) + 1)).kind = 3 by show ¬ (2 : Int) = 3; decide), e]
theorem itQ_phs (p n : Nat) (hn : n < 8) (m : Tb) : itQ (phsI ((p : Int) + 1) n) m = phQ p (omP n) m := by
  have e : ((phsI ((p : Int) + 1) n).at_ - 1).toNat = p := by show ((p : Int) + 1 - 1).toNat = p; omega
  have e2 : ((phsI ((p : Int) + 1) n).n % 8).toNat = n := by show ((n : Int) % 8).toNat = n; omega
  unfold itQ
  rw [if_pos (show (phsI ((p : Int) + 1) n).kind = 1 from rfl), e, e2]
theorem phQ_zero (p : Nat) (m : Tb) : phQ p (omP 0) m = m := by
  funext i k
  unfold phQ
  split
  · show 1 * m i k = m i k; rw [Q4.one_mul]
  · rfl
theorem mem_snoc {L : List It} {x : It} {P : It → Prop} (h : ∀ y ∈ L, P y) (hx : P x) : ∀ y ∈ L ++ [x], P y := fun y hy => by
  rcases List.mem_append.1 hy with h' | h'
  · exact h y h'
  · rcases List.mem_singleton.1 h' with rfl; exact hx
structure Rn (N col : Nat) (B : Int) (M0 : Tb) (W : Nat) (z : Zt) (L : List It) : Prop where
  pi : PI N col z
  bnd : Bnd N col B z
  act : EqT N (vt z) (actQ L M0)
  fit : ∀ x ∈ L, fitB N x = true
  len : L.length + 2 * muZ N col z ≤ W
theorem bs_at (b : Nat) (z : Zt) : ∀ j, j ≤ b → bsZ b z j (b - j) = z b ∧ ∀ i, i < b - j → bsZ b z j i = z i
  | 0, _ => ⟨rfl, fun _ _ => rfl⟩
  | j + 1, hj => by
    obtain ⟨h1, h2⟩ := bs_at b z j Ox
    have e : b - (j + 1) = b - 1 - j := by omega
    rw [e]; refine ⟨?_, fun i hi => ?_⟩
    · show bsZ b z j (swq (b - 1 - j) (b - 1 - j)) = z b
      rw [swq_p, show b - 1 - j + 1 = b - j by omega]
      exact h1
    · show bsZ b z j (swq (b - 1 - j) i) = z i
      rw [swq_o Ox Ox]
      exact h2 i Ox
theorem bs_keep {N col b : Nat} {B : Int} {M0 : Tb} {z : Zt} {L : List It} (h : PI N col z) (hb : Bnd N col B z) (ha : EqT N (vt z) (actQ L M0)) (hf : ∀ x ∈ L, fitB N x = true) (hbN : b < N) : ∀ j, col + j ≤ b →
    PI N col (bsZ b z j) ∧ Bnd N col B (bsZ b z j) ∧ muZ N col (bsZ b z j) ≤ muZ N col z ∧ EqT N (vt (bsZ b z j)) (actQ (L ++ bsL b j) M0) ∧ ∀ x ∈ L ++ bsL b j, fitB N x = true
  | 0, _ => ⟨h, hb, Nat.le_refl _, by rw [show L ++ bsL b 0 = L from List.append_nil L]; exact ha, by rw [show L ++ bsL b 0 = L from List.append_nil L]; exact hf⟩
  | j + 1, hj => by
    obtain ⟨h1, h2, h3, h4, h5⟩ := bs_keep h hb ha hf hbN j Ox
    obtain ⟨c1, c2, c3⟩ := h1.cross h2 (show col ≤ b - 1 - j by omega) (show b - 1 - j + 1 < N by omega)
    have hx := fit_crossU (N := N) (p := b - 1 - j) Ox
    refine ⟨c1, c2, Nat.le_trans c3 h3, ?_, ?_⟩
    · rw [bsL, ← List.append_assoc, actQ_snoc, itQ_cross]
      have := itQ_congr hx h4
      rw [itQ_cross, itQ_cross] at this
      exact this
    · rw [bsL, ← List.append_assoc]
      exact mem_snoc h5 hx
theorem phs_keep {N p m : Nat} {M0 : Tb} {z : Zt} {L : List It} (ha : EqT N (vt z) (actQ L M0)) (hf : ∀ x ∈ L, fitB N x = true) (hp : p < N) (hm : m < 8) :
    EqT N (vt (phZ p m z)) (actQ (if m = 0 then L else L ++ [phsI ((p : Int) + 1) m]) M0) ∧ (∀ x ∈ (if m = 0 then L else L ++ [phsI ((p : Int) + 1) m]), fitB N x = true) ∧ (if m = 0 then L else L ++ [phsI ((p : Int) + 1) m]).length ≤ L.length + 1 := by
  by_cases h0 : m = 0
  · subst h0
    rw [if_pos rfl, ph_vt, phQ_zero]
    exact ⟨ha, hf, by omega⟩
  · rw [if_neg h0]
    have hx := fit_phsU (N := N) hp h0 hm
    refine ⟨?_, mem_snoc hf hx, by rw [List.length_append]; exact Nat.le_refl _⟩; rw [actQ_snoc, itQ_phs p m hm, ph_vt]
    have := itQ_congr hx ha
    rw [itQ_phs p m hm, itQ_phs p m hm] at this
    exact this
theorem Rn.pair {N col W K : Nat} {B : Int} {M0 : Tb} {z z' : Zt} {L L' : List It} (h : Rn N col B M0 W z L) (hN : N ≤ 4) (hc : col < N) (hK : 0 < K) (hE : IsExp N col z K) (hP : PairR N col K z L z' L') :
    Rn N col B M0 W z' L' ∧ muZ N col z' < muZ N col z := by
  obtain ⟨pi, bnd, act, fit, len⟩ := h
  rcases hP with ⟨-, -, hno⟩ | ⟨a, b, hca, hab, hbN, hk0, hkb, rfl, rfl⟩
  · exfalso
    obtain ⟨a, ha, haN, hka⟩ := hE.2.2 Ox
    have hk : kindN (z a col) K ≠ 0 := by
      rcases kind_cases (z a col) K Ox with ⟨e, h1⟩ | ⟨e, -⟩ | ⟨e, -⟩ <;> omega
    obtain ⟨b, hb, hbN, hne, he⟩ := pi.pair hc hK hE ha haN hk
    rcases (by omega : a < b ∨ b < a) with hlt | hlt
    · exact hno a b ha hlt hbN hk he
    · exact hno b a hb hlt haN Ox he.symm
  · obtain ⟨c1, c2, c3, c4, c5⟩ := bs_keep pi bnd act fit hbN (b - (a + 1)) Ox
    obtain ⟨e1, e2⟩ := bs_at b z (b - (a + 1)) Ox
    rw [show b - (b - (a + 1)) = a + 1 by omega] at e1 e2
    have e3 := e2 a Ox
    have hlen := bsL_len b (b - (a + 1))
    generalize bsZ b z (b - (a + 1)) = y at *
    generalize bsL b (b - (a + 1)) = M at *
    have k1 : (z a col).k ≤ K := hE.2.1 a hca Ox
    have k2 : (z b col).k ≤ K := hE.2.1 b Ox hbN
    have s := c1.step (K := K) c2 hca (show a + 1 < N by omega) hK (by rw [e3]; exact k1) (by rw [e1]; exact k2) (by rw [e3, e1]; exact hkb.symm) (by rw [e3]; exact hk0)
    have ez : z a col = y a col := by rw [e3]
    rw [ez]
    obtain ⟨s1, s2, s3, s4⟩ := s
    have hm : (matchN (y a col) (y (a + 1) col) + 6) % 8 < 8 := Nat.mod_lt _ Ox
    generalize (matchN (y a col) (y (a + 1) col) + 6) % 8 = m at *
    obtain ⟨p1, p2, p3⟩ := phs_keep (p := a + 1) (m := m) c4 c5 Ox hm
    have hx := fit_cplU (N := N) (p := a) Ox
    refine ⟨⟨s1, s2, ?_, mem_snoc p2 hx, ?_⟩, by omega⟩
    · rw [actQ_snoc, itQ_cpl]
      have := itQ_congr hx p1
      rw [itQ_cpl, itQ_cpl] at this; intro i k hi hk; rw [s4 i k hi hk, ← this i k hi hk, ph_vt]
    · rw [List.length_append] at p3 ⊢
      show _ + 1 + _ ≤ _
      omega
theorem Rn.unit {N col W : Nat} {B : Int} {M0 : Tb} {z : Zt} {L : List It} (h : Rn N col B M0 W z L) (hc : col < N) (hE : ¬ 0 < expZ z col (N - col)) :
    ∃ a, col ≤ a ∧ a < N ∧ z a col ≠ Nm.zero ∧ (∀ i, i < N → i ≠ a → z i col = Nm.zero) := by
  have he := expZ_exp (N := N) (z := z) (show col ≤ N by omega)
  obtain ⟨a, h1, h2, -, h3, h4⟩ := h.pi.unit hc (fun i hi hiN => by have := he.2.1 i hi hiN; omega)
  exact ⟨a, h1, h2, h3, h4⟩
theorem Rn.beside {N col W a : Nat} {B : Int} {M0 : Tb} {z : Zt} {L : List It} (h : Rn N col B M0 W z L) (hN : N ≤ 4) (hc : col < N) (ha : col ≤ a) (haN : a < N) (hne : z a col ≠ Nm.zero) (hE : ¬ 0 < expZ z col (N - col)) :
    PI N col (bsZ a z (a - col)) ∧ Bnd N col B (bsZ a z (a - col)) ∧ EqT N (vt (bsZ a z (a - col))) (actQ (L ++ bsL a (a - col)) M0) ∧ (∀ x ∈ L ++ bsL a (a - col), fitB N x = true) ∧ (L ++ bsL a (a - col)).length ≤ W + 3 ∧
    (∃ n, n < 8 ∧ turnM n (bsZ a z (a - col) col col) = Nm.one) ∧ ∀ i, i < N → i ≠ col → bsZ a z (a - col) i col = Nm.zero := by
  obtain ⟨pi, bnd, act, fit, len⟩ := h
  have he := expZ_exp (N := N) (z := z) (show col ≤ N by omega)
  obtain ⟨c1, c2, c3, c4, c5⟩ := bs_keep pi bnd act fit haN (a - col) Ox
  obtain ⟨e1, e2⟩ := bs_at a z (a - col) Ox
  rw [show a - (a - col) = col by omega] at e1
  have hz : ∀ j, j ≤ a - col → ∀ i, col ≤ i → i < N → (bsZ a z j i col).k ≤ 0 := by
    intro j hj
    induction j with
    | zero => intro i hi hiN; have := he.2.1 i hi hiN; show (z i col).k ≤ 0; omega
    | succ j ih => intro i hi hiN; exact ih Ox _ (swq_ge Ox hi) (swq_lt Ox hiN)
  obtain ⟨a', h1, h2, h3, h4, h5⟩ := c1.unit hc (hz _ (Nat.le_refl _))
  have hlen := bsL_len a (a - col)
  have ea : a' = col := by
    refine Decidable.byContradiction fun hn => ?_
    have := h5 col hc (fun e => hn e.symm)
    rw [e1] at this
    exact hne this
  subst ea
  exact ⟨c1, c2, c4, c5, by rw [List.length_append, hlen]; omega, h3, h5⟩
theorem Rn.last {N col m : Nat} {B : Int} {M0 : Tb} {z : Zt} {L : List It} (hN : N ≤ col + 4) (hB : N = col + 4 → B ≤ 13) (hc : col < N) (pi : PI N col z) (bnd : Bnd N col B z) (act : EqT N (vt z) (actQ L M0)) (fit : ∀ x ∈ L, fitB N x = true)
    (hm : m < 8) (h1 : turnM m (z col col) = Nm.one) (h2 : ∀ i, i < N → i ≠ col → z i col = Nm.zero) :
    PI N (col + 1) (phZ col m z) ∧ Cb N (col + 1) (phZ col m z) ∧ EqT N (vt (phZ col m z)) (actQ (if m = 0 then L else L ++ [phsI ((col : Int) + 1) m]) M0) ∧
    (∀ x ∈ (if m = 0 then L else L ++ [phsI ((col : Int) + 1) m]), fitB N x = true) ∧ (if m = 0 then L else L ++ [phsI ((col : Int) + 1) m]).length ≤ L.length + 1 := by
  obtain ⟨c1, c2, -⟩ := pi.phase (n := m) bnd (Nat.le_refl col) hc
  obtain ⟨p1, p2, p3⟩ := phs_keep (p := col) (m := m) act fit hc hm
  refine ⟨c1.next hc ((if_pos rfl).trans h1) (fun i hi hne => (if_neg hne).trans (h2 i hi hne)), c2.next hB hN, p1, p2, p3⟩
end Go.Proofs.YtccbinnlnkpplaaGreat
namespace Go.Proofs.YtccbinnlnkpplaaGreat
set_option linter.all false
set_option maxRecDepth 100000
set_option maxHeartbeats 1000000
open Go.RowKit
theorem exl_loop {B w : World} {F : List Nat} {s : List Blk} {l : Nat} {r : Loop} (K : Kn B F ((l, .loop r) :: s) w) : ∃ r', r' = r := ⟨_, rfl⟩
theorem fold_zipK {γ : Type} (f : γ → Nat × Value → γ) (t : γ) (p : Nat) (v : Value) : Array.foldl f t (#[p].zip #[v]) = f t (p, v) := by
  have e : (#[p].zip #[v]) = #[(p, v)] := by rw [List.zip_toArray]; rfl
  rw [e]; simp
def chunkL (zs : List Nm) (i N : Nat) : List Nm := (List.range N).map fun k => nm zs (i + k)
theorem chunkL_len (zs : List Nm) (i N : Nat) : (chunkL zs i N).length = N := by simp [chunkL]
theorem chunkL_nm {zs : List Nm} {i N k : Nat} (h : k < N) : nm (chunkL zs i N) k = nm zs (i + k) := by
  show ((chunkL zs i N).getD k _) = _
  unfold chunkL
  rw [List.getD_eq_getElem?_getD, List.getElem?_map, List.getElem?_range h]; rfl
theorem chunk_as {w : World} {b i N : Nat} {zs : List Nm} {r : List Value} (h : Hd w b 55 (NmE.flat zs ++ r).toArray) (hl : i + N ≤ zs.length) : AS w (some ⟨b, 0 + i * 5, none⟩) (nms (chunkL zs i N)) := fun _ => by
  refine ⟨b, _, rfl, h.lt, fun j hj => ?_⟩
  have hf : (nms (chunkL zs i N)).length = N * 5 := (NmE.flat_len _).trans (by rw [chunkL_len])
  have hd := Nat.div_add_mod j 5
  have hm5 := Nat.mod_lt j (show 0 < 5 by omega)
  have hk : j / 5 < N := by omega
  have h1 := NmE.get (chunkL zs i N) (j / 5) (j % 5) (by rw [chunkL_len]; exact hk) hm5
  have h2 := NmE.get zs (i + j / 5) (j % 5) Ox hm5
  have e1 : NmE.at (chunkL zs i N) (j / 5) = NmE.at zs (i + j / 5) := chunkL_nm hk
  rw [e1, ← h2] at h1
  have e2 : j / 5 * NmE.sz + j % 5 = j := by show j / 5 * 5 + j % 5 = j; omega
  have e3 : (i + j / 5) * NmE.sz + j % 5 = 0 + i * 5 + j := by show (i + j / 5) * 5 + j % 5 = _; omega
  rw [e2, e3] at h1
  have hzl := NmE.flat_len zs
  have hlt : 0 + i * 5 + j < (NmE.flat zs).length := by rw [hzl]; show _ < zs.length * 5; omega
  rw [h.cell, List.getElem?_toArray, List.getElem?_append_left hlt, h1]
def ChC (N lp gp gw bz : Nat) (r : Loop) (zs : List Nm) (rz : List Value) (j : Nat) (s : List Blk) : Prop := ∃ (ra : Option Addr) (rc : Nat) (rs : List RW) (uo : List Blk),
  s = (lp, .loop r) :: (gp, .cells #[.pointer (some ⟨gw, 0, none⟩)] 46) :: (gw, .cells #[.slice ra j rc, .slice none 0 0] 49) :: (bz, .cells (NmE.flat zs ++ rz).toArray 55) :: (rwB rs ++ (uo ++ [])) ∧
  Own 22 1 uo (.slice ra j rc) j (rwV N rs) ∧ rs.length = j ∧ ∀ i x, rs[i]? = some x → x.l.length = N ∧ ∀ k, k < N → nm x.l k = nm zs (i * N + k)
theorem rw_snoc_get {rs : List RW} {x q : RW} {i : Nat} (h : (rs ++ [x])[i]? = some q) : i = rs.length ∧ q = x ∨ rs[i]? = some q := by
  rcases (by omega : i < rs.length ∨ i = rs.length ∨ rs.length < i) with h1 | h1 | h1
  · rw [List.getElem?_append_left h1] at h; exact .inr h
  · subst h1
    rw [List.getElem?_append_right (Nat.le_refl _), Nat.sub_self] at h
    exact .inl ⟨rfl, (Option.some.inj h).symm⟩
  rw [List.getElem?_eq_none (by simp; omega)] at h; cases h
noncomputable def askE (n : Int) (xs : List Nm) : Int := if validB n xs = true then (if n > 4 ∨ expo xs > mostN n.toNat then 4 else if unB n xs = true then 0 else 22) else 20
theorem ask_zero {n : Int} {xs : List Nm} (h : askE n xs = 0) : validB n xs = true ∧ ¬ n > 4 ∧ ¬ expo xs > mostN n.toNat ∧ unB n xs = true := by
  unfold askE at h
  split at h
  · rename_i hv
    split at h
    · cases h
    rename_i ho
    split at h
    · rename_i hu
      exact ⟨hv, fun h' => ho (.inl h'), fun h' => ho (.inr h'), hu⟩
    cases h
  cases h
def ProgL (N : Nat) (xs : List Nm) (L : List It) : Prop := (∀ x ∈ L, fitB N x = true) ∧ L.length ≤ 5000 ∧ EqT N (actQ L fun i k => Q4.conj (tb N xs k i)) dl
theorem prog_invalid (n : Int) (xs : List Nm) (a : Option Addr) (c : Nat) (hl : xs.length ≤ 1000000) (hv : Hid (validB n xs = false)) (w : World) (hA : AS w a (nms xs)) : Calls Tryz.prog 5 #[.agg #[.int .i64 n, .slice a xs.length c]] w fun e w' => RetS w [] 20 e w' := by
  refine calls_marks Tryz.func5 rfl ?_; simp only [Tryz.ntmps5, List.size_toArray, List.length_cons, List.length_nil, Nat.reduceAdd, Nat.reduceSub, Array.replicate_succ, Array.replicate_zero, List.push_toArray, List.append_toArray, List.nil_append, List.cons_append]; refine wk_seq ?_; refine wk_region [1, 0, 0] rfl Kx ?_; simp only [qy]
  refine Rgn fun g1 => ?_
  refine Zm ?_; refine rg_nil (ek_next (wk_seq (wk_seq ?_))); refine wk_region [0, 1, 0] rfl Kx ?_; simp only [qy]; refine rf_loadR (n := 2) rfl rfl rfl Tryz.underlying24 rfl Kx (fun w hw => Kn.hd0 hw) rfl rfl ?_; simp only [qz]; apply rg_pure Rx Kx
  case hargs => exact Ax
  case h => exact fun w hw => by have := mvalid_any n xs a c hl w (hA.kn0 hw); rw [hv.out] at this; exact this
  case hz => exact Nz
  simp only [qz]; refine rf_not rfl rfl rfl ?_; simp only [qz]; refine rg_nil (ek_next (wk_cond_t rfl (wk_seq ?_))); refine wk_region [0, 0] rfl Kx ?_; refine Zm ?_; refine rg_nil (ek_next (wk_ret (ek_then_ret ?_))); refine ek_retM0 (fun w hw => ⟨_, res_tt _ _ rfl, ?_⟩); (try simp only [qz])
  exact ⟨.slice none 0 0, [], (by first | rfl | trivial), OwnT.nil, .nil hw.below⟩
theorem prog_big (N : Nat) (xs : List Nm) (a : Option Addr) (c : Nat) (hl : xs.length ≤ 1000000) (hv : Hid (validB (N : Int) xs = true)) (hN : (N : Int) > 4) (w : World) (hA : AS w a (nms xs)) : Calls Tryz.prog 5 #[.agg #[.int .i64 N, .slice a xs.length c]] w fun e w' => RetS w [] 4 e w' := by
  have hex : Hid (expR (N : Int) xs = (expo xs, 0)) := Lib.hid (by unfold expR; rw [hv.out, if_pos rfl])
  refine calls_marks Tryz.func5 rfl ?_; simp only [Tryz.ntmps5, List.size_toArray, List.length_cons, List.length_nil, Nat.reduceAdd, Nat.reduceSub, Array.replicate_succ, Array.replicate_zero, List.push_toArray, List.append_toArray, List.nil_append, List.cons_append]; refine wk_seq ?_; refine wk_region [1, 0, 0] rfl Kx ?_; simp only [qy]
  refine Rgn fun g1 => ?_
  refine Zm ?_; refine rg_nil (ek_next (wk_seq (wk_seq ?_))); refine wk_region [0, 1, 0] rfl Kx ?_; simp only [qy]; refine rf_loadR (n := 2) rfl rfl rfl Tryz.underlying24 rfl Kx (fun w hw => Kn.hd0 hw) rfl rfl ?_; simp only [qz]; apply rg_pure Rx Kx
  case hargs => exact Ax
  case h => exact fun w hw => by have := mvalid_any (N : Int) xs a c hl w (hA.kn0 hw); rw [hv.out] at this; exact this
  case hz => exact Nz
  simp only [qz]; refine rf_not rfl rfl rfl ?_; simp only [qz]; refine rg_nil (ek_next (wk_cond_f rfl (wk_skip (ek_next (wk_seq ?_))))); refine wk_region [0, 1, 0, 0, 0, 0, 0] rfl Kx ?_; simp only [qy]; refine rf_loadR (n := 2) rfl rfl rfl Tryz.underlying24 rfl Kx (fun w hw => Kn.hd0 hw) rfl rfl ?_; simp only [qz]; apply rg_pure Rx Kx
  case hargs => exact Ax
  case h => exact fun w hw => by have := mExponent_any (N : Int) xs a c hl w (hA.kn0 hw); rw [hex.out] at this; exact this
  case hz => exact Nz
  refine Zm ?_; refine rf_extract rfl rfl rfl rfl ?_; simp only [qz]; refine rf_extract rfl rfl rfl rfl ?_; refine Zm ?_; refine rg_nil (ek_next (wk_seq (wk_seq ?_))); refine wk_region [0, 0, 0, 0, 0, 0, 0, 1, 0, 0] rfl Kx ?_; simp only [qy]; refine rf_field (n := 0) (j := 0) rfl rfl rfl Tryz.underlying24 rfl Kx rfl ?_; simp only [qz]; refine rf_load rfl rfl rfl Tryz.underlying3 rfl (fun w hw => (Kn.hd0 hw).at rfl) ?_; simp only [qz]
  refine rfb_gtr rfl rfl rfl rfl ?_; intro x h1
  obtain rfl : x = true := by (refine h1.symm.trans ?_; exact decide_eq_true Ox)
  clear h1; refine Zm ?_; refine rg_skip_h Rx Nz ?_; refine Zm ?_; refine rf_pick rfl rfl rfl ?_; simp only [qz]; refine rg_nil (ek_next (wk_cond_t rfl (wk_seq ?_))); refine wk_region [0, 0] rfl Kx ?_; refine Zm ?_; refine rg_nil (ek_next (wk_ret (ek_then_ret ?_))); refine ek_retM0 (fun w hw => ⟨_, res_tt _ _ rfl, ?_⟩); (try simp only [qz])
  exact ⟨.slice none 0 0, [], (by first | rfl | trivial), OwnT.nil, .nil hw.below⟩
theorem prog_limit (N : Nat) (xs : List Nm) (a : Option Addr) (c : Nat) (hl : xs.length ≤ 1000000) (hv : Hid (validB (N : Int) xs = true)) (hN : ¬ (N : Int) > 4) (hk : expo xs > mostN N) (w : World) (hA : AS w a (nms xs)) : Calls Tryz.prog 5 #[.agg #[.int .i64 N, .slice a xs.length c]] w fun e w' => RetS w [] 4 e w' := by
  have hex : Hid (expR (N : Int) xs = (expo xs, 0)) := Lib.hid (by unfold expR; rw [hv.out, if_pos rfl])
  refine calls_marks Tryz.func5 rfl ?_; simp only [Tryz.ntmps5, List.size_toArray, List.length_cons, List.length_nil, Nat.reduceAdd, Nat.reduceSub, Array.replicate_succ, Array.replicate_zero, List.push_toArray, List.append_toArray, List.nil_append, List.cons_append]; refine wk_seq ?_; refine wk_region [1, 0, 0] rfl Kx ?_; simp only [qy]
  refine Rgn fun g1 => ?_
  refine Zm ?_; refine rg_nil (ek_next (wk_seq (wk_seq ?_))); refine wk_region [0, 1, 0] rfl Kx ?_; simp only [qy]; refine rf_loadR (n := 2) rfl rfl rfl Tryz.underlying24 rfl Kx (fun w hw => Kn.hd0 hw) rfl rfl ?_; simp only [qz]; apply rg_pure Rx Kx
  case hargs => exact Ax
  case h => exact fun w hw => by have := mvalid_any (N : Int) xs a c hl w (hA.kn0 hw); rw [hv.out] at this; exact this
  case hz => exact Nz
  simp only [qz]; refine rf_not rfl rfl rfl ?_; simp only [qz]; refine rg_nil (ek_next (wk_cond_f rfl (wk_skip (ek_next (wk_seq ?_))))); refine wk_region [0, 1, 0, 0, 0, 0, 0] rfl Kx ?_; simp only [qy]; refine rf_loadR (n := 2) rfl rfl rfl Tryz.underlying24 rfl Kx (fun w hw => Kn.hd0 hw) rfl rfl ?_; simp only [qz]; apply rg_pure Rx Kx
  case hargs => exact Ax
  case h => exact fun w hw => by have := mExponent_any (N : Int) xs a c hl w (hA.kn0 hw); rw [hex.out] at this; exact this
  case hz => exact Nz
  refine Zm ?_; refine rf_extract rfl rfl rfl rfl ?_; simp only [qz]; refine rf_extract rfl rfl rfl rfl ?_; refine Zm ?_; refine rg_nil (ek_next (wk_seq (wk_seq ?_))); refine wk_region [0, 0, 0, 0, 0, 0, 0, 1, 0, 0] rfl Kx ?_; simp only [qy]; refine rf_field (n := 0) (j := 0) rfl rfl rfl Tryz.underlying24 rfl Kx rfl ?_; simp only [qz]; refine rf_load rfl rfl rfl Tryz.underlying3 rfl (fun w hw => (Kn.hd0 hw).at rfl) ?_; simp only [qz]
  refine rfb_gtr rfl rfl rfl rfl ?_; intro x h1
  obtain rfl : x = false := by (refine h1.symm.trans ?_; exact decide_eq_false Ox)
  clear h1; refine Zm ?_; apply rg_soft_g
  case hg => rfl
  case hy => (intro w hw; go_simp; (try go_bits); exact Yld.mk _ _)
  simp only [qz]; refine rf_field (n := 0) (j := 0) rfl rfl rfl Tryz.underlying24 rfl Kx rfl ?_; simp only [qz]; refine rf_load rfl rfl rfl Tryz.underlying3 rfl (fun w hw => (Kn.hd0 hw).at rfl) ?_; simp only [qz]; apply rg_pure Rx Kx
  case hargs => exact Ax
  case h => exact fun w hw => most_any N Ox w
  case hz => exact Nz
  simp only [qz]; refine rfb_gtr rfl rfl rfl rfl ?_; intro x h2
  obtain rfl : x = true := by (refine h2.symm.trans ?_; exact decide_eq_true Ox)
  clear h2; simp only [qz]; refine rf_pick rfl rfl rfl ?_; simp only [qz]; refine rg_nil (ek_next (wk_cond_t rfl (wk_seq ?_))); refine wk_region [0, 0] rfl Kx ?_; refine Zm ?_; refine rg_nil (ek_next (wk_ret (ek_then_ret ?_))); refine ek_retM0 (fun w hw => ⟨_, res_tt _ _ rfl, ?_⟩); (try simp only [qz])
  exact ⟨.slice none 0 0, [], (by first | rfl | trivial), OwnT.nil, .nil hw.below⟩
theorem prog_non (N : Nat) (xs : List Nm) (a : Option Addr) (c : Nat) (hl : xs.length ≤ 1000000) (hv : Hid (validB (N : Int) xs = true)) (hN : ¬ (N : Int) > 4) (hk : ¬ expo xs > mostN N) (hu : Hid (unB (N : Int) xs = false)) (w : World) (hA : AS w a (nms xs)) : Calls Tryz.prog 5 #[.agg #[.int .i64 N, .slice a xs.length c]] w fun e w' => RetS w [] 22 e w' := by
  have hex : Hid (expR (N : Int) xs = (expo xs, 0)) := Lib.hid (by unfold expR; rw [hv.out, if_pos rfl])
  refine calls_marks Tryz.func5 rfl ?_; simp only [Tryz.ntmps5, List.size_toArray, List.length_cons, List.length_nil, Nat.reduceAdd, Nat.reduceSub, Array.replicate_succ, Array.replicate_zero, List.push_toArray, List.append_toArray, List.nil_append, List.cons_append]; refine wk_seq ?_; refine wk_region [1, 0, 0] rfl Kx ?_; simp only [qy]
  refine Rgn fun g1 => ?_
  refine Zm ?_; refine rg_nil (ek_next (wk_seq (wk_seq ?_))); refine wk_region [0, 1, 0] rfl Kx ?_; simp only [qy]; refine rf_loadR (n := 2) rfl rfl rfl Tryz.underlying24 rfl Kx (fun w hw => Kn.hd0 hw) rfl rfl ?_; simp only [qz]; apply rg_pure Rx Kx
  case hargs => exact Ax
  case h => exact fun w hw => by have := mvalid_any (N : Int) xs a c hl w (hA.kn0 hw); rw [hv.out] at this; exact this
  case hz => exact Nz
  simp only [qz]; refine rf_not rfl rfl rfl ?_; simp only [qz]; refine rg_nil (ek_next (wk_cond_f rfl (wk_skip (ek_next (wk_seq ?_))))); refine wk_region [0, 1, 0, 0, 0, 0, 0] rfl Kx ?_; simp only [qy]; refine rf_loadR (n := 2) rfl rfl rfl Tryz.underlying24 rfl Kx (fun w hw => Kn.hd0 hw) rfl rfl ?_; simp only [qz]; apply rg_pure Rx Kx
  case hargs => exact Ax
  case h => exact fun w hw => by have := mExponent_any (N : Int) xs a c hl w (hA.kn0 hw); rw [hex.out] at this; exact this
  case hz => exact Nz
  refine Zm ?_; refine rf_extract rfl rfl rfl rfl ?_; simp only [qz]; refine rf_extract rfl rfl rfl rfl ?_; refine Zm ?_; refine rg_nil (ek_next (wk_seq (wk_seq ?_))); refine wk_region [0, 0, 0, 0, 0, 0, 0, 1, 0, 0] rfl Kx ?_; simp only [qy]; refine rf_field (n := 0) (j := 0) rfl rfl rfl Tryz.underlying24 rfl Kx rfl ?_; simp only [qz]; refine rf_load rfl rfl rfl Tryz.underlying3 rfl (fun w hw => (Kn.hd0 hw).at rfl) ?_; simp only [qz]
  refine rfb_gtr rfl rfl rfl rfl ?_; intro x h1
  obtain rfl : x = false := by (refine h1.symm.trans ?_; exact decide_eq_false Ox)
  clear h1; refine Zm ?_; apply rg_soft_g
  case hg => rfl
  case hy => (intro w hw; go_simp; (try go_bits); exact Yld.mk _ _)
  simp only [qz]; refine rf_field (n := 0) (j := 0) rfl rfl rfl Tryz.underlying24 rfl Kx rfl ?_; simp only [qz]; refine rf_load rfl rfl rfl Tryz.underlying3 rfl (fun w hw => (Kn.hd0 hw).at rfl) ?_; simp only [qz]; apply rg_pure Rx Kx
  case hargs => exact Ax
  case h => exact fun w hw => most_any N Ox w
  case hz => exact Nz
  simp only [qz]; refine rfb_gtr rfl rfl rfl rfl ?_; intro x h2
  obtain rfl : x = false := by (refine h2.symm.trans ?_; exact decide_eq_false Ox)
  clear h2; simp only [qz]; refine rf_pick rfl rfl rfl ?_; simp only [qz]; refine rg_nil (ek_next (wk_cond_f rfl (wk_skip (ek_next (wk_seq (wk_seq ?_)))))); refine wk_region [0, 1, 0, 0, 0, 0, 0] rfl Kx ?_; simp only [qy]; refine rf_loadR (n := 2) rfl rfl rfl Tryz.underlying24 rfl Kx (fun w hw => Kn.hd0 hw) rfl rfl ?_; simp only [qz]; apply rg_pure Rx Kx
  case hargs => exact Ax
  case h => exact fun w hw => sunitary_non (N : Int) xs a c hl hv hu w (hA.kn0 hw)
  case hz => exact Nz
  refine Zm ?_; refine rf_extract rfl rfl rfl rfl ?_; simp only [qz]; refine rf_extract rfl rfl rfl rfl ?_; refine Zm ?_; refine rg_nil (ek_next (wk_seq ?_)); refine wk_region [0, 0] rfl Kx ?_; refine Zm ?_; refine rf_neq (b := true) rfl rfl rfl rfl (by decide) ?_; simp only [qz]; refine rg_nil (ek_next (wk_cond_t rfl (wk_seq ?_))); refine wk_region [0, 0, 0] rfl Kx ?_; refine Zm ?_; refine rg_nil (ek_next (wk_ret (ek_then_ret ?_)))
  refine ek_retM0 (fun w hw => ⟨_, res_tt _ _ rfl, ?_⟩); (try simp only [qz])
  exact ⟨.slice none 0 0, [], (by first | rfl | trivial), OwnT.nil, .nil hw.below⟩
theorem asked_invalid (n : Int) (xs : List Nm) (a : Option Addr) (c : Nat) (hl : xs.length ≤ 1000000) (hv : Hid (validB n xs = false)) (w : World) (hA : AS w a (nms xs)) : Calls Tryz.prog 6 #[.agg #[.int .i64 n, .slice a xs.length c]] w fun e w' => e = .returned (.int .i64 20) ∧ Below w.heap.size w w' := by
 go_enter Tryz.func6, Tryz.ntmps6
 refine wk_start ?_
 refine wk_seq ?_
 refine wk_region [1, 0] rfl Kx ?_
 simp only [qy]
 refine Rgn fun g1 => ?_
 refine Zm ?_
 refine rg_nil (ek_next (wk_seq (wk_seq ?_)))
 refine wk_region [0, 1, 0] rfl Kx ?_
 simp only [qy]
 apply rg_soft
 case hy => (intro w hw; obtain ⟨hcg1, hfg1⟩ := (Kn.hd0 hw).facts; go_simp; (try go_bits); exact Yld.mk _ _)
 simp only [qz]
 apply rg_pure Rx Kx
 case hargs => exact Ax
 case h => exact fun w hw => by have := rmvalid_any n xs a c hl w (hA.kn0 hw); rw [hv.out] at this; exact this
 case hz => exact Nz
 simp only [qz]
 refine rf_not rfl rfl rfl ?_
 simp only [qz]
 refine rg_nil (ek_next (wk_cond_t rfl (wk_seq ?_)))
 refine wk_region [0] rfl Kx ?_
 refine Zm ?_
 refine rg_nil (ek_next (wk_ret (ek_then_ret ?_)))
 refine ek_ret (fun w hw => ⟨rfl, _, res_t _ rfl, ?_⟩)
 (try simp only [qz])
 first | exact ⟨rfl, hw.below⟩ | exact ⟨trivial, hw.below⟩ | exact hw.below
theorem asked_big (N : Nat) (xs : List Nm) (a : Option Addr) (c : Nat) (hl : xs.length ≤ 1000000) (hv : Hid (validB (N : Int) xs = true)) (hN : (N : Int) > 4) (w : World) (hA : AS w a (nms xs)) : Calls Tryz.prog 6 #[.agg #[.int .i64 N, .slice a xs.length c]] w fun e w' => e = .returned (.int .i64 4) ∧ Below w.heap.size w w' := by
 have hex : Hid (expR (N : Int) xs = (expo xs, 0)) := Lib.hid (by unfold expR; rw [hv.out, if_pos rfl])
 have hN1 : 1 ≤ N ∧ N ≤ 6 := by
  obtain ⟨N', e, h1, h6, -⟩ := validB_true hv.out
  omega
 go_enter Tryz.func6, Tryz.ntmps6
 refine wk_start ?_
 refine wk_seq ?_
 refine wk_region [1, 0] rfl Kx ?_
 simp only [qy]
 refine Rgn fun g1 => ?_
 refine Zm ?_
 refine rg_nil (ek_next (wk_seq (wk_seq ?_)))
 refine wk_region [0, 1, 0] rfl Kx ?_
 simp only [qy]
 apply rg_soft
 case hy => (intro w hw; obtain ⟨hcg1, hfg1⟩ := (Kn.hd0 hw).facts; go_simp; (try go_bits); exact Yld.mk _ _)
 simp only [qz]
 apply rg_pure Rx Kx
 case hargs => exact Ax
 case h => exact fun w hw => by have := rmvalid_any (N : Int) xs a c hl w (hA.kn0 hw); rw [hv.out] at this; exact this
 case hz => exact Nz
 simp only [qz]
 refine rf_not rfl rfl rfl ?_
 simp only [qz]
 refine rg_nil (ek_next (wk_cond_f rfl (wk_skip (ek_next (wk_seq ?_)))))
 refine wk_region [1, 0] rfl Kx ?_
 simp only [qy]
 refine rg_newS (cs := ?_) (ty := ?_) (n := 5) (c := 5) Rx (fun w => ?_) Nz (fun g2 => ?_); rotate_left 2
 focus (go_simp; rfl)
 refine Zm ?_
 refine rg_nil (ek_next (wk_seq ?_))
 refine wk_region [0, 1, 0, 0, 0, 0, 0] rfl Kx ?_
 simp only [qy]
 apply rg_soft
 case hy => (intro w hw; obtain ⟨hcg1, hfg1⟩ := (Kn.hd0 (Kn.tl hw)).facts; go_simp; (try go_bits); exact Yld.mk _ _)
 simp only [qz]
 apply rg_pure Rx Kx
 case hargs => exact Ax
 case h => exact fun w hw => by have := rExponent_any (N : Int) xs a c hl w (hA.kn0 hw); rw [hex.out] at this; exact this
 case hz => exact Nz
 refine Zm ?_
 refine rf_extract rfl rfl rfl rfl ?_
 simp only [qz]
 refine rf_extract rfl rfl rfl rfl ?_
 refine Zm ?_
 refine rg_nil (ek_next (wk_seq (wk_seq ?_)))
 refine wk_region [0, 0, 0, 0, 0, 0, 0, 0, 0, 0, 0, 0] rfl Kx ?_
 simp only [qy]
 refine Zk ?_
 apply rg_soft
 case hy => (intro w hw; obtain ⟨hcg1, hfg1⟩ := (Kn.hd0 (Kn.tl hw)).facts; go_simp; (try go_bits); exact Yld.mk _ _)
 simp only [qz]
 apply rg_softb
 case hy => (intro w hw; go_simp; (try go_bits); exact Yld.mk _ _)
 intro x h1
 obtain rfl : x = true := by (refine h1.symm.trans ?_; first | rfl | exact decide_eq_true Ox | exact beq_iff_eq.2 Ox | exact bne_iff_ne.2 Ox | (simp; omega) | (simp; done))
 clear h1
 refine Zm ?_
 refine rf_pick rfl rfl rfl ?_
 simp only [qz]
 refine rg_nil (ek_next (wk_cond_t rfl (wk_seq ?_)))
 refine wk_region [0] rfl Kx ?_
 refine Zm ?_
 refine rg_nil (ek_next (wk_ret (ek_then_ret ?_)))
 refine ek_ret (fun w hw => ⟨rfl, _, res_t _ rfl, ?_⟩)
 (try simp only [qz])
 first | exact ⟨rfl, hw.below⟩ | exact ⟨trivial, hw.below⟩ | exact hw.below
theorem asked_limit (N : Nat) (xs : List Nm) (a : Option Addr) (c : Nat) (hl : xs.length ≤ 1000000) (hv : Hid (validB (N : Int) xs = true)) (hN : ¬ (N : Int) > 4) (hk : expo xs > mostN N) (w : World) (hA : AS w a (nms xs)) : Calls Tryz.prog 6 #[.agg #[.int .i64 N, .slice a xs.length c]] w fun e w' => e = .returned (.int .i64 4) ∧ Below w.heap.size w w' := by
 have hex : Hid (expR (N : Int) xs = (expo xs, 0)) := Lib.hid (by unfold expR; rw [hv.out, if_pos rfl])
 have hN1 : 1 ≤ N ∧ N ≤ 6 := by
  obtain ⟨N', e, h1, h6, -⟩ := validB_true hv.out
  omega
 go_enter Tryz.func6, Tryz.ntmps6
 refine wk_start ?_
 refine wk_seq ?_
 refine wk_region [1, 0] rfl Kx ?_
 simp only [qy]
 refine Rgn fun g1 => ?_
 refine Zm ?_
 refine rg_nil (ek_next (wk_seq (wk_seq ?_)))
 refine wk_region [0, 1, 0] rfl Kx ?_
 simp only [qy]
 apply rg_soft
 case hy => (intro w hw; obtain ⟨hcg1, hfg1⟩ := (Kn.hd0 hw).facts; go_simp; (try go_bits); exact Yld.mk _ _)
 simp only [qz]
 apply rg_pure Rx Kx
 case hargs => exact Ax
 case h => exact fun w hw => by have := rmvalid_any (N : Int) xs a c hl w (hA.kn0 hw); rw [hv.out] at this; exact this
 case hz => exact Nz
 simp only [qz]
 refine rf_not rfl rfl rfl ?_
 simp only [qz]
 refine rg_nil (ek_next (wk_cond_f rfl (wk_skip (ek_next (wk_seq ?_)))))
 refine wk_region [1, 0] rfl Kx ?_
 simp only [qy]
 refine rg_newS (cs := ?_) (ty := ?_) (n := 5) (c := 5) Rx (fun w => ?_) Nz (fun g2 => ?_); rotate_left 2
 focus (go_simp; rfl)
 refine Zm ?_
 refine rg_nil (ek_next (wk_seq ?_))
 refine wk_region [0, 1, 0, 0, 0, 0, 0] rfl Kx ?_
 simp only [qy]
 apply rg_soft
 case hy => (intro w hw; obtain ⟨hcg1, hfg1⟩ := (Kn.hd0 (Kn.tl hw)).facts; go_simp; (try go_bits); exact Yld.mk _ _)
 simp only [qz]
 apply rg_pure Rx Kx
 case hargs => exact Ax
 case h => exact fun w hw => by have := rExponent_any (N : Int) xs a c hl w (hA.kn0 hw); rw [hex.out] at this; exact this
 case hz => exact Nz
 refine Zm ?_
 refine rf_extract rfl rfl rfl rfl ?_
 simp only [qz]
 refine rf_extract rfl rfl rfl rfl ?_
 refine Zm ?_
 refine rg_nil (ek_next (wk_seq (wk_seq ?_)))
 refine wk_region [0, 0, 0, 0, 0, 0, 0, 0, 0, 0, 0, 0] rfl Kx ?_
 simp only [qy]
 refine Zk ?_
 apply rg_soft
 case hy => (intro w hw; obtain ⟨hcg1, hfg1⟩ := (Kn.hd0 (Kn.tl hw)).facts; go_simp; (try go_bits); exact Yld.mk _ _)
 simp only [qz]
 apply rg_softb
 case hy => (intro w hw; go_simp; (try go_bits); exact Yld.mk _ _)
 intro x h1
 obtain rfl : x = false := by (refine h1.symm.trans ?_; first | rfl | exact decide_eq_false Ox | exact beq_eq_false_iff_ne.2 Ox | exact bne_eq_false_iff_eq.2 Ox | (simp; omega) | (simp; done))
 clear h1
 refine Zm ?_
 apply rg_soft_g
 case hg => rfl
 case hy => (intro w hw; go_simp; (try go_bits); exact Yld.mk _ _)
 simp only [qz]
 apply rg_soft_g
 case hg => rfl
 case hy => (intro w hw; go_simp; (try go_bits); exact Yld.mk _ _)
 simp only [qz]
 apply rg_soft_g
 case hg => rfl
 case hy => (intro w hw; go_simp; (try go_bits); exact Yld.mk _ _)
 simp only [qz]
 apply rg_soft_g
 case hg => rfl
 case hy => (intro w hw; obtain ⟨hcg1, hfg1⟩ := (Kn.hd0 (Kn.tl hw)).facts; go_simp; (try go_bits); exact Yld.mk _ _)
 simp only [qz]
 refine rf_indexS (n := N) (sz := 1) (j := N) rfl rfl rfl rfl Tryz.underlying40 Kx Ox Ox Ox ?_
 simp only [qz]
 refine rf_load (v := .int .i64 (mostN N)) rfl rfl rfl Tryz.underlying3 rfl (fun w hw => ((Kn.hd0 hw).cell N).trans (most_at N Ox)) ?_
 simp only [qz]
 apply rg_softb_g
 case hg => rfl
 case hy => (intro w hw; go_simp; (try go_bits); exact Yld.mk _ _)
 intro x h2
 obtain rfl : x = true := by (refine h2.symm.trans ?_; first | rfl | exact decide_eq_true Ox | exact beq_iff_eq.2 Ox | exact bne_iff_ne.2 Ox | (simp; omega) | (simp; done))
 clear h2
 simp only [qz]
 refine rf_pick rfl rfl rfl ?_
 simp only [qz]
 refine rg_nil (ek_next (wk_cond_t rfl (wk_seq ?_)))
 refine wk_region [0] rfl Kx ?_
 refine Zm ?_
 refine rg_nil (ek_next (wk_ret (ek_then_ret ?_)))
 refine ek_ret (fun w hw => ⟨rfl, _, res_t _ rfl, ?_⟩)
 (try simp only [qz])
 first | exact ⟨rfl, hw.below⟩ | exact ⟨trivial, hw.below⟩ | exact hw.below
theorem asked_non (N : Nat) (xs : List Nm) (a : Option Addr) (c : Nat) (hl : xs.length ≤ 1000000) (hv : Hid (validB (N : Int) xs = true)) (hN : ¬ (N : Int) > 4) (hk : ¬ expo xs > mostN N) (hu : Hid (unB (N : Int) xs = false)) (w : World) (hA : AS w a (nms xs)) : Calls Tryz.prog 6 #[.agg #[.int .i64 N, .slice a xs.length c]] w fun e w' => e = .returned (.int .i64 22) ∧ Below w.heap.size w w' := by
 have hex : Hid (expR (N : Int) xs = (expo xs, 0)) := Lib.hid (by unfold expR; rw [hv.out, if_pos rfl])
 have hN1 : 1 ≤ N ∧ N ≤ 6 := by
  obtain ⟨N', e, h1, h6, -⟩ := validB_true hv.out
  omega
 go_enter Tryz.func6, Tryz.ntmps6
 refine wk_start ?_
 refine wk_seq ?_
 refine wk_region [1, 0] rfl Kx ?_
 simp only [qy]
 refine Rgn fun g1 => ?_
 refine Zm ?_
 refine rg_nil (ek_next (wk_seq (wk_seq ?_)))
 refine wk_region [0, 1, 0] rfl Kx ?_
 simp only [qy]
 apply rg_soft
 case hy => (intro w hw; obtain ⟨hcg1, hfg1⟩ := (Kn.hd0 hw).facts; go_simp; (try go_bits); exact Yld.mk _ _)
 simp only [qz]
 apply rg_pure Rx Kx
 case hargs => exact Ax
 case h => exact fun w hw => by have := rmvalid_any (N : Int) xs a c hl w (hA.kn0 hw); rw [hv.out] at this; exact this
 case hz => exact Nz
 simp only [qz]
 refine rf_not rfl rfl rfl ?_
 simp only [qz]
 refine rg_nil (ek_next (wk_cond_f rfl (wk_skip (ek_next (wk_seq ?_)))))
 refine wk_region [1, 0] rfl Kx ?_
 simp only [qy]
 refine rg_newS (cs := ?_) (ty := ?_) (n := 5) (c := 5) Rx (fun w => ?_) Nz (fun g2 => ?_); rotate_left 2
 focus (go_simp; rfl)
 refine Zm ?_
 refine rg_nil (ek_next (wk_seq ?_))
 refine wk_region [0, 1, 0, 0, 0, 0, 0] rfl Kx ?_
 simp only [qy]
 apply rg_soft
 case hy => (intro w hw; obtain ⟨hcg1, hfg1⟩ := (Kn.hd0 (Kn.tl hw)).facts; go_simp; (try go_bits); exact Yld.mk _ _)
 simp only [qz]
 apply rg_pure Rx Kx
 case hargs => exact Ax
 case h => exact fun w hw => by have := rExponent_any (N : Int) xs a c hl w (hA.kn0 hw); rw [hex.out] at this; exact this
 case hz => exact Nz
 refine Zm ?_
 refine rf_extract rfl rfl rfl rfl ?_
 simp only [qz]
 refine rf_extract rfl rfl rfl rfl ?_
 refine Zm ?_
 refine rg_nil (ek_next (wk_seq (wk_seq ?_)))
 refine wk_region [0, 0, 0, 0, 0, 0, 0, 0, 0, 0, 0, 0] rfl Kx ?_
 simp only [qy]
 refine Zk ?_
 apply rg_soft
 case hy => (intro w hw; obtain ⟨hcg1, hfg1⟩ := (Kn.hd0 (Kn.tl hw)).facts; go_simp; (try go_bits); exact Yld.mk _ _)
 simp only [qz]
 apply rg_softb
 case hy => (intro w hw; go_simp; (try go_bits); exact Yld.mk _ _)
 intro x h1
 obtain rfl : x = false := by (refine h1.symm.trans ?_; first | rfl | exact decide_eq_false Ox | exact beq_eq_false_iff_ne.2 Ox | exact bne_eq_false_iff_eq.2 Ox | (simp; omega) | (simp; done))
 clear h1
 refine Zm ?_
 apply rg_soft_g
 case hg => rfl
 case hy => (intro w hw; go_simp; (try go_bits); exact Yld.mk _ _)
 simp only [qz]
 apply rg_soft_g
 case hg => rfl
 case hy => (intro w hw; go_simp; (try go_bits); exact Yld.mk _ _)
 simp only [qz]
 apply rg_soft_g
 case hg => rfl
 case hy => (intro w hw; go_simp; (try go_bits); exact Yld.mk _ _)
 simp only [qz]
 apply rg_soft_g
 case hg => rfl
 case hy => (intro w hw; obtain ⟨hcg1, hfg1⟩ := (Kn.hd0 (Kn.tl hw)).facts; go_simp; (try go_bits); exact Yld.mk _ _)
 simp only [qz]
 refine rf_indexS (n := N) (sz := 1) (j := N) rfl rfl rfl rfl Tryz.underlying40 Kx Ox Ox Ox ?_
 simp only [qz]
 refine rf_load (v := .int .i64 (mostN N)) rfl rfl rfl Tryz.underlying3 rfl (fun w hw => ((Kn.hd0 hw).cell N).trans (most_at N Ox)) ?_
 simp only [qz]
 apply rg_softb_g
 case hg => rfl
 case hy => (intro w hw; go_simp; (try go_bits); exact Yld.mk _ _)
 intro x h2
 obtain rfl : x = false := by (refine h2.symm.trans ?_; first | rfl | exact decide_eq_false Ox | exact beq_eq_false_iff_ne.2 Ox | exact bne_eq_false_iff_eq.2 Ox | (simp; omega) | (simp; done))
 clear h2
 simp only [qz]
 refine rf_pick rfl rfl rfl ?_
 simp only [qz]
 refine rg_nil (ek_next (wk_cond_f rfl (wk_skip (ek_next (wk_seq (wk_seq ?_))))))
 refine wk_region [0, 1, 0] rfl Kx ?_
 simp only [qy]
 apply rg_soft
 case hy => (intro w hw; obtain ⟨hcg1, hfg1⟩ := (Kn.hd0 (Kn.tl hw)).facts; go_simp; (try go_bits); exact Yld.mk _ _)
 simp only [qz]
 apply rg_pure Rx Kx
 case hargs => exact Ax
 case h => exact fun w hw => by have := rUn_any (N : Int) xs a c hv.out w (hA.kn0 hw); rw [hu.out] at this; exact this
 case hz => exact Nz
 simp only [qz]
 refine rf_not rfl rfl rfl ?_
 simp only [qz]
 refine rg_nil (ek_next (wk_cond_t rfl (wk_seq ?_)))
 refine wk_region [0] rfl Kx ?_
 refine Zm ?_
 refine rg_nil (ek_next (wk_ret (ek_then_ret ?_)))
 refine ek_ret (fun w hw => ⟨rfl, _, res_t _ rfl, ?_⟩)
 (try simp only [qz])
 first | exact ⟨rfl, hw.below⟩ | exact ⟨trivial, hw.below⟩ | exact hw.below
theorem asked_yes (N : Nat) (xs : List Nm) (a : Option Addr) (c : Nat) (hl : xs.length ≤ 1000000) (hv : Hid (validB (N : Int) xs = true)) (hN : ¬ (N : Int) > 4) (hk : ¬ expo xs > mostN N) (hu : Hid (unB (N : Int) xs = true)) (w : World) (hA : AS w a (nms xs)) : Calls Tryz.prog 6 #[.agg #[.int .i64 N, .slice a xs.length c]] w fun e w' => e = .returned (.int .i64 0) ∧ Below w.heap.size w w' := by
 have hex : Hid (expR (N : Int) xs = (expo xs, 0)) := Lib.hid (by unfold expR; rw [hv.out, if_pos rfl])
 have hN1 : 1 ≤ N ∧ N ≤ 6 := by
  obtain ⟨N', e, h1, h6, -⟩ := validB_true hv.out
  omega
 go_enter Tryz.func6, Tryz.ntmps6
 refine wk_start ?_
 refine wk_seq ?_
 refine wk_region [1, 0] rfl Kx ?_
 simp only [qy]
 refine Rgn fun g1 => ?_
 refine Zm ?_
 refine rg_nil (ek_next (wk_seq (wk_seq ?_)))
 refine wk_region [0, 1, 0] rfl Kx ?_
 simp only [qy]
 apply rg_soft
 case hy => (intro w hw; obtain ⟨hcg1, hfg1⟩ := (Kn.hd0 hw).facts; go_simp; (try go_bits); exact Yld.mk _ _)
 simp only [qz]
 apply rg_pure Rx Kx
 case hargs => exact Ax
 case h => exact fun w hw => by have := rmvalid_any (N : Int) xs a c hl w (hA.kn0 hw); rw [hv.out] at this; exact this
 case hz => exact Nz
 simp only [qz]
 refine rf_not rfl rfl rfl ?_
 simp only [qz]
 refine rg_nil (ek_next (wk_cond_f rfl (wk_skip (ek_next (wk_seq ?_)))))
 refine wk_region [1, 0] rfl Kx ?_
 simp only [qy]
 refine rg_newS (cs := ?_) (ty := ?_) (n := 5) (c := 5) Rx (fun w => ?_) Nz (fun g2 => ?_); rotate_left 2
 focus (go_simp; rfl)
 refine Zm ?_
 refine rg_nil (ek_next (wk_seq ?_))
 refine wk_region [0, 1, 0, 0, 0, 0, 0] rfl Kx ?_
 simp only [qy]
 apply rg_soft
 case hy => (intro w hw; obtain ⟨hcg1, hfg1⟩ := (Kn.hd0 (Kn.tl hw)).facts; go_simp; (try go_bits); exact Yld.mk _ _)
 simp only [qz]
 apply rg_pure Rx Kx
 case hargs => exact Ax
 case h => exact fun w hw => by have := rExponent_any (N : Int) xs a c hl w (hA.kn0 hw); rw [hex.out] at this; exact this
 case hz => exact Nz
 refine Zm ?_
 refine rf_extract rfl rfl rfl rfl ?_
 simp only [qz]
 refine rf_extract rfl rfl rfl rfl ?_
 refine Zm ?_
 refine rg_nil (ek_next (wk_seq (wk_seq ?_)))
 refine wk_region [0, 0, 0, 0, 0, 0, 0, 0, 0, 0, 0, 0] rfl Kx ?_
 simp only [qy]
 refine Zk ?_
 apply rg_soft
 case hy => (intro w hw; obtain ⟨hcg1, hfg1⟩ := (Kn.hd0 (Kn.tl hw)).facts; go_simp; (try go_bits); exact Yld.mk _ _)
 simp only [qz]
 apply rg_softb
 case hy => (intro w hw; go_simp; (try go_bits); exact Yld.mk _ _)
 intro x h1
 obtain rfl : x = false := by (refine h1.symm.trans ?_; first | rfl | exact decide_eq_false Ox | exact beq_eq_false_iff_ne.2 Ox | exact bne_eq_false_iff_eq.2 Ox | (simp; omega) | (simp; done))
 clear h1
 refine Zm ?_
 apply rg_soft_g
 case hg => rfl
 case hy => (intro w hw; go_simp; (try go_bits); exact Yld.mk _ _)
 simp only [qz]
 apply rg_soft_g
 case hg => rfl
 case hy => (intro w hw; go_simp; (try go_bits); exact Yld.mk _ _)
 simp only [qz]
 apply rg_soft_g
 case hg => rfl
 case hy => (intro w hw; go_simp; (try go_bits); exact Yld.mk _ _)
 simp only [qz]
 apply rg_soft_g
 case hg => rfl
 case hy => (intro w hw; obtain ⟨hcg1, hfg1⟩ := (Kn.hd0 (Kn.tl hw)).facts; go_simp; (try go_bits); exact Yld.mk _ _)
 simp only [qz]
 refine rf_indexS (n := N) (sz := 1) (j := N) rfl rfl rfl rfl Tryz.underlying40 Kx Ox Ox Ox ?_
 simp only [qz]
 refine rf_load (v := .int .i64 (mostN N)) rfl rfl rfl Tryz.underlying3 rfl (fun w hw => ((Kn.hd0 hw).cell N).trans (most_at N Ox)) ?_
 simp only [qz]
 apply rg_softb_g
 case hg => rfl
 case hy => (intro w hw; go_simp; (try go_bits); exact Yld.mk _ _)
 intro x h2
 obtain rfl : x = false := by (refine h2.symm.trans ?_; first | rfl | exact decide_eq_false Ox | exact beq_eq_false_iff_ne.2 Ox | exact bne_eq_false_iff_eq.2 Ox | (simp; omega) | (simp; done))
 clear h2
 simp only [qz]
 refine rf_pick rfl rfl rfl ?_
 simp only [qz]
 refine rg_nil (ek_next (wk_cond_f rfl (wk_skip (ek_next (wk_seq (wk_seq ?_))))))
 refine wk_region [0, 1, 0] rfl Kx ?_
 simp only [qy]
 apply rg_soft
 case hy => (intro w hw; obtain ⟨hcg1, hfg1⟩ := (Kn.hd0 (Kn.tl hw)).facts; go_simp; (try go_bits); exact Yld.mk _ _)
 simp only [qz]
 apply rg_pure Rx Kx
 case hargs => exact Ax
 case h => exact fun w hw => by have := rUn_any (N : Int) xs a c hv.out w (hA.kn0 hw); rw [hu.out] at this; exact this
 case hz => exact Nz
 simp only [qz]
 refine rf_not rfl rfl rfl ?_
 simp only [qz]
 refine rg_nil (ek_next (wk_cond_f rfl (wk_skip (ek_next (wk_seq ?_)))))
 refine wk_region [0] rfl Kx ?_
 refine Zm ?_
 refine rg_nil (ek_next (wk_ret ?_))
 refine ek_ret (fun w hw => ⟨rfl, _, res_t _ rfl, ?_⟩)
 (try simp only [qz])
 first | exact ⟨rfl, hw.below⟩ | exact ⟨trivial, hw.below⟩ | exact hw.below
theorem asked_any (n : Int) (xs : List Nm) (a : Option Addr) (c : Nat) (hl : xs.length ≤ 1000000) (w : World) (hA : AS w a (nms xs)) : Calls Tryz.prog 6 #[.agg #[.int .i64 n, .slice a xs.length c]] w fun e w' => e = .returned (.int .i64 (askE n xs)) ∧ Below w.heap.size w w' := by
  by_cases hv : validB n xs = true
  · obtain ⟨N, rfl, -⟩ := validB_true hv
    have e0 : askE N xs = if (N : Int) > 4 ∨ expo xs > mostN N then 4 else if unB N xs = true then 0 else 22 := by unfold askE; rw [if_pos hv, Int.toNat_natCast]
    by_cases h4 : (N : Int) > 4
    · rw [e0, if_pos (.inl h4)]; exact asked_big N xs a c hl (Lib.hid hv) h4 w hA
    by_cases hk : expo xs > mostN N
    · rw [e0, if_pos (.inr hk)]; exact asked_limit N xs a c hl (Lib.hid hv) h4 hk w hA
    rw [e0, if_neg (fun h => h.elim h4 hk)]
    by_cases hu : unB N xs = true
    · rw [if_pos hu]; exact asked_yes N xs a c hl (Lib.hid hv) h4 hk (Lib.hid hu) w hA
    rw [if_neg hu]; exact asked_non N xs a c hl (Lib.hid hv) h4 hk (Lib.hid (by simpa using hu)) w hA
  have e0 : askE n xs = 20 := by unfold askE; rw [if_neg hv]
  rw [e0]; exact asked_invalid n xs a c hl (Lib.hid (by simpa using hv)) w hA
end Go.Proofs.YtccbinnlnkpplaaGreat
namespace Go.Proofs.YtccbinnlnkpplaaGreat
set_option linter.all false
set_option maxRecDepth 100000
set_option maxHeartbeats 1000000
theorem allOk_set {l : List Nm} (h : allOk l = true) (j : Nat) {z : Nm} (hz : z.Ok) : allOk (l.set j z) = true := by
  unfold allOk at h ⊢
  rw [List.all_eq_true] at h ⊢; intro x hx
  rcases List.mem_or_eq_of_mem_set hx with h1 | h1
  · exact h x h1
  · rw [h1]; exact okB_iff.2 hz
theorem plcS_ok {N p m : Nat} {L l : List Nm} (hL : ∀ k, (nm L k).Ok) (hl : allOk l = true) : ∀ t, allOk (plcS N p m L l t) = true
  | 0 => hl
  | t + 1 => allOk_set (plcS_ok hL hl t) _ (hL t)
theorem itL_valid {N : Nat} (h1 : 1 ≤ N) (h6 : N ≤ 6) (x : It) : validB N (itL N x) = true := by
  refine validB_mk h1 h6 (itL_len h1 h6 x) (plcS_ok (fun k => ?_) (validB_true (idM_ok h1 h6)).choose_spec.2.2.2.2.2 _)
  have key : ∀ y ∈ ownL x, y.Ok := by
    intro y hy
    unfold ownL at hy
    split at hy
    · rcases List.mem_singleton.1 hy with rfl; rw [turn_M]; exact turnM_ok one_ok _
    · split at hy <;> simp only [List.mem_cons, List.not_mem_nil, or_false] at hy <;> rcases hy with rfl | rfl | rfl | rfl <;> exact okB_iff.1 (by decide)
  rcases Nat.lt_or_ge k (ownL x).length with h | h
  · exact key _ (NmE.at_mem h)
  · show ((ownL x).getD k Nm.zero).Ok
    rw [List.getD_eq_getElem?_getD, List.getElem?_eq_none h]; exact zero_ok
theorem matS_lim {N : Nat} {xs : List It} (h1 : 1 ≤ N) (h6 : N ≤ 6) (hf : ∀ x ∈ xs, fitB N x = true) : ∀ j, j ≤ xs.length → ∀ {c : Int}, matS N xs j = .error c → c = 4
  | 0, _, c, h => by cases h
  | j + 1, hj, c, h => by
    rw [matS] at h
    split at h
    · rename_i c' h0
      cases h
      exact matS_lim h1 h6 hf j Ox h0
    · rename_i l h0
      have hv := (matS_act h1 h6 hf j Ox h0).1
      unfold mulM at h
      rw [itL_valid h1 h6, hv, Bool.and_self, if_pos rfl, if_pos rfl] at h
      obtain ⟨t, ht, he⟩ := gather_err_mem h
      exact prodsR_code he
theorem itemE_fits {N : Nat} {xs : List It} (h1 : 1 ≤ N) (h6 : N ≤ 6) (hl : xs.length ≤ 5000) (hf : ∀ x ∈ xs, fitB N x = true) : itemE N xs = 0 := by
  have hv : validI N xs = true := by
    unfold validI
    rw [Bool.and_eq_true, Bool.and_eq_true, decide_eq_true_eq, decide_eq_true_eq, List.all_eq_true]
    exact ⟨by omega, hl, hf⟩
  unfold itemE
  rw [if_pos Ox, if_pos hv]
theorem matO_S {N : Nat} {xs : List It} (h1 : 1 ≤ N) (h6 : N ≤ 6) (hl : xs.length ≤ 5000) (hf : ∀ x ∈ xs, fitB N x = true) : matO N xs = matS N xs xs.length := by
  unfold matO
  rw [if_pos (itemE_fits h1 h6 hl hf), Int.toNat_natCast]
theorem mat_facts {N : Nat} {xs : List It} {m : List Nm} (h1 : 1 ≤ N) (h6 : N ≤ 6) (hf : ∀ x ∈ xs, fitB N x = true) (h : matS N xs xs.length = .ok m) :
    validB N m = true ∧ unB N m = true ∧ EqT N (tb N m) (actQ xs dl) ∧ expo m ≤ cpls xs := by
  obtain ⟨hv, he⟩ := matS_act h1 h6 hf xs.length (Nat.le_refl _) h
  rw [List.take_length] at he; refine ⟨hv, (unB_C hv).2 (unC_congr he (actQ_un hf (dl_un N))), he, expo_cpls hf hv he⟩
end Go.Proofs.YtccbinnlnkpplaaGreat
namespace Go.Proofs.YtccbinnlnkpplaaGreat
set_option linter.all false
set_option maxRecDepth 100000
set_option maxHeartbeats 1000000
open Go.RowKit
section
variable {R : Option Nat} {ops : Array Oper} {Q : Exit → Act → World → Prop} {B : World} {F : List Nat} {s0 : Option (List Blk × List Blk)}
variable {l : List (Oper × Nat)} {a : Act} {s S : List Blk} {d : Option Tmp} {op : Op} {t : TypeId} {p : String} {af : Array Edge} {v : Value}
end
section
variable {P : Program} {R : Option Nat} {B : World} {F : List Nat} {s s1 s1' : List Blk} {l : Nat} {r : Loop} {X : Ending → World → Prop} {a : Act}
end
theorem cpls_take {xs : List It} {j : Nat} (h : j < xs.length) : cpls (xs.take (j + 1)) = cpls (xs.take j) + if (it xs j).kind = 2 then 1 else 0 := by
 rw [take_it h]
 unfold cpls
 rw [List.filter_append, List.length_append]
 congr 1
 by_cases e : (it xs j).kind = 2
 ·rw [if_pos e, List.filter_cons_of_pos (by simpa using e)]; rfl
 rw [if_neg e, List.filter_cons_of_neg (by simpa using e)]; rfl
theorem rcouplers_any (xs : List It) (a : Option Addr) (c : Nat) (hl : xs.length ≤ 1000000) (w : World) (hA : AS w a (its xs)) : Calls Tryz.prog 9 #[.slice a xs.length c] w fun e w' => e = .returned (.int .i64 (cpls xs : Nat)) ∧ Below w.heap.size w w' := by
 go_enter Tryz.func9, Tryz.ntmps9
 refine wk_start ?_
 refine wk_seq ?_
 refine wk_region [0] rfl Kx ?_
 refine Zm ?_
 refine rg_nil (ek_next (wk_seq ?_))
 refine wk_region [0] rfl Kx ?_
 refine Zm ?_
 refine rg_nil (ek_next (wk_seq (wk_seq ?_)))
 refine wk_region [0] rfl Kx ?_
 refine Zm ?_
 refine rg_nil (ek_next (wk_block ?_))
 refine wk_loopF [3, 4, 5, 6, 7, 8, 9, 10, 11, 12, 13, 14, 15, 16, 17, 18] (fun mz f s => ∃ (j k : Nat), f 3 = .int .i64 k ∧ f 4 = .int .i64 j ∧ s = [] ∧ mz = xs.length - j ∧ j ≤ xs.length ∧ Hid (cpls (xs.take j) = k)) ((fun (j k : Nat) => xs.length - j) (0) (0)) ?_ Kx ?_
 ·exact ⟨0, 0, rfl, rfl, rfl, rfl, by omega, Lib.hid rfl⟩
 rintro mz f1 s ⟨j, k, hs1_3, hs1_4, rfl, hn, hd1, hd2⟩
 simp only [Act.putF, List.foldl_cons, List.foldl_nil, hs1_3, hs1_4, Act.put, Act.eval, q1, q2, q3, q4, q5, q6, q7, q8, q9, q10, q11, q12, q13, q14, q15, q16, q17, q18, Nat.reduceAdd, Bool.not_true, Bool.not_false]
 clear hs1_3 hs1_4
 have hk := hd2
 clear hd2
 have hkl : k ≤ 1000000 := by (have := List.length_filter_le (fun x => decide (x.kind = 2)) (xs.take j); have h2 := List.length_take_le j xs; rw [← hk.out]; exact Nat.le_trans this Ox)
 refine wk_seq (wk_seq ?_)
 refine wk_region [0, 0, 0, 0] rfl Kx ?_
 refine Zm ?_
 refine rf_len rfl rfl rfl Tryz.underlying26 ?_
 simp only [qz]
 refine rfb_lss rfl rfl rfl rfl ?_
 intro x h1
 cases x
 ·(try simp only [qd, ne_eq] at h1)
  simp only [qz]; refine rg_nil (ek_next (wk_cond_f rfl (wk_exit (ek_then_exit (ek_then_exit (ek_block_exit (ek_next (wk_seq ?_)))))))); refine wk_region [0, 0] rfl Kx ?_; refine Zm ?_; refine rg_nil (ek_next (wk_ret ?_)); refine ek_ret (fun w hw => ⟨rfl, _, res_t _ rfl, ?_⟩); (try simp only [qz])
  obtain rfl : j = xs.length := by omega
  exact ⟨by rw [← hk.out, List.take_length], hw.below⟩
 (try simp only [qd, ne_eq] at h1)
 simp only [qz]
 obtain ⟨b, off, rfl, hlt, hcell⟩ := AS.openT hA Ox
 have hck := hcell j Ox
 refine rg_nil (ek_next (wk_cond_t rfl (wk_skip (ek_next (wk_seq (wk_block (wk_seq ?_)))))))
 refine wk_region [0, 0, 0, 0, 0, 0] rfl Kx ?_
 refine Zm ?_
 refine rf_indexS (n := j) (sz := 4) (j := off + j * 4) rfl rfl rfl rfl Tryz.underlying26 Kx Ox Ox rfl ?_
 simp only [qz]
 refine rf_field (n := 0) (j := off + j * 4) rfl rfl rfl Tryz.underlying43 rfl Kx rfl ?_
 simp only [qz]
 refine rf_load (v := .int .i64 (it xs j).kind) rfl rfl rfl Tryz.underlying3 rfl (fun w hw => (Kn.cellB hw hlt (by simp) _).trans hck.c0) ?_
 simp only [qz]
 refine rfb_eql rfl rfl rfl rfl ?_
 intro x h2
 cases x
 ·(try simp only [qd, ne_eq] at h2)
  simp only [qz]; refine rg_nil (ek_next (wk_cond_f rfl (wk_skip (ek_block (ek_next ?_))))); refine wk_region [0, 0, 0] rfl Kx ?_; refine Zm ?_; refine rf_add rfl rfl rfl rfl (wrap_ok Ox Ox) ?_; refine Zm ?_; refine rg_nil ?_; refine ek_roundF (xs.length - (j + 1)) Ox Kx ?_
  exact ⟨j + 1, k, rfl, rfl, by rfl, by rfl, by omega, (Lib.hid (by rw [cpls_take Ox, hk.out, if_neg h2, Nat.add_zero]))⟩
 (try simp only [qd, ne_eq] at h2)
 simp only [qz]
 refine rg_nil (ek_next (wk_cond_t rfl ?_))
 refine wk_region [0, 0, 0] rfl Kx ?_
 refine Zm ?_
 refine rf_add rfl rfl rfl rfl (wrap_ok Ox Ox) ?_
 refine Zm ?_
 refine rg_nil (ek_block (ek_next ?_))
 refine wk_region [0, 0, 0] rfl Kx ?_
 refine Zm ?_
 refine rf_add rfl rfl rfl rfl (wrap_ok Ox Ox) ?_
 refine Zm ?_
 refine rg_nil ?_
 refine ek_roundF (xs.length - (j + 1)) Ox Kx ?_
 exact ⟨j + 1, k + 1, rfl, rfl, by rfl, by rfl, by omega, (Lib.hid (by rw [cpls_take Ox, hk.out, if_pos h2]))⟩
theorem wcolumn_any (N col gw W : Nat) (B : Int) (M0 : Tb) (z : Zt) (L : List It) (s : List Blk) (hS : WS N gw z L s) (hN : N ≤ 4) (hN4 : N ≤ col + 4) (hB : N = col + 4 → B ≤ 13) (hWW : W ≤ 90000) (hc : col < N) (hR : Rn N col B M0 W z L) (w : World) (hK : Kn w (s.map (·.1)) s w) : Calls Tryz.prog 21 #[.pointer (some ⟨gw, 0, none⟩), .int .i64 (col : Int)] w fun e w' => e = .returned (.tuple #[]) ∧ ∃ s', Kn w (s.map (·.1)) s' w' ∧ ∃ z' L', WS N gw z' L' s' ∧ PI N (col + 1) z' ∧ Cb N (col + 1) z' ∧ EqT N (vt z') (actQ L' M0) ∧ (∀ x ∈ L', fitB N x = true) ∧ L'.length ≤ W + 4 := by
 have hLl := hR.len
 go_enter Tryz.func21, Tryz.ntmps21
 refine wk_startF hK.nil' ?_
 refine wk_seq (wk_seq ?_)
 refine wk_region [0, 0, 1, 0] rfl Kx ?_
 refine Zm ?_
 apply rg_pure Rx Kx
 case hargs => exact Ax
 case h => exact fun w hw => wexpo_any N col gw z L s hS Ox Ox hc w (Kn.self hw)
 case hz => exact Nz
 refine Zm ?_
 refine rg_nil (ek_next (wk_block ?_))
 refine wk_loopF [4, 11, 12, 13, 14, 15, 16, 17, 18, 19] (fun mz f s => ∃ (y : Zt) (M : List It) (uV : List Blk), f 4 = .int .i64 (expZ y col (N - col)) ∧ s = (uV ++ []) ∧ mz = muZ N col y ∧ WS N gw y M uV ∧ Rn N col B M0 W y M) ((fun (y : Zt) (M : List It) (uV : List Blk) => muZ N col y) (z) (L) (s)) ?_ Kx ?_
 ·exact ⟨z, L, s, rfl, rfl, rfl, hS, hR⟩
 rintro mz f1 s ⟨y, M, uV, hs1_4, rfl, hn, hd1, hd2⟩
 simp only [Act.putF, List.foldl_cons, List.foldl_nil, hs1_4, Act.put, Act.eval, q1, q2, q3, q4, q5, q6, q7, q8, q9, q10, q11, q12, q13, q14, q15, q16, q17, q18, Nat.reduceAdd, Bool.not_true, Bool.not_false]
 clear hs1_4
 have hW := hd1
 have hRn := hd2
 clear hd1 hd2
 have hML := hRn.len
 refine wk_seq (wk_seq ?_)
 refine wk_region [0, 0] rfl Kx ?_
 refine Zm ?_
 refine rfb_gtr rfl rfl rfl rfl ?_
 intro x h1
 cases x
 ·(try simp only [qd, ne_eq] at h1)
  simp only [qz]; refine rg_nil (ek_next (wk_cond_f rfl (wk_exit (ek_then_exit (ek_then_exit (ek_block_exit (ek_next (wk_seq ?_))))))))
  obtain ⟨a, hca, haN, hane, hzer⟩ := hRn.unit hc Ox
  obtain ⟨go, oc, ro, rs, ia, ic, u, hse, hrl, hoc, hlen, hval, hO, hok⟩ := hW.open_
  rw [hse]; refine wk_region [0, 0] rfl Kx ?_; refine Zm ?_; refine rg_nil (ek_next (wk_seq (wk_block ?_))); refine wk_loopF [5, 21, 22, 23, 24, 25, 26, 27, 28, 29, 30, 31, 32, 33, 34] (fun mz f s => ∃ (i : Nat), f 5 = .int .i64 i ∧ s = ((gw, .cells #[.slice (some ⟨go, 0, none⟩) N oc, .slice ia M.length ic] 49) :: ((go, .cells (rwV N rs ++ ro).toArray 22) :: (rwB rs ++ (u ++ [])))) ∧ mz = N - i ∧ col ≤ i ∧ i ≤ a) ((fun (i : Nat) => N - i) (col)) ?_ Kx ?_
  ·exact ⟨col, rfl, rfl, rfl, by omega, hca⟩
  rintro mz f2 s ⟨i, hs2_5, rfl, hn, he1, he2⟩
  simp only [Act.putF, List.foldl_cons, List.foldl_nil, hs2_5, Act.put, Act.eval, q1, q2, q3, q4, q5, q6, q7, q8, q9, q10, q11, q12, q13, q14, q15, q16, q17, q18, Nat.reduceAdd, Bool.not_true, Bool.not_false]; clear hs2_5
  obtain ⟨⟨b1, c1, l1, r1⟩, hx1⟩ : ∃ x, rs[i]? = some x := ⟨rs[i]'Ox, List.getElem?_eq_getElem Ox⟩
  have hl1 : l1.length = N := hlen ⟨b1, c1, l1, r1⟩ (List.mem_of_getElem? hx1)
  have hz1 : nm l1 col = y (i) col := hval _ _ hx1 col hc
  refine wk_seq (wk_seq ?_); refine wk_region [0, 0, 0, 0, 0, 0, 0, 0, 0, 0, 0, 0] rfl Kx ?_; refine Zm ?_; refine Zk ?_; refine rf_field (n := 0) (j := 0) rfl rfl rfl Tryz.underlying49 rfl Kx rfl ?_; simp only [qz]; refine rf_load rfl rfl rfl Tryz.underlying47 rfl (fun w hw => (Kn.hd0 hw).at rfl) ?_; refine Zm ?_; refine rf_indexS (n := i) (sz := 1) (j := i) rfl rfl rfl rfl Tryz.underlying47 Kx Ox Ox Ox ?_; simp only [qz]
  refine rf_load (v := .slice (some ⟨b1, 0, none⟩) N c1) rfl rfl rfl Tryz.underlying22 rfl (fun w hw => Kn.outer (Kn.tl hw) (hx1)) ?_; refine Zm ?_; refine rf_indexS (n := col) (sz := 5) (j := 0 + col * 5) rfl rfl rfl rfl Tryz.underlying22 Kx Ox Ox rfl ?_; simp only [qz]; refine rf_loadC (n := 5) (vs := [.int .i64 (y i col).a, .int .i64 (y i col).b, .int .i64 (y i col).c, .int .i64 (y i col).d, .int .i64 (y i col).k]) rfl rfl rfl Tryz.underlying55 rfl Kx rfl (fun w hw => atN_range (by have := Kn.row (Kn.tl (Kn.tl hw)) hx1 (k := col) (by rw [hl1]; exact hc); rw [hz1] at this; exact this)) ?_
  simp only [qz]; refine rf_build (cs := fun a => #[.int .i64 0, .int .i64 0, .int .i64 0, .int .i64 0, .int .i64 0]) rfl rfl Kx ?_; simp only [qz]; refine rfb_eqN (y i col) (Nm.zero) rfl rfl rfl rfl ?_; intro x h2; cases x
  ·(try simp only [qd, ne_eq] at h2)
   simp only [qz]; refine rg_nil (ek_next (wk_cond_f rfl (wk_exit (ek_then_exit (ek_then_exit (ek_block_exit (ek_next (wk_seq ?_))))))))
   obtain rfl : i = a := Decidable.byContradiction fun hn => h2 (hzer i Ox hn)
   rw [← hse]; refine wk_region [0, 0, 0, 1] rfl Kx ?_; refine Zm ?_; refine rg_eff (T := fun uY => WS N gw (bsZ i y (i - col)) (M ++ bsL i (i - col)) uY) (vb := uV) (rest := []) Rx Kx (by simp only [qm, qs, Act.eval]; try rfl) (List.Perm.refl _) (fun w hw => wbeside_any N i col gw y M uV hW Ox Ox hca haN w hw) (fun uY hTuY => ?_); simp only [qz]; refine rg_nil (ek_next (wk_seq ?_))
   obtain ⟨hpi, hbnd, hact, hfit, hlen3, hun, hz0⟩ := hRn.beside hN hc hca haN hane Ox
   obtain ⟨go2, oc2, ro2, rs2, ia2, ic2, u2, hse2, hrl2, hoc2, hlen2, hval2, hO2, hok2⟩ := hTuY.open_
   rw [hse2]; refine wk_region [0, 0, 1, 1] rfl Kx ?_; simp only [qy]; refine rf_build (cs := fun a => #[a.eval (.const (.int .i64 1)), .int .i64 0, .int .i64 0, .int .i64 0]) rfl rfl Kx ?_; simp only [qz]; refine rf_build (cs := fun a => #[cellAt (a.eval (.tmp 39)) 0, cellAt (a.eval (.tmp 39)) 1, cellAt (a.eval (.tmp 39)) 2, cellAt (a.eval (.tmp 39)) 3, .int .i64 0]) rfl rfl Kx ?_; simp only [qz]
   refine Rgn fun g1 => ?_
   simp only [qz]; refine rf_storeR (n := 5) rfl rfl Kx rfl rfl (UpdR.here _ _ _ Nl) Nz ?_; simp only [qz, Nat.reduceAdd]; refine rg_nil (ek_next (wk_seq ?_)); refine wk_region [0] rfl Kx ?_; refine Zm ?_; refine rg_nil (ek_next (wk_block ?_)); refine wk_loopF [7, 41, 42, 43, 44, 45, 46, 47, 48, 49, 50, 51, 52, 53, 54, 55, 56, 57, 58, 59, 60, 61, 62, 63, 64, 65] (fun mz f s => ∃ (n : Nat), f 41 = .int .i64 n ∧ s = ((g1, .cells #[.int .i64 1, .int .i64 0, .int .i64 0, .int .i64 0, .int .i64 0] 55) :: ((gw, .cells #[.slice (some ⟨go2, 0, none⟩) N oc2, .slice ia2 (M ++ bsL i (i - col)).length ic2] 49) :: ((go2, .cells (rwV N rs2 ++ ro2).toArray 22) :: (rwB rs2 ++ (u2 ++ []))))) ∧ mz = 8 - n ∧ n ≤ 8 ∧ (∀ j, j < n → turnM j (bsZ i y (i - col) col col) ≠ Nm.one)) ((fun (n : Nat) => 8 - n) (0)) ?_ Kx ?_
   ·exact ⟨0, rfl, rfl, rfl, by omega, (fun j y1 => absurd y1 Ox)⟩
   rintro mz f3 s ⟨n, hs3_41, rfl, hn, hx1, hx2⟩
   simp only [Act.putF, List.foldl_cons, List.foldl_nil, hs3_41, Act.put, Act.eval, q1, q2, q3, q4, q5, q6, q7, q8, q9, q10, q11, q12, q13, q14, q15, q16, q17, q18, Nat.reduceAdd, Bool.not_true, Bool.not_false]; clear hs3_41; refine wk_seq ?_; refine wk_region [0] rfl Kx ?_; simp only [qy]; refine rfb_lss rfl rfl rfl rfl ?_; intro x h3; cases x
   ·(try simp only [qd, ne_eq] at h3)
    simp only [qz]; refine rg_nil (ek_next (wk_seq (wk_cond_f rfl (wk_exit (ek_then_exit (ek_then_exit (ek_block_exit ?_)))))))
    exfalso
    obtain ⟨n', hn8, hn1⟩ := hun
    exact hx2 n' Ox hn1
   (try simp only [qd, ne_eq] at h3); simp only [qz]; refine rg_nil (ek_next (wk_seq (wk_cond_t rfl (wk_skip (ek_next (wk_seq (wk_block (wk_seq ?_)))))))); refine wk_region [0, 0] rfl Kx ?_; refine Zm ?_; refine rg_nil (ek_next (wk_seq ?_))
   obtain ⟨⟨b3, c3, l3, r3⟩, hx3⟩ : ∃ x, rs2[col]? = some x := ⟨rs2[col]'Ox, List.getElem?_eq_getElem Ox⟩
   have hl3 : l3.length = N := hlen2 ⟨b3, c3, l3, r3⟩ (List.mem_of_getElem? hx3)
   have hz3 : nm l3 col = (bsZ i y (i - col)) (col) col := hval2 _ _ hx3 col hc
   have hok3 := hok2 col col Ox Ox
   refine wk_draws _ _ [(0, 0), (1, 0), (2, 0), (3, 0), (4, 0), (5, 0), (6, 0), (7, 0), (8, 0), (9, 0), (10, 0), (15, 0), (11, 1), (12, 0), (13, 0), (14, 1), (16, 0)] [] Kx Kx (fun c d v a w h => by cases d <;> exact h) ((sc _ (sc _ (sc _ (List.Sublist.append_left (List.Sublist.append_left sn _) _))))) (fun e => by first | exact absurd e (by decide) | rfl) ?_; simp only [List.map_cons, List.map_nil, List.getD_cons_zero, List.getD_cons_succ]
   refine Zm ?_; refine Zk ?_; refine rf_field (n := 0) (j := 0) rfl rfl rfl Tryz.underlying49 rfl Kx rfl ?_; simp only [qz]; refine rf_load rfl rfl rfl Tryz.underlying47 rfl (fun w hw => (Kn.hd0 (Kn.tl hw)).at rfl) ?_; refine Zm ?_; refine rf_indexS (n := col) (sz := 1) (j := col) rfl rfl rfl rfl Tryz.underlying47 Kx Ox Ox Ox ?_; simp only [qz]; refine rf_load (v := .slice (some ⟨b3, 0, none⟩) N c3) rfl rfl rfl Tryz.underlying22 rfl (fun w hw => Kn.outer (Kn.tl (Kn.tl hw)) (hx3)) ?_
   refine Zm ?_; refine rf_indexS (n := col) (sz := 5) (j := 0 + col * 5) rfl rfl rfl rfl Tryz.underlying22 Kx Ox Ox rfl ?_; simp only [qz]; refine rf_loadC (n := 5) (vs := [.int .i64 (bsZ i y (i - col) col col).a, .int .i64 (bsZ i y (i - col) col col).b, .int .i64 (bsZ i y (i - col) col col).c, .int .i64 (bsZ i y (i - col) col col).d, .int .i64 (bsZ i y (i - col) col col).k]) rfl rfl rfl Tryz.underlying55 rfl Kx rfl (fun w hw => atN_range (by have := Kn.row (Kn.tl (Kn.tl (Kn.tl hw))) hx3 (k := col) (by rw [hl3]; exact hc); rw [hz3] at this; exact this)) ?_
   refine Zm ?_; refine rf_loadR (n := 5) rfl rfl rfl Tryz.underlying55 rfl Kx (fun w hw => Kn.hd0 hw) rfl rfl ?_; simp only [qz]; apply rg_pure Rx Kx
   case hargs => exact Ax
   case h => exact fun w hw => amTurnM (bsZ i y (i - col) col col) n Ox hok3 w
   case hz => exact (fun _ h => by cases h; exact (sc _ (sc _ (sc _ (List.Sublist.append_left (List.Sublist.append_left sn _) _)))))
   simp only [qz]; refine rf_extract rfl rfl rfl rfl ?_; simp only [qz]; refine rf_extract rfl rfl rfl rfl ?_; simp only [qz]; apply rg_pure Rx Kx
   case hargs => exact Ax
   case h => exact fun w hw => must_any (turnM n (bsZ i y (i - col) col col)) 0 w
   case hz => exact (fun _ h => by cases h; exact (sc _ (sc _ (sc _ (List.Sublist.append_left (List.Sublist.append_left sn _) _)))))
   simp only [qz]; refine rfb_eqN (turnM n (bsZ i y (i - col) col col)) (Nm.one) rfl rfl rfl rfl ?_; intro x h4; cases x
   ·(try simp only [qd, ne_eq] at h4)
    simp only [qz]; refine rg_nil (ek_next (wk_cond_f rfl (wk_skip (ek_block (ek_next ?_))))); refine wk_region [0, 0] rfl Kx ?_; simp only [qy]; refine rf_add rfl rfl rfl rfl (wrap_ok Ox Ox) ?_; refine Zm ?_; refine rg_nil ?_; refine ek_roundF (8 - (n + 1)) Ox Kx ?_
    exact ⟨n + 1, rfl, by rfl, by rfl, by omega, (fun j y1 => if e : j = n then e ▸ h4 else hx2 j Ox)⟩
   (try simp only [qd, ne_eq] at h4); simp only [qz]; refine rg_nil (ek_next (wk_cond_t rfl (wk_seq ?_))); rw [← hse2]; refine wk_region [0, 0, 0, 1] rfl Kx ?_; refine Zm ?_; refine rg_eff (T := fun uZ => WS N gw (phZ col n (bsZ i y (i - col))) (if n = 0 then (M ++ bsL i (i - col)) else (M ++ bsL i (i - col)) ++ [phsI ((col : Int) + 1) n]) uZ) (vb := uY) (rest := [(g1, .cells #[.int .i64 1, .int .i64 0, .int .i64 0, .int .i64 0, .int .i64 0] 55)]) Rx Kx (by simp only [qm, qs, Act.eval]; try rfl) (perm_atU (l := [_]) (u := uY) (List.Perm.refl _)) (fun w hw => wphase_any N col gw (bsZ i y (i - col)) (M ++ bsL i (i - col)) uY hTuY Ox Ox hc n n Ox w hw) (fun uZ hTuZ => ?_)
   simp only [qz]; refine rg_nil (ek_next (wk_ret (ek_block_ret (ek_then_ret (ek_then_ret (ek_block_ret ?_)))))); refine ek_sub (List.Sublist.append_left (sk _ sn) _) ?_; refine ek_ret (fun w hw => ⟨rfl, _, res_0 rfl, ?_⟩); (try simp only [qz])
   obtain ⟨r1, r2, r3, r4, r5⟩ := Rn.last hN4 hB hc hpi hbnd hact hfit (show n < 8 by omega) h4 hz0
   exact ⟨(by first | rfl | trivial), _, hw.of_nil, _, _, hTuZ, r1, r2, r3, r4, by omega⟩
  (try simp only [qd, ne_eq] at h2); simp only [qz]; refine rg_nil (ek_next (wk_cond_t rfl (wk_skip (ek_next (wk_block ?_))))); refine wk_region [0, 0, 0] rfl Kx ?_; refine Zm ?_; refine rf_add rfl rfl rfl rfl (wrap_ok Ox Ox) ?_; refine Zm ?_; refine rg_nil (ek_block ?_); refine ek_roundF (N - (i + 1)) Ox Kx ?_
  exact ⟨i + 1, rfl, by rfl, by rfl, by omega, (by rcases (by omega : i = a ∨ i < a) with e | e; exact absurd (e ▸ h2) hane; omega)⟩
 (try simp only [qd, ne_eq] at h1)
 simp only [qz]
 refine rg_nil (ek_next (wk_cond_t rfl (wk_skip (ek_next (wk_seq (wk_block ?_))))))
 refine wk_region [0, 0, 0, 1] rfl Kx ?_
 refine Zm ?_
 obtain ⟨K, hKe⟩ : ∃ K : Nat, expZ y col (N - col) = K := ⟨(expZ y col (N - col)).toNat, by omega⟩
 have hEx := expZ_exp (N := N) (z := y) (show col ≤ N by omega)
 refine rg_eff (T := fun uX => ∃ y2 M2, WS N gw y2 M2 uX ∧ PairR N col (expZ y col (N - col)) y M y2 M2) (vb := uV) (rest := []) Rx Kx (by simp only [qm, qs, Act.eval]; try rfl) (List.Perm.refl _) (fun w hw => wpair_any N col gw (expZ y col (N - col)) y M uV hW Ox Ox hc w hw) (fun uX hTuX => ?_)
 simp only [qz]
 obtain ⟨y2, M2, hW2, hP2⟩ := hTuX
 rw [hKe] at hP2 hEx
 have hR2 := hRn.pair hN hc Ox hEx hP2
 refine rg_nil (ek_block (ek_next ?_))
 refine wk_region [0, 0, 1, 0] rfl Kx ?_
 refine Zm ?_
 apply rg_pure Rx Kx
 case hargs => exact Ax
 case h => exact fun w hw => wexpo_any N col gw y2 M2 uX hW2 Ox (by have := hR2.1.len; omega) hc w (Kn.self hw)
 case hz => exact Nz
 refine Zm ?_
 refine rg_nil ?_
 refine ek_roundF (muZ N col y2) (by have := hR2.2; omega) Kx ?_
 exact ⟨y2, M2, uX, rfl, by rfl, by rfl, hW2, hR2.1⟩
theorem dag_k {N : Nat} {xs zs : List Nm} (hv : validB N xs = true) (hz : validB N zs = true) (ht : ∀ i k, i < N → k < N → tb N zs i k = Q4.conj (tb N xs k i)) {i k : Nat} (hi : i < N) (hk : k < N) : (nm zs (i * N + k)).k ≤ expo xs := by
  obtain ⟨N', e, h1, h6, hx, -, ho⟩ := validB_true hv
  obtain rfl : N' = N := by omega
  obtain ⟨N'', e2, -, -, -, -, ho2⟩ := validB_true hz
  have o1 : (nm xs (k * N' + i)).Ok := nm_okA ho _
  have o2 : (nm zs (i * N' + k)).Ok := nm_okA ho2 _
  have h := ht i k hi hk
  unfold tb at h
  rw [← val_conj] at h; rw [val_ok o2 (conj_ok o1) h]
  show (nm xs (k * N' + i)).k ≤ _
  refine (expo_ok ho).2.2 _ (NmE.at_mem ?_); rw [hx]
  exact ix_lt hk hi
theorem cb_start {N : Nat} {z : Zt} {K : Int} (hN : N ≤ 4) (h1 : 1 ≤ N) (hK : K ≤ mostN N) (hz : ∀ i k, i < N → k < N → (z i k).k ≤ K) : Cb N 0 z := by
  rcases (by omega : N = 1 ∨ N = 2 ∨ N = 3 ∨ N = 4) with rfl | rfl | rfl | rfl
  · exact .inl Ox
  · exact .inl Ox
  · exact .inr ⟨12, .inl ⟨rfl, by omega⟩, fun i k _ hi hk => by have := hz i k hi hk; have e : mostN 3 = 12 := rfl; omega⟩
  exact .inr ⟨4, .inr ⟨rfl, by omega⟩, fun i k _ hi hk => by have := hz i k hi hk; have e : mostN 4 = 4 := rfl; omega⟩
theorem prog_yes (N : Nat) (xs : List Nm) (a : Option Addr) (c : Nat) (hl : xs.length ≤ 1000000) (hv : Hid (validB (N : Int) xs = true)) (hN : ¬ (N : Int) > 4) (hk : ¬ expo xs > mostN N) (hu : Hid (unB (N : Int) xs = true)) (w : World) (hA : AS w a (nms xs)) : Calls Tryz.prog 5 #[.agg #[.int .i64 N, .slice a xs.length c]] w fun e w' => ∃ L, ProgL N xs L ∧ RetS w L 0 e w' := by
  have hex : Hid (expR (N : Int) xs = (expo xs, 0)) := Lib.hid (by unfold expR; rw [hv.out, if_pos rfl])
  obtain ⟨-, hN1, hN6', hxl⟩ : True ∧ 1 ≤ N ∧ N ≤ 6 ∧ xs.length = N * N := by
    obtain ⟨N', e, h1, h6, hx, -⟩ := validB_true hv.out
    obtain rfl : N' = N := by omega
    exact ⟨trivial, h1, h6, hx⟩
  obtain ⟨zs, hdg, hzv, hzt⟩ := dagM_ok (N := N) hv.out
  obtain ⟨-, hzl, hzo⟩ : True ∧ zs.length = N * N ∧ allOk zs = true := by
    obtain ⟨N', e, -, -, hx, -, ho⟩ := validB_true hzv
    obtain rfl : N' = N := by omega
    exact ⟨trivial, hx, ho⟩
  have hz36 : zs.length ≤ 36 := by rw [hzl]; exact Nat.mul_le_mul hN6' hN6'
  have hz1 : 1 ≤ zs.length := by rw [hzl]; exact Nat.mul_le_mul hN1 hN1
  replace hzl := Lib.hid hzl
  replace hxl := Lib.hid hxl
  replace hdg := Lib.hid hdg
  refine calls_marks Tryz.func5 rfl ?_; simp only [Tryz.ntmps5, List.size_toArray, List.length_cons, List.length_nil, Nat.reduceAdd, Nat.reduceSub, Array.replicate_succ, Array.replicate_zero, List.push_toArray, List.append_toArray, List.nil_append, List.cons_append]; refine wk_seq ?_; refine wk_region [1, 0, 0] rfl Kx ?_; simp only [qy]
  refine Rgn fun g1 => ?_
  refine Zm ?_; refine rg_nil (ek_next (wk_seq (wk_seq ?_))); refine wk_region [0, 1, 0] rfl Kx ?_; simp only [qy]; refine rf_loadR (n := 2) rfl rfl rfl Tryz.underlying24 rfl Kx (fun w hw => Kn.hd0 hw) rfl rfl ?_; simp only [qz]; apply rg_pure Rx Kx
  case hargs => exact Ax
  case h => exact fun w hw => by have := mvalid_any (N : Int) xs a c hl w (hA.kn0 hw); rw [hv.out] at this; exact this
  case hz => exact Nz
  simp only [qz]; refine rf_not rfl rfl rfl ?_; simp only [qz]; refine rg_nil (ek_next (wk_cond_f rfl (wk_skip (ek_next (wk_seq ?_))))); refine wk_region [0, 1, 0, 0, 0, 0, 0] rfl Kx ?_; simp only [qy]; refine rf_loadR (n := 2) rfl rfl rfl Tryz.underlying24 rfl Kx (fun w hw => Kn.hd0 hw) rfl rfl ?_; simp only [qz]; apply rg_pure Rx Kx
  case hargs => exact Ax
  case h => exact fun w hw => by have := mExponent_any (N : Int) xs a c hl w (hA.kn0 hw); rw [hex.out] at this; exact this
  case hz => exact Nz
  refine Zm ?_; refine rf_extract rfl rfl rfl rfl ?_; simp only [qz]; refine rf_extract rfl rfl rfl rfl ?_; refine Zm ?_; refine rg_nil (ek_next (wk_seq (wk_seq ?_))); refine wk_region [0, 0, 0, 0, 0, 0, 0, 1, 0, 0] rfl Kx ?_; simp only [qy]; refine rf_field (n := 0) (j := 0) rfl rfl rfl Tryz.underlying24 rfl Kx rfl ?_; simp only [qz]; refine rf_load rfl rfl rfl Tryz.underlying3 rfl (fun w hw => (Kn.hd0 hw).at rfl) ?_; simp only [qz]
  refine rfb_gtr rfl rfl rfl rfl ?_; intro x h1
  obtain rfl : x = false := by (refine h1.symm.trans ?_; exact decide_eq_false Ox)
  clear h1; refine Zm ?_; apply rg_soft_g
  case hg => rfl
  case hy => (intro w hw; go_simp; (try go_bits); exact Yld.mk _ _)
  simp only [qz]; refine rf_field (n := 0) (j := 0) rfl rfl rfl Tryz.underlying24 rfl Kx rfl ?_; simp only [qz]; refine rf_load rfl rfl rfl Tryz.underlying3 rfl (fun w hw => (Kn.hd0 hw).at rfl) ?_; simp only [qz]; apply rg_pure Rx Kx
  case hargs => exact Ax
  case h => exact fun w hw => most_any N Ox w
  case hz => exact Nz
  simp only [qz]; refine rfb_gtr rfl rfl rfl rfl ?_; intro x h2
  obtain rfl : x = false := by (refine h2.symm.trans ?_; exact decide_eq_false Ox)
  clear h2; simp only [qz]; refine rf_pick rfl rfl rfl ?_; simp only [qz]; refine rg_nil (ek_next (wk_cond_f rfl (wk_skip (ek_next (wk_seq (wk_seq ?_)))))); refine wk_region [0, 1, 0, 0, 0, 0, 0] rfl Kx ?_; simp only [qy]; refine rf_loadR (n := 2) rfl rfl rfl Tryz.underlying24 rfl Kx (fun w hw => Kn.hd0 hw) rfl rfl ?_; simp only [qz]; apply rg_pure Rx Kx
  case hargs => exact Ax
  case h => exact fun w hw => sunitary_yes (N : Int) xs a c hl hv hu w (hA.kn0 hw)
  case hz => exact Nz
  refine Zm ?_; refine rf_extract rfl rfl rfl rfl ?_; simp only [qz]; refine rf_extract rfl rfl rfl rfl ?_; refine Zm ?_; refine rg_nil (ek_next (wk_seq ?_)); refine wk_region [0, 0] rfl Kx ?_; refine Zm ?_; refine rf_neq (b := false) rfl rfl rfl rfl (by decide) ?_; simp only [qz]; refine rg_nil (ek_next (wk_cond_f rfl (wk_skip (ek_next (wk_seq ?_))))); refine wk_region [0, 1, 0, 0, 0, 1, 1, 0] rfl Kx ?_; simp only [qy]; refine rf_loadR (n := 2) rfl rfl rfl Tryz.underlying24 rfl Kx (fun w hw => Kn.hd0 hw) rfl rfl ?_
  simp only [qz]
  apply (rg_retM (n := (N : Int)) (zs := zs) (c := 0)) Rx Kx
  case hargs => exact Ax
  case h => exact fun w hw => by have := mdagger_any (N : Int) xs a c hl w (hA.kn0 hw); rw [hdg.out, Int.toNat_natCast] at this; exact this
  case hz => exact Nz
  intro va2 vc2 u2 hO2; refine Zm ?_; refine rf_extract rfl rfl rfl rfl ?_; simp only [qz]; refine rf_extract rfl rfl rfl rfl ?_; simp only [qz]
  refine Rgn fun g3 => ?_
  simp only [qz]; refine rf_storeR (n := 2) rfl rfl Kx rfl rfl (UpdR.here _ _ _ Nl) Nz ?_; simp only [qz, Nat.reduceAdd]; refine Zm ?_; refine rg_nil (ek_next (wk_seq ?_))
  obtain ⟨bz, cz, rz, hu, hvo, hco1, hco2, hco3⟩ := hO2.openM Ox
  subst hu
  cases hvo
  simp only [List.cons_append, List.nil_append]; refine wk_region [0, 1, 1, 1] rfl Kx ?_; simp only [qy]; refine rf_build (cs := fun a => #[.slice none 0 0, .slice none 0 0]) rfl rfl Kx ?_; simp only [qz]
  refine Rgn fun g4 => ?_
  simp only [qz]
  refine Rgn fun g5 => ?_
  simp only [qz]; refine rf_store rfl rfl Kx rfl rfl (UpdR.here _ _ _ Nl) Nz ?_; simp only [qz]; refine rg_nil (ek_next (wk_seq (wk_seq ?_))); refine wk_region [0, 0, 0, 0, 1] rfl Kx ?_; simp only [qy]; refine rf_field (n := 0) (j := 1) rfl rfl rfl Tryz.underlying24 rfl Kx rfl ?_; simp only [qz]; refine rf_load rfl rfl rfl Tryz.underlying22 rfl (fun w hw => (Kn.hd0 (Kn.tl (Kn.tl hw))).at rfl) ?_; simp only [qz]; refine rf_field (n := 0) (j := 0) rfl rfl rfl Tryz.underlying24 rfl Kx rfl ?_
  simp only [qz]; refine rf_load rfl rfl rfl Tryz.underlying3 rfl (fun w hw => (Kn.hd0 (Kn.tl (Kn.tl (Kn.tl (Kn.tl hw))))).at rfl) ?_; simp only [qz]; apply rg_made (T := fun v u => ∃ gs gn, v = .func (.func 37) #[] #[.pointer (some ⟨gs, 0, none⟩), .pointer (some ⟨gn, 0, none⟩)] ∧ u = [(gn, .cells #[.int .i64 N] 3), (gs, .cells #[.slice (some ⟨bz, 0, none⟩) zs.length vc2] 22)]) Rx Kx
  case hargs => exact Ax
  case h => exact fun w hw => (chunk_any N bz zs.length vc2 hN1 w).mono (fun e w' ⟨gs, gn, he, hm⟩ => ⟨_, _, he, ⟨gs, gn, rfl, rfl⟩, hm⟩)
  case hz => exact Nz
  rintro v1 u1 ⟨gs, gn, rfl, rfl⟩
  simp only [List.cons_append, List.nil_append]; simp only [qz]; refine rg_nil (ek_next (wk_block ?_)); refine wk_rangeFunc (f := 37) (caps := #[.pointer (some ⟨gs, 0, none⟩), .pointer (some ⟨gn, 0, none⟩)]) rfl Kx ?_; intro fn dd lp w1 K1
  obtain ⟨r, hr⟩ := exl_loop K1
  rw [← hr] at K1
  have K2 := K1.perm ((perm_at (l := [_, _, _]) (perm_at (l := [_, _, _]) (perm_at (l := [_, _, _, _]) (perm_at (l := [_, _]) (perm_at (l := [_]) (List.Perm.refl _)))))).cons _)
  have K3 := Kn.self (v := [_, _, _, _, _, _]) (rest := [_, _, _]) K2
  have hR : RoundsK N bz lp r (ChC N lp g5 g4 bz r zs rz) := by
    subst hr
    refine ⟨rfl, fun j s ⟨ra, rc, rs, uo, e, _⟩ => by subst e; simp, ?_⟩; intro R B F j i s rest w hj hi ⟨ra, rc, rs, uo, hs, hOw, hrl, hrv⟩ K
    subst hs
    simp only [List.cons_append, List.append_assoc, List.nil_append] at K
    have hij : i + N ≤ zs.length := by
      have := Nat.mul_le_mul_right N (show j + 1 ≤ N by omega)
      rw [Nat.add_mul, Nat.one_mul, ← hi, ← hzl.out] at this
      exact this
    replace hi := Lib.hid hi
    refine roundIn_kn (Rep.here _) rfl ?_ K; simp only [fold_zipK]; simp only [qz]; refine wk_region [0] rfl Kx ?_; refine Zm ?_; refine rg_nil ?_; refine ek_asg ?_; refine wk_block ?_; refine wk_drawsR _ _ [(0, 0), (1, 0), (2, 0), (3, 0), (4, 0), (5, 0), (6, 1), (7, 1), (8, 1), (9, 3), (10, 0), (11, 2)] [11] Kx Kx (fun c d v a w h => by cases d <;> exact h) ((sc _ (sc _ (sc _ (sc _ (List.Sublist.append_left ((List.Sublist.refl _).trans (List.sublist_append_right _ _)) _)))))) (fun e => by first | exact absurd e (by decide) | rfl) Rx ?_ ((sc _ (sc _ (sk _ (sc _ (List.Sublist.append_left (List.Sublist.refl _) _))))))
    simp only [List.map_cons, List.map_nil, List.getD_cons_zero, List.getD_cons_succ]; refine rf_load rfl rfl rfl Tryz.underlying46 rfl (fun w hw => (Kn.hd0 (Kn.tl hw)).at rfl) ?_; simp only [qz]; refine rf_load rfl rfl rfl Tryz.underlying46 rfl (fun w hw => (Kn.hd0 (Kn.tl hw)).at rfl) ?_; simp only [qz]; refine Zk ?_; refine rf_field (n := 0) (j := 0) rfl rfl rfl Tryz.underlying49 rfl Kx rfl ?_; simp only [qz]; refine rf_load rfl rfl rfl Tryz.underlying47 rfl (fun w hw => (Kn.hd0 (Kn.tl (Kn.tl hw))).at rfl) ?_
    refine Zm ?_; apply rg_made (T := fun v u => OwnN u v (chunkL zs i N)) Rx Kx
    case hargs => exact Ax
    case h => exact fun w hw => (clonek_any N bz (0 + i * 5) N (chunkL zs i N) (Lib.hid (chunkL_len zs i N)) Ox w (chunk_as (Kn.hd0 (Kn.tl (Kn.tl (Kn.tl hw)))) hij)).mono (fun e w' ⟨v, u, he, hO, hm⟩ => ⟨v, u, he, hO, hm⟩)
    case hz => exact (fun _ h => by cases h; exact (sc _ (sc _ (sc _ (sc _ (List.Sublist.append_left ((List.Sublist.refl _).trans (List.sublist_append_right _ _)) _))))))
    intro v2 u2 hO2
    obtain ⟨gr, cr, rr, hu2, hv2, hr1, hr2, hr3⟩ := hO2.openM (by rw [chunkL_len]; omega)
    subst hu2
    rw [chunkL_len] at hv2
    subst hv2
    simp only [List.cons_append, List.nil_append]; simp only [qz]
    refine rg_newS (cs := ?_) (ty := ?_) (n := 1) (c := 1) Rx (fun w => ?_) (fun _ h => by cases h; exact (sk _ (sc _ (sc _ (sc _ (sc _ (List.Sublist.append_left ((List.Sublist.refl _).trans (List.sublist_append_right _ _)) _))))))) (fun g6 => ?_); rotate_left 2
    focus (go_simp; rfl)
    simp only [qz]; refine rg_appRow (u := uo) (hs := rwV N rs) (n := j) (h := .slice (some ⟨gr, 0, none⟩) N cr) Rx rfl hOw rfl Ox rfl ((((((((((((((((List.Perm.refl _).append_left _).trans (List.perm_append_comm_assoc (rwB rs) uo _)).cons _).trans (List.perm_middle (l₁ := uo)).symm).cons _).trans (List.perm_middle (l₁ := uo)).symm).cons _).trans (List.perm_middle (l₁ := uo)).symm).cons _).trans (List.perm_middle (l₁ := uo)).symm).cons _).trans (List.perm_middle (l₁ := uo)).symm).cons _).trans (List.perm_middle (l₁ := uo)).symm).trans ((List.Perm.refl _).append_left _)) (fun w hw => Kn.hd0 hw) (fun _ h => by cases h; exact (sk _ (sk _ (sc _ (sc _ (sc _ (sc _ (List.Sublist.append_left (List.Sublist.refl _) _)))))))) (fun uP aP cP hOP => ?_)
    simp only [qz]; apply rg_softP
    case hy => (intro w hw; go_simp; (try go_bits); exact Yld.mk _ _)
    simp only [qz]; refine rf_field (n := 0) (j := 0) rfl rfl rfl Tryz.underlying49 rfl Kx rfl ?_; simp only [qz]; refine rf_storeM rfl rfl Kx rfl rfl (UpdR.app _ (UpdR.there _ (UpdR.there _ (UpdR.there _ (UpdR.there _ (UpdR.here _ _ _ Nl)))))) ((sk _ (sk _ (sc _ (sc _ (sk _ (sc _ (List.Sublist.append_left (List.Sublist.refl _) _))))))).trans (List.sublist_append_right _ _)) ?_; simp only [qz]; refine rg_nil ?_
    refine ek_out ?_; refine ek_block ?_; refine ek_perm ((((((((List.Perm.refl _).cons _).trans (List.Perm.swap _ _ _)).cons _).trans (List.Perm.swap _ _ _)).append_left _).trans (List.perm_middle (l₁ := uP))).trans (((((((((List.Perm.refl _).cons _).trans (List.Perm.swap _ _ _)).cons _).trans (List.Perm.swap _ _ _)).append_left _).trans (List.perm_middle (l₁ := uP))).trans (((((((((List.Perm.refl _).cons _).trans (List.Perm.swap _ _ _)).cons _).trans (List.Perm.swap _ _ _)).append_left _).trans (List.perm_middle (l₁ := uP))).trans (((((((((List.Perm.refl _).cons _).trans (List.Perm.swap _ _ _)).cons _).trans (List.Perm.swap _ _ _)).append_left _).trans (List.perm_middle (l₁ := uP))).trans (((((((((List.Perm.refl _).cons _).trans (List.perm_middle (l₁ := (rwB rs))).symm).cons _).trans (List.perm_middle (l₁ := (rwB rs))).symm).append_left _).trans (List.perm_append_comm_assoc uP (rwB rs) _)).trans (((((((List.Perm.refl _).cons _).trans (List.Perm.swap _ _ _)).append_left _).trans (List.perm_middle (l₁ := uP))).trans ((List.Perm.refl _).cons _)).append_left _)).cons _)).cons _)).cons _)).cons _)) ?_
    refine ek_sub (sc _ (sc _ (sc _ (sc _ (List.Sublist.append_left (sc _ (List.Sublist.append_left (sk _ (List.Sublist.refl _)) _)) _))))) ?_; refine ek_roundEnd (Rep.here _) (fun w hw => ⟨_, rfl, ⟨aP, cP, rs ++ [⟨gr, cr, chunkL zs i N, rr⟩], uP, rfl, (by unfold rwV; rw [List.map_append]; exact hOP), by rw [List.length_append, hrl]; rfl, fun i' q hq => ?_⟩, Kn.to ?_ hw⟩)
    · rcases rw_snoc_get hq with ⟨e1, e2⟩ | h
      · subst e2 e1
        refine ⟨chunkL_len _ _ _, fun k hk => ?_⟩
        show nm (chunkL zs i N) k = _
        rw [chunkL_nm hk, hi.out, hrl]
      · exact hrv i' q h
    · simp only [rwB, RW.blk, List.map_append, List.map_cons, List.map_nil, List.append_assoc, List.cons_append, List.nil_append]
  have hpend : r.pending = none := by subst hr; rfl
  have hst : r.state ≠ .busy := by (subst hr; simp)
  clear hr
  have hC0 : ChC N lp g5 g4 bz r zs rz 0 [(lp, .loop r), (g5, .cells #[.pointer (some ⟨g4, 0, none⟩)] 46), (g4, .cells #[.slice none 0 0, .slice none 0 0] 49), (bz, .cells (NmE.flat zs ++ rz).toArray 55)] := ⟨none, 0, [], [], rfl, Own.nil _ _, rfl, fun i x h => by simp at h⟩
  refine (chunk1_any N zs.length bz vc2 lp gs gn hN1 hN6' hzl hz36 hco1 r _ hR _ _ hC0 w1 K3).mono ?_
  rintro e w2 ⟨rfl, s', ⟨ra, rc, rs, uo, rfl, hOw, hrl, hrv⟩, hK⟩
  have K4 := Kn.effApp (v := [_, _, _, _, _, _]) (rest := [_, _, _]) K2 hK
  simp only [List.cons_append, List.append_assoc, List.nil_append] at K4; refine ⟨_, _, r, _, rfl, K4, Rep.here _, hst, ?_⟩; rw [hpend]; refine ek_block (ek_next (wk_seq (wk_seq ?_)))
  obtain ⟨go, oc, ro, hu, hv', hrl2⟩ := hOw.open1 Ox
  subst hu
  cases hv'
  obtain ⟨ao, co, heo, hoc⟩ := Own.val hOw
  cases heo
  simp only [List.cons_append, List.nil_append]
  have hW0 : WS N g4 (fun i k => nm zs (i * N + k)) [] ((g4, .cells #[.slice (some ⟨go, 0, none⟩) N rc, .slice none 0 0] 49) :: (go, .cells (rwV N rs ++ ro).toArray 22) :: (rwB rs ++ ([] ++ [])))   := ⟨go, rc, ro, rs, none, 0, [], rfl, hrl, hoc, fun x hx => (by obtain ⟨i, hi⟩ := List.getElem?_of_mem hx; exact (hrv i x hi).1), fun i x hx k hk => (hrv i x hx).2 k hk, OwnT.nil, fun i k hi hk => nm_okA hzo _⟩
  refine wk_perm (perm_at (l := [_, _]) ((((((((((List.Perm.refl _).append_left _).trans (List.perm_middle (l₁ := (rwB rs)))).cons _).trans (List.Perm.swap _ _ _)).cons _).trans (List.Perm.swap _ _ _)).cons _).trans (List.Perm.swap _ _ _)).trans ((perm_atU (l := [_, _, _]) (u := (rwB rs)) (perm_at (l := [_]) (perm_at (l := [_, _, _, _, _, _]) (perm_at (l := [_, _, _, _]) (List.Perm.refl _))))).cons _))) ?_
  refine wk_sub (sc _ (sc _ (List.Sublist.append_left (sc _ (sc _ (sc _ (sk _ (sk _ (sk _ (sk _ (sk _ sn)))))))) _))) ?_
  have hpi0 : PI N 0 (fun i k => nm zs (i * N + k)) := ⟨fun i k hi hk => nm_okA hzo _, unC_congr (b := fun i k => Q4.conj (tb N xs k i)) (fun i k hi hk => hzt i k hi hk) (unC_dag ((unB_C hv.out).1 hu.out)), fun i c _ hc => absurd hc Ox⟩
  have hk40 := expo_ok (validB_true hv.out).choose_spec.2.2.2.2.2
  have hkz : ∀ i k, i < N → k < N → (nm zs (i * N + k)).k ≤ expo xs := fun i k hi hk => dag_k hv.out hzv hzt hi hk
  have hcb0 : Cb N 0 (fun i k => nm zs (i * N + k)) := cb_start Ox hN1 (show expo xs ≤ mostN N by omega) hkz
  have hact0 : EqT N (vt (fun i k => nm zs (i * N + k))) (actQ [] fun i k => Q4.conj (tb N xs k i)) := fun i k hi hk => hzt i k hi hk
  refine wk_region [0, 0, 0] rfl Kx ?_; simp only [qy]; refine rf_field (n := 0) (j := 0) rfl rfl rfl Tryz.underlying24 rfl Kx rfl ?_; simp only [qz]; refine rf_load rfl rfl rfl Tryz.underlying3 rfl (fun w hw => (Kn.hd0 (Kn.tl (Kn.tlU (Kn.tl (Kn.tl hw))))).at rfl) ?_; refine Zm ?_; refine rg_nil (ek_next (wk_block ?_)); refine wk_loopF [12, 65, 66, 67, 68, 69, 70, 71] (fun mz f s => ∃ (col : Nat) (z : Zt) (L : List It) (uV : List Blk), f 65 = .int .i64 col ∧ s = (uV ++ ((g5, .cells #[.pointer (some ⟨g4, 0, none⟩)] 46) :: ((g1, .cells #[.int .i64 N, .slice a xs.length c] 24) :: ((dd, .deferred (some [])) :: [])))) ∧ mz = N - col ∧ col ≤ N ∧ WS N g4 z L uV ∧ PI N col z ∧ Cb N col z ∧ EqT N (vt z) (actQ L fun i k => Q4.conj (tb N xs k i)) ∧ (∀ x ∈ L, fitB N x = true) ∧ L.length ≤ 700 * col) ((fun (col : Nat) (z : Zt) (L : List It) (uV : List Blk) => N - col) (0) ((fun i k => nm zs (i * N + k))) ([]) (((g4, .cells #[.slice (some ⟨go, 0, none⟩) N rc, .slice none 0 0] 49) :: (go, .cells (rwV N rs ++ ro).toArray 22) :: (rwB rs ++ ([] ++ []))))) ?_ Kx ?_
  · exact ⟨0, (fun i k => nm zs (i * N + k)), [], ((g4, .cells #[.slice (some ⟨go, 0, none⟩) N rc, .slice none 0 0] 49) :: (go, .cells (rwV N rs ++ ro).toArray 22) :: (rwB rs ++ ([] ++ []))), rfl, (by simp only [List.cons_append, List.append_assoc, List.nil_append]), rfl, by omega, hW0, hpi0, hcb0, hact0, (fun x hx => by cases hx), (by simp)⟩
  rintro mz f1 s ⟨col, z, L, uV, hs1_65, rfl, hn, hd1, hd2, hd3, hd4, hd5, hd6, hd7⟩
  simp only [Act.putF, List.foldl_cons, List.foldl_nil, hs1_65, Act.put, Act.eval, q1, q2, q3, q4, q5, q6, q7, q8, q9, q10, q11, q12, q13, q14, q15, q16, q17, q18, Nat.reduceAdd, Bool.not_true, Bool.not_false]; clear hs1_65; refine wk_seq ?_; refine wk_region [0] rfl Kx ?_; simp only [qy]; refine rfb_lss rfl rfl rfl rfl ?_; intro x h3; cases x
  · (try simp only [qd, ne_eq] at h3); simp only [qz]; refine rg_nil (ek_next (wk_seq (wk_cond_f rfl (wk_exit (ek_then_exit (ek_then_exit (ek_block_exit (ek_next (wk_seq ?_)))))))))
    obtain rfl : col = N := by omega
    obtain ⟨go3, oc3, ro3, rs3, ia3, ic3, u3, hse3, hrl3, hoc3, hlen3, hval3, hO3, hok3⟩ := hd2.open_
    refine wk_perm ((((List.Perm.refl _).append_left _).trans (List.perm_middle (l₁ := uV))).trans (((((List.Perm.refl _).append_left _).trans (List.perm_middle (l₁ := uV))).trans (((((List.Perm.refl _).append_left _).trans (List.perm_middle (l₁ := uV))).trans ((List.Perm.refl _).cons _)).cons _)).cons _)) ?_; rw [hse3]; refine wk_region [0, 0, 0, 0, 0, 0] rfl Kx ?_; simp only [qy]; refine rf_load rfl rfl rfl Tryz.underlying46 rfl (fun w hw => (Kn.hd0 hw).at rfl) ?_
    simp only [qz]; refine Zk ?_; refine rf_field (n := 0) (j := 1) rfl rfl rfl Tryz.underlying49 rfl Kx rfl ?_; simp only [qz]; refine rf_load rfl rfl rfl Tryz.underlying26 rfl (fun w hw => (Kn.hd0 (Kn.tl (Kn.tl (Kn.tl hw)))).at rfl) ?_; refine Zm ?_; refine rg_nil (ek_next (wk_ret ?_)); refine ek_retM1 (Rep.there _ (Rep.there _ (Rep.here _))) (fun w hw => ⟨_, res_tt _ _ rfl, ?_⟩); (try simp only [qz])
    exact ⟨L, ⟨hd6, by omega, fun i k hi hk => (hd5 i k hi hk).symm.trans (hd3.idc i k hi hk hk)⟩, _, u3, (by first | rfl | trivial), hO3, hw.made (List.Sublist.cons _ (List.Sublist.cons _ (List.Sublist.cons _ (List.Sublist.cons _ (List.Sublist.cons _ ((List.sublist_append_left _ _).trans (List.sublist_append_right _ _)))))))⟩
  (try simp only [qd, ne_eq] at h3); simp only [qz]; refine rg_nil (ek_next (wk_seq (wk_cond_t rfl (wk_skip (ek_next (wk_seq (wk_block (wk_seq ?_)))))))); refine wk_region [0, 0] rfl Kx ?_; refine Zm ?_; refine rg_nil (ek_next ?_)
  obtain ⟨B, hB, hB13⟩ := hd4.bnd hd3
  have hmu := muZ_le hd3 (show col < N by omega)
  have hmu2 : muZ N col z ≤ 320 := Nat.le_trans hmu (by have := Nat.mul_le_mul_right 80 (show N ≤ 4 by omega); omega)
  refine wk_region [0, 0, 1] rfl Kx ?_; simp only [qy]; refine rf_load rfl rfl rfl Tryz.underlying46 rfl (fun w hw => (Kn.hd0 (Kn.tlU hw)).at rfl) ?_; refine Zm ?_; refine rg_eff (T := fun uX => ∃ z2 L2, WS N g4 z2 L2 uX ∧ PI N (col + 1) z2 ∧ Cb N (col + 1) z2 ∧ EqT N (vt z2) (actQ L2 fun i k => Q4.conj (tb N xs k i)) ∧ (∀ x ∈ L2, fitB N x = true) ∧ L2.length ≤ 700 * col + 640 + 4) (vb := uV) (rest := _) Rx Kx (by simp only [qm, qs, Act.eval]; try rfl) (List.Perm.refl _) (fun w hw => wcolumn_any N col g4 (700 * col + 640) B _ z L uV hd2 Ox Ox (fun h => hB13 Ox) Ox Ox ⟨hd3, hB, hd5, hd6, by omega⟩ w hw) (fun uX hTuX => ?_)
  simp only [qz]
  obtain ⟨z2, L2, hW2, hp2, hc2, ha2, hf2, hl2⟩ := hTuX
  refine rg_nil (ek_block (ek_next ?_)); refine wk_region [0, 0] rfl Kx ?_; simp only [qy]; refine rf_add rfl rfl rfl rfl (wrap_ok Ox Ox) ?_; refine Zm ?_; refine rg_nil ?_; refine ek_roundF (N - (col + 1)) Ox Kx ?_
  exact ⟨col + 1, z2, L2, uX, rfl, by rfl, by rfl, by omega, hW2, hp2, hc2, ha2, hf2, Ox⟩
theorem prog_any (n : Int) (xs : List Nm) (a : Option Addr) (c : Nat) (hl : xs.length ≤ 1000000) (w : World) (hA : AS w a (nms xs)) : Calls Tryz.prog 5 #[.agg #[.int .i64 n, .slice a xs.length c]] w fun e w' =>
    ∃ L, ((askE n xs = 0 → ProgL n.toNat xs L) ∧ (askE n xs ≠ 0 → L = [])) ∧ RetS w L (askE n xs) e w' := by
  by_cases hv : validB n xs = true
  · obtain ⟨N, rfl, -⟩ := validB_true hv
    have e0 : askE N xs = if (N : Int) > 4 ∨ expo xs > mostN N then 4 else if unB N xs = true then 0 else 22 := by unfold askE; rw [if_pos hv, Int.toNat_natCast]
    rw [Int.toNat_natCast]
    by_cases h4 : (N : Int) > 4
    · rw [e0, if_pos (.inl h4)]
      exact (prog_big N xs a c hl (Lib.hid hv) h4 w hA).mono fun e w' h => ⟨[], ⟨(fun e => by cases e), fun _ => rfl⟩, h⟩
    · by_cases hk : expo xs > mostN N
      · rw [e0, if_pos (.inr hk)]
        exact (prog_limit N xs a c hl (Lib.hid hv) h4 hk w hA).mono fun e w' h => ⟨[], ⟨(fun e => by cases e), fun _ => rfl⟩, h⟩
      · rw [e0, if_neg (fun h => h.elim h4 hk)]
        by_cases hu : unB N xs = true
        · rw [if_pos hu]
          exact (prog_yes N xs a c hl (Lib.hid hv) h4 hk (Lib.hid hu) w hA).mono fun e w' ⟨L, hP, h⟩ => ⟨L, ⟨fun _ => hP, fun e => absurd rfl e⟩, h⟩
        · rw [if_neg hu]
          exact (prog_non N xs a c hl (Lib.hid hv) h4 hk (Lib.hid (by simpa using hu)) w hA).mono fun e w' h => ⟨[], ⟨(fun e => by cases e), fun _ => rfl⟩, h⟩
  · have e0 : askE n xs = 20 := by unfold askE; rw [if_neg hv]
    rw [e0]
    exact (prog_invalid n xs a c hl (Lib.hid (by simpa using hv)) w hA).mono fun e w' h => ⟨[], ⟨(fun e => by cases e), fun _ => rfl⟩, h⟩
section
variable {R : Option Nat} {ops : Array Oper} {Q : Exit → Act → World → Prop} {B : World} {F : List Nat} {s0 : Option (List Blk × List Blk)}
variable {l : List (Oper × Nat)} {a : Act} {s S : List Blk} {d : Option Tmp} {op : Op} {t : TypeId} {p : String} {af : Array Edge} {v : Value}
theorem rg_retP {T : List It → Prop} {f : Nat} {cargs : Array Operand} {at_ : Array TypeId} {args : Array Value} {cc : Int} {P : Program} {gd : Option (Nat × Bool)} (hg : Region.wanted ⟨d, .call ⟨.value (.func f), cargs, at_⟩, t, p, af, gd⟩ (yielded ops a.tmps) = true) (hgo : isGo P f = true)
    (h : ∀ w, Kn B F s w → Calls P f args w fun e w' => ∃ L, T L ∧ RetS w L cc e w') (hargs : cargs.map a.eval = args)
    (hz : ∀ z ∈ s0, z.1.Sublist s) (k : ∀ (L : List It) (va : Option Addr) (vc : Nat) (u : List Blk), T L → OwnT u (.slice va L.length vc) L → Rg R P ops Q B F s0 l (a.put d (.tuple #[.slice va L.length vc, .int .i64 cc])) (u ++ s)) :
    Rg R P ops Q B F s0 ((⟨d, .call ⟨.value (.func f), cargs, at_⟩, t, p, af, gd⟩, 1) :: l) a s :=
  rg_call hg hgo hargs fun w K => (h w K).mono fun e w' ⟨L, hT, v, u, he, hO, hm⟩ => by
    obtain ⟨a', c', rfl, -⟩ := Own.val hO
    exact ⟨_, u ++ s, he, K.add hm, fun z hz' => (hz z hz').trans (List.sublist_append_right _ _), k L a' c' u hT hO⟩
end
theorem mat_len {N : Nat} {m : List Nm} (hv : validB N m = true) : m.length ≤ 36 := by
  obtain ⟨N', e, h1, h6, hx, h36, -⟩ := validB_true hv
  exact h36
theorem lst_eq {N : Nat} {m : List Nm} (hv : validB N m = true) (hu : unB N m = true) : lstR N m = (expo m, 0) := by unfold lstR; rw [if_pos hv, if_pos hu]
theorem prog_eq {N : Nat} {x y : List Nm} {L : List It} (h1 : 1 ≤ N) (h6 : N ≤ 6) (hv : validB N x = true) (hu : unB N x = true) (hP : ProgL N x L) (hy : matS N L L.length = .ok y) : y = x := by
  obtain ⟨yv, -, ye, -⟩ := mat_facts h1 h6 hP.1 hy
  refine tb_ext yv hv fun i k hi hk => ?_
  rw [ye i k hi hk]
  exact prog_mat (l := []) hP.1 hv hu hP.2.2 i k hi hk
theorem synthPrograms_any (n : Int) (xs : List Nm) (a : Option Addr) (c : Nat) (w : World) (hA : AS w a (nms xs)) : Calls Tryz.prog 3 #[.agg #[.int .i64 n, .slice a xs.length c]] w fun e w' => e = .returned (.bool true) ∧ Below w.heap.size w w' := by
 go_enter Tryz.func3, Tryz.ntmps3
 refine wk_start ?_
 refine wk_seq ?_
 refine wk_region [1, 0] rfl Kx ?_
 simp only [qy]
 refine Rgn fun g1 => ?_
 refine Zm ?_
 refine rg_nil (ek_next (wk_seq (wk_seq ?_)))
 refine wk_region [0, 0, 0, 0] rfl Kx ?_
 simp only [qy]
 refine Zk ?_
 apply rg_soft
 case hy => (intro w hw; obtain ⟨hcg1, hfg1⟩ := (Kn.hd0 hw).facts; go_simp; (try go_bits); exact Yld.mk _ _)
 simp only [qz]
 refine Zk ?_
 apply rg_softb
 case hy => (intro w hw; go_simp; (try go_bits); exact Yld.mk _ _)
 intro x h1
 cases x
 ·(try simp only [qd, ne_eq] at h1)
  simp only [qz]; refine rg_nil (ek_next (wk_cond_f rfl (wk_skip (ek_next (wk_seq ?_))))); refine wk_region [0, 1, 0, 0, 0, 0, 0] rfl Kx ?_; simp only [qy]; apply rg_soft
  case hy => (intro w hw; obtain ⟨hcg1, hfg1⟩ := (Kn.hd0 hw).facts; go_simp; (try go_bits); exact Yld.mk _ _)
  simp only [qz]
  apply (rg_retP (T := fun L => (askE n xs = 0 → ProgL n.toNat xs L) ∧ (askE n xs ≠ 0 → L = [])) (cc := askE n xs)) Rx Kx
  case hargs => exact Ax
  case h => exact fun w hw => prog_any n xs a c Ox w (hA.kn0 hw)
  case hz => exact Nz
  intro L vaL vcL uL hP hOL; refine Zm ?_; refine rf_extract rfl rfl rfl rfl ?_; simp only [qz]; refine rf_extract rfl rfl rfl rfl ?_; refine Zm ?_; refine rg_nil (ek_next (wk_seq (wk_seq ?_))); refine wk_region [0, 0, 1, 0] rfl Kx ?_; refine Zm ?_; apply rg_soft
  case hy => (intro w hw; obtain ⟨hcg1, hfg1⟩ := (Kn.hd0 (Kn.tlU hw)).facts; go_simp; (try go_bits); exact Yld.mk _ _)
  simp only [qz]; apply rg_pure Rx Kx
  case hargs => exact Ax
  case h => exact fun w hw => asked_any n xs a c Ox w (hA.kn0 hw)
  case hz => exact Nz
  simp only [qz]; apply rg_softb
  case hy => (intro w hw; go_simp; (try go_bits); exact Yld.mk _ _)
  intro x h2
  obtain rfl : x = false := by (refine h2.symm.trans ?_; first | rfl | exact decide_eq_false Ox | exact beq_eq_false_iff_ne.2 Ox | exact bne_eq_false_iff_eq.2 Ox | (simp; omega) | (simp; done))
  clear h2; simp only [qz]; refine rg_nil (ek_next (wk_cond_f rfl (wk_skip (ek_next (wk_seq (wk_seq ?_)))))); refine wk_region [0, 0] rfl Kx ?_; refine Zm ?_; apply rg_softb
  case hy => (intro w hw; go_simp; (try go_bits); exact Yld.mk _ _)
  intro x h3; cases x
  ·(try simp only [qd, ne_eq] at h3)
   simp only [qz]
   have hz : askE n xs = 0 := by omega
   obtain ⟨hv, h4, hk, hu⟩ := ask_zero hz
   obtain ⟨N, rfl, hN1, hN6, -, hx36, hxo⟩ := validB_true hv
   have hPL := hP.1 hz
   rw [Int.toNat_natCast] at hPL; clear hP
   have hP := hPL
   have hPf := hPL.1
   have hPl := hPL.2.1
   have hxc := expo_cpls hPf hv (fun i k hi hk => (prog_mat (l := []) hPf hv hu hPL.2.2 i k hi hk).symm)
   have hvi : validI N L = true := itemE_zero (itemE_fits hN1 hN6 hPl hPf)
   refine rg_nil (ek_next (wk_cond_f rfl (wk_skip (ek_next (wk_seq ?_))))); refine wk_region [0, 1, 0, 0, 0, 0, 0] rfl Kx ?_; simp only [qy]; apply rg_soft
   case hy => (intro w hw; obtain ⟨hcg1, hfg1⟩ := (Kn.hd0 (Kn.tlU hw)).facts; go_simp; (try go_bits); exact Yld.mk _ _)
   simp only [qz]; apply rg_pure Rx Kx
   case hargs => exact Ax
   case h => exact fun w hw => by have := sleast_any (N : Int) xs a c Ox w (hA.kn0 hw); rw [lst_eq hv hu] at this; exact this
   case hz => exact Nz
   refine Zm ?_; refine rf_extract rfl rfl rfl rfl ?_; simp only [qz]; refine rf_extract rfl rfl rfl rfl ?_; refine Zm ?_; refine rg_nil (ek_next (wk_seq (wk_seq ?_))); refine wk_region [0, 0, 0, 0, 0, 0, 1, 0, 0, 0, 0, 1, 0, 0, 0] rfl Kx ?_; refine Zm ?_; refine Zk ?_; apply rg_soft_g
   case hg => rfl
   case hy => (intro w hw; go_simp; (try go_bits); exact Yld.mk _ _)
   simp only [qz]; apply rg_soft_g
   case hg => rfl
   case hy => (intro w hw; obtain ⟨hcg1, hfg1⟩ := (Kn.hd0 (Kn.tlU hw)).facts; go_simp; (try go_bits); exact Yld.mk _ _)
   simp only [qz]; apply rg_soft_g
   case hg => rfl
   case hy => (intro w hw; go_simp; (try go_bits); exact Yld.mk _ _)
   simp only [qz]; apply rg_pure Rx Kx
   case hargs => exact Ax
   case h => exact fun w hw => by have := rvalidItems_any L vaL vcL N w (OwnT.asT hOL hw); rw [hvi] at this; exact this
   case hz => exact Nz
   simp only [qz]; refine rf_not rfl rfl rfl ?_; simp only [qz]; refine rf_pick rfl rfl rfl ?_; refine Zm ?_; apply rg_soft_g
   case hg => rfl
   case hy => (intro w hw; go_simp; (try go_bits); exact Yld.mk _ _)
   simp only [qz]; apply rg_pure Rx Kx
   case hargs => exact Ax
   case h => exact fun w hw => rcouplers_any L vaL vcL Ox w (OwnT.asT hOL hw)
   case hz => exact Nz
   simp only [qz]; apply rg_soft_g
   case hg => rfl
   case hy => (intro w hw; go_simp; (try go_bits); exact Yld.mk _ _)
   simp only [qz]; apply rg_softb_g
   case hg => rfl
   case hy => (intro w hw; go_simp; (try go_bits); exact Yld.mk _ _)
   intro x h4
   obtain rfl : x = false := by (refine h4.symm.trans ?_; first | rfl | exact decide_eq_false Ox | exact beq_eq_false_iff_ne.2 Ox | exact bne_eq_false_iff_eq.2 Ox | (simp; omega) | (simp; done))
   clear h4; simp only [qz]; refine rf_pick rfl rfl rfl ?_; simp only [qz]; refine rg_nil (ek_next (wk_cond_f rfl (wk_skip (ek_next (wk_seq ?_))))); refine wk_region [0, 0, 0, 1, 0, 0, 0, 1, 1, 0] rfl Kx ?_; simp only [qy]; refine Zk ?_; apply rg_soft
   case hy => (intro w hw; obtain ⟨hcg1, hfg1⟩ := (Kn.hd0 (Kn.tlU hw)).facts; go_simp; (try go_bits); exact Yld.mk _ _)
   refine Zm ?_
   rcases hm3 : matS N L L.length with c3 | m3
   ·have hc3 := matS_lim hN1 hN6 hPf _ (Nat.le_refl _) hm3
    subst hc3
    apply (rg_retM (n := 0) (zs := []) (c := 4)) Rx Kx
    case hargs => exact Ax
    case h => exact fun w hw => by have := matrixOf_any (N : Int) L vaL vcL w (OwnT.asT hOL hw); rw [matO_S hN1 hN6 hPl hPf, hm3, Int.toNat_natCast] at this; exact this
    case hz => exact Nz
    intro va2 vc2 u2 hO2; refine Zm ?_; refine rf_extract rfl rfl rfl rfl ?_; simp only [qz]; refine rf_extract rfl rfl rfl rfl ?_; simp only [qz]
    refine Rgn fun g3 => ?_
    simp only [qz]; apply rg_store
    case hr => (intro w hw; obtain ⟨hcg3, hfg3⟩ := (Kn.hd0 hw).facts; refine ⟨_, by (go_simp; (try go_bits); exact Dne.mk _), ?_⟩; repeat (first | with_reducible exact hw | with_reducible apply Kn.put (Upd.here _ _ _)))
    case hz => (intro z hz; cases hz)
    refine Zm ?_; refine rg_nil (ek_next (wk_seq ?_)); refine wk_region [0, 0, 0, 0, 0, 0, 0, 0, 1, 0, 0, 0, 1, 0, 0] rfl Kx ?_; refine Zm ?_; refine Zk ?_; refine rg_skip_h Rx Nz ?_; refine Zm ?_; refine rf_pick rfl rfl rfl ?_; refine Zm ?_; apply rg_pure Rx Kx
    case hargs => exact Ax
    case h => exact fun w hw => sane_any w
    case hz => exact Nz
    simp only [qz]; refine rf_pick rfl rfl rfl ?_; refine Zm ?_; refine rg_nil (ek_next (wk_ret ?_)); refine ek_ret (fun w hw => ⟨rfl, _, res_t _ rfl, ?_⟩); (try simp only [qz])
    first | exact ⟨rfl, hw.below⟩ | exact ⟨trivial, hw.below⟩ | exact hw.below
   obtain ⟨hv3, hu3, he3, hx3⟩ := mat_facts hN1 hN6 hPf hm3
   have hl3 := mat_len hv3
   apply (rg_retM (n := (N : Int)) (zs := m3) (c := 0)) Rx Kx
   case hargs => exact Ax
   case h => exact fun w hw => by have := matrixOf_any (N : Int) L vaL vcL w (OwnT.asT hOL hw); rw [matO_S hN1 hN6 hPl hPf, hm3, Int.toNat_natCast] at this; exact this
   case hz => exact Nz
   intro va4 vc4 u4 hO4; refine Zm ?_; refine rf_extract rfl rfl rfl rfl ?_; simp only [qz]; refine rf_extract rfl rfl rfl rfl ?_; simp only [qz]
   refine Rgn fun g5 => ?_
   simp only [qz]; apply rg_store
   case hr => (intro w hw; obtain ⟨hcg5, hfg5⟩ := (Kn.hd0 hw).facts; refine ⟨_, by (go_simp; (try go_bits); exact Dne.mk _), ?_⟩; repeat (first | with_reducible exact hw | with_reducible apply Kn.put (Upd.here _ _ _)))
   case hz => (intro z hz; cases hz)
   refine Zm ?_; refine rg_nil (ek_next (wk_seq ?_)); refine wk_region [0, 0, 0, 0, 0, 0, 0, 0, 1, 0, 0, 0, 1, 0, 0] rfl Kx ?_; refine Zm ?_; refine Zk ?_; apply rg_soft_g
   case hg => rfl
   case hy => (intro w hw; go_simp; (try go_bits); exact Yld.mk _ _)
   simp only [qz]; apply rg_soft_g
   case hg => rfl
   case hy => (intro w hw; go_simp; (try go_bits); exact Yld.mk _ _)
   simp only [qz]; apply rg_soft_g
   case hg => rfl
   case hy => (intro w hw; go_simp; (try go_bits); exact Yld.mk _ _)
   simp only [qz]; apply rg_soft_g
   case hg => rfl
   case hy => (intro w hw; obtain ⟨hcg5, hfg5⟩ := (Kn.hd0 hw).facts; go_simp; (try go_bits); exact Yld.mk _ _)
   simp only [qz]; apply rg_soft_g
   case hg => rfl
   case hy => (intro w hw; obtain ⟨hcg1, hfg1⟩ := (Kn.hd0 (Kn.tlU (Kn.tlU (Kn.tl hw)))).facts; go_simp; (try go_bits); exact Yld.mk _ _)
   simp only [qz]
   have hyx := prog_eq hN1 hN6 hv hu hPL hm3
   subst hyx
   apply rg_pure Rx Kx
   case hargs => exact Ax
   case h => exact fun w hw => rSameM_eq (N : Int) m3 _ _ _ _ Ox w (OwnN.asM hO4 (Kn.tl hw)) (hA.kn0 hw)
   case hz => exact Nz
   simp only [qz]; refine rf_pick rfl rfl rfl ?_; simp only [qz]; refine rf_pick rfl rfl rfl ?_; refine Zm ?_; apply rg_pure Rx Kx
   case hargs => exact Ax
   case h => exact fun w hw => sane_any w
   case hz => exact Nz
   simp only [qz]; refine rf_pick rfl rfl rfl ?_; refine Zm ?_; refine rg_nil (ek_next (wk_ret ?_)); refine ek_ret (fun w hw => ⟨rfl, _, res_t _ rfl, ?_⟩); (try simp only [qz])
   first | exact ⟨rfl, hw.below⟩ | exact ⟨trivial, hw.below⟩ | exact hw.below
  (try simp only [qd, ne_eq] at h3); simp only [qz]
  have hLe := hP.2 Ox
  subst hLe
  refine rg_nil (ek_next (wk_cond_t rfl (wk_seq ?_))); refine wk_region [0, 0, 0, 0, 1, 0, 0] rfl Kx ?_; refine Zm ?_; refine Zk ?_; apply rg_softb
  case hy => (intro w hw; go_simp; (try go_bits); exact Yld.mk _ _)
  intro x h5
  obtain rfl : x = true := by (refine h5.symm.trans ?_; first | rfl | exact decide_eq_true Ox | exact beq_iff_eq.2 Ox | exact bne_iff_ne.2 Ox | (simp; omega) | (simp; done))
  clear h5; refine Zm ?_; apply rg_pure Rx Kx
  case hargs => exact Ax
  case h => exact fun w hw => sane_any w
  case hz => exact Nz
  simp only [qz]; refine rf_pick rfl rfl rfl ?_; refine Zm ?_; refine rg_nil (ek_next (wk_ret (ek_then_ret ?_))); refine ek_ret (fun w hw => ⟨rfl, _, res_t _ rfl, ?_⟩); (try simp only [qz])
  first | exact ⟨rfl, hw.below⟩ | exact ⟨trivial, hw.below⟩ | exact hw.below
 (try simp only [qd, ne_eq] at h1)
 simp only [qz]
 refine rg_nil (ek_next (wk_cond_t rfl (wk_seq ?_)))
 refine wk_region [1, 0] rfl Kx ?_
 simp only [qy]
 apply rg_pure Rx Kx
 case hargs => exact Ax
 case h => exact fun w hw => sane_any w
 case hz => exact Nz
 refine Zm ?_
 refine rg_nil (ek_next (wk_ret (ek_then_ret ?_)))
 refine ek_ret (fun w hw => ⟨rfl, _, res_t _ rfl, ?_⟩)
 (try simp only [qz])
 first | exact ⟨rfl, hw.below⟩ | exact ⟨trivial, hw.below⟩ | exact hw.below
end Go.Proofs.YtccbinnlnkpplaaGreat
