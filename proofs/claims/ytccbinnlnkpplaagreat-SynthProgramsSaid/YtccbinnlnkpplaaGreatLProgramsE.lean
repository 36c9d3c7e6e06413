/- Texts in one: Sy10, Sy12, Sy13, Sy14, Am6, AmTn, MaPl, Ma0, Ma1, Ma2, Ma3, Sws. -/
import Derived.Test.YtccbinnlnkpplaaGreatLProgramsD
namespace Go.Proofs.YtccbinnlnkpplaaGreat
set_option linter.all false
set_option maxRecDepth 100000
set_option maxHeartbeats 1000000
open Go.RowKit
theorem Ex.same {xs : List Int} {ys : List Nat} {l : List Int} (h : Ex xs ys l) : ∀ {zs : List Nat} {m : List Int}, Ex xs zs m → ys.length = zs.length → ys = zs ∧ l = m := by
  induction h with
  | start =>
    intro zs m h2 hl
    cases h2 with
    | start => exact ⟨rfl, rfl⟩
    | step _ _ _ _ => simp at hl
  | step h hk hu hd ih =>
    intro zs m h2 hl
    cases h2 with
    | start => simp at hl
    | step h2 hk2 hu2 hd2 =>
      obtain ⟨e1, e2⟩ := ih h2 (by simpa using hl)
      subst e1 e2
      rename_i l0 k k2
      have : k = k2 := by
        rcases Nat.lt_trichotomy k k2 with h3 | h3 | h3
        · have := hu2 k h3; omega
        · exact h3
        · have := hu k2 h3; omega
      subst this
      exact ⟨rfl, rfl⟩
theorem perm201 : Perm [2, 0, 1] := ⟨by decide, by decide, by
  intro i hi
  match i, hi with
  | 0, _ => exact ⟨by decide, fun j hj => by omega⟩
  | 1, _ => exact ⟨by decide, fun j hj => by obtain rfl : j = 0 := by omega
                                             decide⟩
  | 2, _ => exact ⟨by decide, fun j hj => by have : j = 0 ∨ j = 1 := by omega
                                             rcases this with rfl | rfl <;> decide⟩⟩
theorem ex201 : Ex [2, 0, 1] [0, 1] [0, 1, 2] := by
  have h1 : Ex [2, 0, 1] [0] [0, 2, 1] := .step (ys := []) (l := [2, 0, 1]) (k := 0) .start (by decide) (fun j hj => by omega) (by decide)
  exact .step (ys := [0]) (l := [0, 2, 1]) (k := 1) h1 (by decide) (fun j hj => by obtain rfl : j = 0 := by omega
                                                                                   decide) (by decide)
theorem OwnT.open {u : List Blk} {v : Value} {xs : List It} (h : OwnT u v xs) (hn : 0 < xs.length) : ∃ g cap rest, u = [(g, .cells (its xs ++ rest).toArray 43)] ∧ v = .slice (some ⟨g, 0, none⟩) xs.length cap := by
 obtain ⟨hl, ⟨rfl, rfl, h0⟩ | ⟨g, cap, cur, rfl, rfl, hc, hm, hs, ht⟩⟩ := h
 ·omega
 refine ⟨g, cap, cur.toList.drop (xs.length * 4), ?_, rfl⟩
 rw [← ht, List.take_append_drop]
theorem as201 {w : World} {g : Nat} (h : Hd w g 3 #[.int .i64 2, .int .i64 0, .int .i64 1]) : AS w (some ⟨g, 0, none⟩) (ints [2, 0, 1]) := fun _ => ⟨g, 0, rfl, h.lt, fun j hj => by
  rw [h.cell]
  simp⟩
theorem sane_any  (w : World) : Calls Tryz.prog 4 #[] w fun e w' => e = .returned (.bool true) ∧ Below w.heap.size w w' := by
 go_enter Tryz.func4, Tryz.ntmps4
 refine wk_start ?_
 refine wk_seq ?_
 refine wk_region [0] rfl Kx ?_
 refine Zm ?_
 refine rg_nil (ek_next (wk_seq ?_))
 refine wk_region [1, 1, 0, 0, 0, 0, 0] rfl Kx ?_
 simp only [qy]
 refine rg_newS (cs := ?_) (ty := ?_) (n := 3) (c := 3) Rx (fun w => ?_) Nz (fun g1 => ?_); rotate_left 2
 focus (go_simp; rfl)
 simp only [qz]
 apply rg_pure Rx Kx
 case hargs => exact Ax
 case h => exact fun w hw => inversions_yes [2, 0, 1] _ _ (by decide) perm201 w (as201 (Kn.hd0 hw))
 case hz => exact Nz
 simp only [qz]
 simp only [show ((invs [2, 0, 1] : Nat) : Int) = 2 from rfl]
 refine Zm ?_
 refine Zk ?_
 refine Zk ?_
 refine rg_nil (ek_next (wk_seq ?_))
 refine wk_region [1, 1, 0, 0, 0, 0, 0] rfl Kx ?_
 simp only [qy]
 refine rg_newS (cs := ?_) (ty := ?_) (n := 3) (c := 3) Rx (fun w => ?_) Nz (fun g2 => ?_); rotate_left 2
 focus (go_simp; rfl)
 simp only [qz]
 apply rg_made (T := fun v u => ∃ v0 zs, v = .tuple #[v0, .int .i64 0] ∧ OwnT u v0 zs ∧ ∃ ys l, Ex [2, 0, 1] ys l ∧ (∀ j, j + 1 < l.length → ix l j < ix l (j + 1)) ∧ zs = ys.map cross) Rx Kx
 case hargs => exact Ax
 case h => exact fun w hw => (crossings_yes [2, 0, 1] _ _ (by decide) (by decide) perm201 w (as201 (Kn.hd0 hw))).mono (fun e w' ⟨v, u, zs, he, hO, hT, hm⟩ => ⟨_, u, he, ⟨v, zs, rfl, hO, hT⟩, hm⟩)
 case hz => exact Nz
 rintro _ u1 ⟨v1, _, rfl, hO1, ys, l, hE, hdone, rfl⟩
 have hy2 : ys.length = 2 := by (have h1 := hE.invs; have h2 := up_invs l hdone; have h3 : invs [2, 0, 1] = 2 := rfl; omega)
 obtain ⟨e1, -⟩ := hE.same ex201 hy2
 subst e1
 obtain ⟨g, cap, rest, rfl, rfl⟩ := hO1.open (by decide)
 clear hO1 hE hdone hy2
 refine Zm ?_
 refine Zk ?_
 refine Zk ?_
 refine rg_nil (ek_next (wk_seq ?_))
 refine wk_region [0, 0, 0, 0, 0, 0, 0, 0, 0, 0, 0, 0, 0, 0, 0, 0, 0, 0, 0, 0, 0, 0, 0, 0, 0, 0, 0, 0, 0, 0] rfl Kx ?_
 refine Zm ?_
 apply rg_softb
 case hy => (intro w hw; go_simp; (try go_bits); exact Yld.mk _ _)
 intro x h1
 obtain rfl : x = true := Kt h1
 clear h1
 refine Zm ?_
 apply rg_soft_g
 case hg => rfl
 case hy => (intro w hw; go_simp; (try go_bits); exact Yld.mk _ _)
 simp only [qz]
 apply rg_softb_g
 case hg => rfl
 case hy => (intro w hw; go_simp; (try go_bits); exact Yld.mk _ _)
 intro x h2
 obtain rfl : x = true := Kt h2
 clear h2
 simp only [qz]
 refine Zk ?_
 apply rg_soft_g
 case hg => rfl
 case hy => (intro w hw; go_simp; (try go_bits); exact Yld.mk _ _)
 simp only [qz]
 apply rg_softb_g
 case hg => rfl
 case hy => (intro w hw; go_simp; (try go_bits); exact Yld.mk _ _)
 intro x h3
 obtain rfl : x = true := Kt h3
 clear h3
 simp only [qz]
 refine Zk ?_
 apply rg_soft_g
 case hg => rfl
 case hy => (intro w hw; go_simp; (try go_bits); exact Yld.mk _ _)
 simp only [qz]
 apply rg_soft_g
 case hg => rfl
 case hy => (intro w hw; go_simp; (try go_bits); exact Yld.mk _ _)
 simp only [qz]
 apply rg_softb_g
 case hg => rfl
 case hy => (intro w hw; go_simp; (try go_bits); exact Yld.mk _ _)
 intro x h4
 obtain rfl : x = true := Kt h4
 clear h4
 simp only [qz]
 refine Zk ?_
 apply rg_soft_g
 case hg => rfl
 case hy => (intro w hw; go_simp; (try go_bits); exact Yld.mk _ _)
 simp only [qz]
 apply rg_soft_g
 case hg => rfl
 case hy => (intro w hw; go_simp; (try go_bits); exact Yld.mk _ _)
 simp only [qz]
 apply rg_soft_g
 case hg => rfl
 case hy => (intro w hw; go_simp; (try go_bits); exact Yld.mk _ _)
 simp only [qz]
 apply rg_soft_g
 case hg => rfl
 case hy => (intro w hw; have hc1 : w.cell? ⟨g, 1, none⟩ = some (.int .i64 1) := (Kn.hd0 hw).cell 1; have hc5 : w.cell? ⟨g, 5, none⟩ = some (.int .i64 2) := (Kn.hd0 hw).cell 5; obtain ⟨hcg2, hfg2⟩ := (Kn.hd0 (Kn.tl hw)).facts; obtain ⟨hcg1, hfg1⟩ := (Kn.hd0 (Kn.tl (Kn.tl hw))).facts; go_simp; (try go_bits); exact Yld.mk _ _)
 simp only [qz]
 apply rg_softb_g
 case hg => rfl
 case hy => (intro w hw; go_simp; (try go_bits); exact Yld.mk _ _)
 intro x h5
 obtain rfl : x = true := Kt h5
 clear h5
 simp only [qz]
 refine Zk ?_
 apply rg_soft_g
 case hg => rfl
 case hy => (intro w hw; go_simp; (try go_bits); exact Yld.mk _ _)
 simp only [qz]
 apply rg_soft_g
 case hg => rfl
 case hy => (intro w hw; go_simp; (try go_bits); exact Yld.mk _ _)
 simp only [qz]
 apply rg_soft_g
 case hg => rfl
 case hy => (intro w hw; go_simp; (try go_bits); exact Yld.mk _ _)
 simp only [qz]
 apply rg_soft_g
 case hg => rfl
 case hy => (intro w hw; have hc1 : w.cell? ⟨g, 1, none⟩ = some (.int .i64 1) := (Kn.hd0 hw).cell 1; have hc5 : w.cell? ⟨g, 5, none⟩ = some (.int .i64 2) := (Kn.hd0 hw).cell 5; obtain ⟨hcg2, hfg2⟩ := (Kn.hd0 (Kn.tl hw)).facts; obtain ⟨hcg1, hfg1⟩ := (Kn.hd0 (Kn.tl (Kn.tl hw))).facts; go_simp; (try go_bits); exact Yld.mk _ _)
 simp only [qz]
 apply rg_softb_g
 case hg => rfl
 case hy => (intro w hw; go_simp; (try go_bits); exact Yld.mk _ _)
 intro x h6
 obtain rfl : x = true := Kt h6
 clear h6
 simp only [qz]
 refine Zk ?_
 refine rg_nil (ek_next (wk_ret ?_))
 refine ek_ret (fun w hw => ⟨rfl, _, res_t _ rfl, ?_⟩)
 (try simp only [qz])
 first | exact ⟨rfl, hw.below⟩ | exact ⟨trivial, hw.below⟩ | exact hw.below
abbrev itV (i : It) : Value := .agg #[.int .i64 i.kind, .int .i64 i.at_, .int .i64 i.n, .string i.name]
def it (l : List It) (k : Nat) : It := l.getD k default
theorem its_get : ∀ (l : List It) (k r : Nat), k < l.length → r < 4 → (its l)[k * 4 + r]? = (itC (it l k))[r]?
  | [], k, r, hk, _ => by simp at hk
  | x :: l, 0, r, _, hr => by
    have e : its (x :: l) = itC x ++ its l := by simp [its]
    rw [e, Nat.zero_mul, Nat.zero_add, List.getElem?_append_left (by simpa using hr)]
    simp [it]
  | x :: l, k + 1, r, hk, hr => by
    have e : its (x :: l) = itC x ++ its l := by simp [its]
    rw [e, List.getElem?_append_right (by simp; omega)]
    have e2 : (k + 1) * 4 + r - (itC x).length = k * 4 + r := by simp only [List.length_cons, List.length_nil]; omega
    rw [e2, its_get l k r (by simpa using hk) hr]
    simp [it]
structure ItAt (w : World) (b off : Nat) (i : It) : Prop where
  c0 : w.cell? ⟨b, off, none⟩ = some (.int .i64 i.kind)
  c1 : w.cell? ⟨b, off + 1, none⟩ = some (.int .i64 i.at_)
  c2 : w.cell? ⟨b, off + 2, none⟩ = some (.int .i64 i.n)
  c3 : w.cell? ⟨b, off + 3, none⟩ = some (.string i.name)
theorem AS.openT {w : World} {a : Option Addr} {xs : List It} (h : AS w a (its xs)) (hn : 0 < xs.length) :
    ∃ b off, a = some ⟨b, off, none⟩ ∧ b < w.heap.size ∧ ∀ j, j < xs.length → ItAt w b (off + j * 4) (it xs j) := by
  have hne : its xs ≠ [] := by intro e; have := its_len xs; rw [e] at this; simp at this; omega
  obtain ⟨b, off, rfl, hlt, hc⟩ := h hne
  refine ⟨b, off, rfl, hlt, fun j hj => ?_⟩
  have hl := its_len xs
  have key : ∀ r, r < 4 → w.cell? ⟨b, off + (j * 4 + r), none⟩ = (itC (it xs j))[r]? := fun r hr => (hc (j * 4 + r) Ox).trans (its_get xs j r hj hr)
  exact ⟨key 0 Ox, by rw [Nat.add_assoc]; exact key 1 Ox, by rw [Nat.add_assoc]; exact key 2 Ox, by rw [Nat.add_assoc]; exact key 3 Ox⟩
theorem ItAt.kn {B w : World} {F : List Nat} {s : List Blk} {b off : Nat} {i : It} (h : ItAt B b off i) (K : Kn B F s w) (hb : b < B.heap.size) (hF : b ∉ F) : ItAt w b off i :=
  ⟨(K.cellB hb hF _).trans h.c0, (K.cellB hb hF _).trans h.c1, (K.cellB hb hF _).trans h.c2, (K.cellB hb hF _).trans h.c3⟩
theorem it_mem {xs : List It} {k : Nat} (h : k < xs.length) : it xs k ∈ xs := by
  unfold it; rw [List.getD_eq_getElem?_getD, List.getElem?_eq_getElem h]; exact List.getElem_mem h
section
variable {R : Option Nat} {P : Program} {ops : Array Oper} {Q : Exit → Act → World → Prop} {B : World} {F : List Nat} {s0 : Option (List Blk × List Blk)}
variable {l : List (Oper × Nat)} {a : Act} {s : List Blk} {d : Option Tmp} {t : TypeId} {p : String} {af : Array Edge}
theorem rg_callVI {fo : Operand} {f : Nat} {cargs : Array Operand} {at_ : Array TypeId} {caps vs : Array Value} {v : Value} {gd : Option (Nat × Bool)} (hg : Region.wanted ⟨d, .call ⟨.value fo, cargs, at_⟩, t, p, af, gd⟩ (yielded ops a.tmps) = true)
    (hf : a.eval fo = .func (.func f) #[] caps) (hgo : isGo P f = true) (hargs : cargs.map a.eval = vs)
    (h : ∀ w, Kn B F s w → Calls P f (vs ++ caps) w (fun e w' => e = .returned v ∧ Below w.heap.size w w'))
    (hz : ∀ z ∈ s0, z.1.Sublist s) (k : Rg R P ops Q B F s0 l (a.put d v) s) :
    Rg R P ops Q B F s0 ((⟨d, .call ⟨.value fo, cargs, at_⟩, t, p, af, gd⟩, 1) :: l) a s := by
  refine .inl fun w K => ?_
  unfold hop
  rw [if_pos hg]
  unfold Oper.wp
  have hr : (execOp a.eval ⟨d, .call ⟨.value fo, cargs, at_⟩, t, p, af, gd⟩).run P w = .ok (.enter f (vs ++ caps)) w := by
    have hx : execOp a.eval ⟨d, .call ⟨.value fo, cargs, at_⟩, t, p, af, gd⟩ = (do let d ← resolve a.eval ⟨.value fo, cargs, at_⟩ t; invoke d.target d.args) := rfl
    have hv : (resolve a.eval ⟨.value fo, cargs, at_⟩ t) = pure { target := .fn (.func f) caps, args := #[] ++ vs } := by
      simp only [resolve, hf, hargs, Deferred.ofValue]
    rw [hx, hv]
    have : (#[] ++ vs : Array Value) = vs := by simp
    rw [this]
    exact run_callFunc_go hgo _ w
  rw [hr]
  refine (h w K).mono fun e w' ⟨he, hb⟩ => ?_
  subst he
  exact ⟨s, K.call hb, hz, k⟩
theorem rg_callVbI {fo : Operand} {f : Nat} {cargs : Array Operand} {at_ : Array TypeId} {caps vs : Array Value} {b : Bool} {gd : Option (Nat × Bool)} (hg : Region.wanted ⟨d, .call ⟨.value fo, cargs, at_⟩, t, p, af, gd⟩ (yielded ops a.tmps) = true)
    (hf : a.eval fo = .func (.func f) #[] caps) (hgo : isGo P f = true) (hargs : cargs.map a.eval = vs)
    (h : ∀ w, Kn B F s w → Calls P f (vs ++ caps) w (fun e w' => e = .returned (.bool b) ∧ Below w.heap.size w w'))
    (hz : ∀ z ∈ s0, z.1.Sublist s) (k : ∀ x, b = x → Rg R P ops Q B F s0 l (a.put d (.bool x)) s) :
    Rg R P ops Q B F s0 ((⟨d, .call ⟨.value fo, cargs, at_⟩, t, p, af, gd⟩, 1) :: l) a s := rg_callVI hg hf hgo hargs h hz (k b rfl)
end
def idxF (p : It → Bool) : List It → Int → Int
  | [], _ => -1
  | x :: t, k => if p x then k else idxF p t (k + 1)
theorem idxF_at (p : It → Bool) : ∀ (l : List It) (b : Int) (k : Nat), k < l.length → (∀ j, j < k → p (it l j) = false) → p (it l k) = true → idxF p l b = b + k
  | [], _, k, hk, _, _ => by simp at hk
  | x :: l, b, 0, _, _, h => by have : p x = true := h; simp [idxF, this]
  | x :: l, b, k + 1, hk, hj, h => by
    have : p x = false := hj 0 Ox
    rw [idxF, if_neg (by rw [this]; decide), idxF_at p l (b + 1) k (by simpa using hk) (fun j hjk => hj (j + 1) Ox) h]
    omega
theorem idxF_no (p : It → Bool) : ∀ (l : List It) (b : Int), (∀ j, j < l.length → p (it l j) = false) → idxF p l b = -1
  | [], _, _ => rfl
  | x :: l, b, h => by
    have : p x = false := h 0 (by simp)
    rw [idxF, if_neg (by rw [this]; decide)]
    exact idxF_no p l (b + 1) fun j hj => h (j + 1) (by simpa using hj)
theorem idxF_any (p : It → Bool) : ∀ (l : List It) (b : Int), 0 ≤ b → decide (idxF p l b ≥ 0) = l.any p
  | [], _, _ => rfl
  | x :: l, b, hb => by
    rw [idxF, List.any_cons]
    by_cases h : p x = true
    · rw [if_pos h, h]; simpa using hb
    · rw [if_neg h, idxF_any p l (b + 1) Ox]
      have : p x = false := by simpa using h
      rw [this]; rfl
theorem index_any (xs : List It) (a : Option Addr) (c : Nat) (p : It → Bool) (f : Nat) (caps : Array Value) (hl : xs.length ≤ 100000) (hgo : isGo Tryz.prog f = true) (w : World) (hA : AS w a (its xs)) (hf : ∀ w', Below w.heap.size w w' → ∀ i ∈ xs, Calls Tryz.prog f (#[itV i] ++ caps) w' fun e w'' => e = .returned (.bool (p i)) ∧ Below w'.heap.size w' w'') : Calls Tryz.prog 114 #[slV a xs.length c, .func (.func f) #[] caps] w fun e w' => e = .returned (.int .i64 (idxF p xs 0)) ∧ Below w.heap.size w w' := by
 go_enter Tryz.func114, Tryz.ntmps114
 refine wk_start ?_
 refine wk_seq ?_
 refine wk_region [0] rfl Kx ?_
 refine Zm ?_
 refine rg_nil (ek_next (wk_seq (wk_seq ?_)))
 refine wk_region [0, 0, 0] rfl Kx ?_
 refine Zm ?_
 refine Zk ?_
 refine rg_nil (ek_next (wk_block ?_))
 refine wk_loopS [4, 5, 8, 9, 10, 11, 12, 13, 14, 15, 16, 17, 18] (fun n vs s => ∃ (k : Nat) (j5 j9 j10 j11 j12 j13 j14 j15 j16 j17 j18 : Value), vs = [.int .i64 0, j5, .int .i64 k, j9, j10, j11, j12, j13, j14, j15, j16, j17, j18] ∧ s = [] ∧ n = xs.length - k ∧ k ≤ xs.length ∧ ∀ j, j < k → p (it xs j) = false) ((fun (k : Nat) => xs.length - k) (0)) ?_ Kx ?_
 ·dsimp only [Act.vals, List.map, Array.getD, List.size_toArray, List.length_cons, List.length_nil, Nat.reduceAdd, Nat.reduceLT, ↓reduceDIte, Array.getInternal, List.getElem_toArray, List.getElem_cons_zero, List.getElem_cons_succ]
  exact ⟨0, _, _, _, _, _, _, _, _, _, _, _, rfl, rfl, rfl, by omega, fun i hi => by omega⟩
 rintro n vs s ⟨k, j5, j9, j10, j11, j12, j13, j14, j15, j16, j17, j18, rfl, rfl, hn, hc1, hc2⟩
 simp only [Act.puts, Act.vals, List.zip_cons_cons, List.zip_nil_right, List.foldl_cons, List.foldl_nil, List.map_cons, List.map_nil, Act.put, Act.eval, List.setIfInBounds_toArray, List.set_cons_zero, List.set_cons_succ, Array.getD_eq_getD_getElem?, List.getElem?_toArray, List.getElem?_cons_zero, List.getElem?_cons_succ, Option.getD_some]
 refine wk_seq ?_
 refine wk_region [0] rfl Kx ?_
 simp only [qy]
 apply rg_softb
 case hy => (intro w hw; go_simp; (try go_bits); exact Yld.mk _ _)
 intro x h1
 cases x
 ·(try simp only [qd, ne_eq] at h1)
  simp only [qz]; refine rg_nil (ek_next (wk_seq (wk_cond_f rfl (wk_exit (ek_then_exit (ek_then_exit (ek_block_exit (ek_next (wk_seq ?_))))))))); refine wk_region [0] rfl Kx ?_; refine Zm ?_; refine rg_nil (ek_next (wk_ret ?_)); refine ek_ret (fun w hw => ⟨rfl, _, res_t _ rfl, ?_⟩); (try simp only [qz])
  exact ⟨by rw [show idxF p xs 0 = -1 from idxF_no p xs 0 (fun j hj => hc2 j Ox)], hw.below⟩
 (try simp only [qd, ne_eq] at h1)
 simp only [qz]
 obtain ⟨b, off, rfl, hlt, hcell⟩ := AS.openT hA Ox
 have hck := hcell k Ox
 refine rg_nil (ek_next (wk_seq (wk_cond_t rfl (wk_skip (ek_next (wk_seq (wk_block (wk_seq ?_))))))))
 refine wk_region [0, 0] rfl Kx ?_
 refine Zm ?_
 refine rg_nil (ek_next (wk_seq ?_))
 refine wk_region [0, 0, 0, 0, 0, 1] rfl Kx ?_
 refine Zm ?_
 refine Zk ?_
 apply rg_soft
 case hy => (intro w hw; obtain ⟨hi0, hi1, hi2, hi3⟩ := hck.kn hw hlt (by simp); go_simp; (try go_bits); exact Yld.mk _ _)
 simp only [qz]
 apply rg_callVbI Rx rfl hgo
 case hargs => exact Ax
 case h => exact fun w hw => hf w hw.below (it xs k) (it_mem Ox)
 case hz => exact Nz
 intro x h2
 cases x
 ·(try simp only [qd, ne_eq] at h2)
  simp only [qz]; refine rg_nil (ek_next (wk_cond_f rfl (wk_skip (ek_block (ek_next ?_))))); refine wk_region [0, 0] rfl Kx ?_; simp only [qy]; refine Zk ?_; refine rg_nil ?_; refine ek_roundS (xs.length - (k + 1)) Ox Kx ?_
  dsimp only [Act.vals, List.map, Array.getD, List.size_toArray, List.length_cons, List.length_nil, Nat.reduceAdd, Nat.reduceLT, ↓reduceDIte, Array.getInternal, List.getElem_toArray, List.getElem_cons_zero, List.getElem_cons_succ]
  exact ⟨k + 1, _, _, _, _, _, _, _, _, _, _, _, by rfl, by rfl, by rfl, by omega, fun j hj => if e : j = k then e ▸ h2 else hc2 j Ox⟩
 (try simp only [qd, ne_eq] at h2)
 simp only [qz]
 refine rg_nil (ek_next (wk_cond_t rfl (wk_seq ?_)))
 refine wk_region [0, 0] rfl Kx ?_
 refine Zm ?_
 refine rg_nil (ek_next (wk_ret (ek_block_ret (ek_then_ret (ek_then_ret (ek_block_ret (ek_then_ret ?_)))))))
 refine ek_ret (fun w hw => ⟨rfl, _, res_t _ rfl, ?_⟩)
 (try simp only [qz])
 exact ⟨by rw [show idxF p xs 0 = (k : Int) by rw [idxF_at p xs 0 k Ox hc2 h2]; omega], hw.below⟩
theorem contains_any (xs : List It) (a : Option Addr) (c : Nat) (p : It → Bool) (f : Nat) (caps : Array Value) (hl : xs.length ≤ 100000) (hgo : isGo Tryz.prog f = true) (w : World) (hA : AS w a (its xs)) (hf : ∀ w', Below w.heap.size w w' → ∀ i ∈ xs, Calls Tryz.prog f (#[itV i] ++ caps) w' fun e w'' => e = .returned (.bool (p i)) ∧ Below w'.heap.size w' w'') : Calls Tryz.prog 104 #[slV a xs.length c, .func (.func f) #[] caps] w fun e w' => e = .returned (.bool (xs.any p)) ∧ Below w.heap.size w w' := by
 go_enter Tryz.func104, Tryz.ntmps104
 refine wk_start ?_
 refine wk_seq ?_
 refine wk_region [0] rfl Kx ?_
 refine Zm ?_
 refine rg_nil (ek_next (wk_seq ?_))
 refine wk_region [0, 0, 1, 0, 0] rfl Kx ?_
 refine Zm ?_
 apply rg_pure Rx Kx
 case hargs => exact Ax
 case h => exact fun w hw => index_any xs a c p f caps hl hgo w (hA.kn0 hw) (fun w' hb => hf w' (hw.call hb).below)
 case hz => exact Nz
 simp only [qz]
 refine Zk ?_
 refine rg_nil (ek_next (wk_ret ?_))
 refine ek_ret (fun w hw => ⟨rfl, _, res_t _ rfl, ?_⟩)
 (try simp only [qz])
 exact ⟨by rw [← idxF_any p xs 0 Ox], hw.below⟩
def wd (i : It) : Int :=
  if i.kind = 1 then (if 1 ≤ i.n ∧ i.n ≤ 7 ∧ i.name.toList.isEmpty = true then 1 else 0)
  else if i.kind = 2 ∨ i.kind = 3 then (if i.n = 0 ∧ i.name.toList.isEmpty = true then 2 else 0) else 0
theorem wd_range (i : It) : 0 ≤ wd i ∧ wd i ≤ 2 := by
 unfold wd; repeat' split
 all_goals omega
def fitB (n : Int) (i : It) : Bool := decide (wd i ≠ 0 ∧ 1 ≤ i.at_ ∧ i.at_ ≤ n - wd i + 1)
def validI (n : Int) (xs : List It) : Bool := decide (1 ≤ n ∧ n ≤ 6) && (decide (xs.length ≤ 5000) && xs.all (fitB n))
theorem betB_true {l n h : Int} (e : betB l n h = true) : l ≤ n ∧ n ≤ h := of_decide_eq_true e
theorem betB_false {l n h : Int} (e : betB l n h = false) : ¬ (l ≤ n ∧ n ≤ h) := of_decide_eq_false e
theorem run_lookup_none (s : ByteArray) (w : World) : (Instr.lookup 141 (.map none) (.string s) false).run Tryz.prog w = .ok (.int .i64 0) w := by
 kernel_rfl
theorem between_mesh (l n h : Int) (w : World) : Calls Tryz.prog 53 #[.int .i64 l, .int .i64 n, .int .i64 h] w fun e w' => e = .returned (.bool (betB l n h)) ∧ Below w.heap.size w w' := by
 go_enter Tryz.func53, Tryz.ntmps53
 refine wk_start ?_
 refine wk_seq ?_
 refine wk_region [0] rfl Kx ?_
 refine Zm ?_
 refine rg_nil (ek_next (wk_seq ?_))
 refine wk_region [0, 0, 0, 0, 0, 0, 0, 0, 0] rfl Kx ?_
 refine Zm ?_
 apply rg_softb
 case hy => (intro w hw; go_simp; (try go_bits); exact Yld.mk _ _)
 intro x h1
 cases x
 ·(try simp only [qd, ne_eq] at h1)
  refine Zm ?_; refine Zk ?_; refine rg_nil (ek_next (wk_ret ?_)); refine ek_ret (fun w hw => ⟨rfl, _, res_t _ rfl, ?_⟩); (try simp only [qz])
  exact ⟨by (simp [betB]; omega), hw.below⟩
 (try simp only [qd, ne_eq] at h1)
 refine Zm ?_
 apply rg_soft_g
 case hg => rfl
 case hy => (intro w hw; go_simp; (try go_bits); exact Yld.mk _ _)
 simp only [qz]
 apply rg_soft_g
 case hg => rfl
 case hy => (intro w hw; go_simp; (try go_bits); exact Yld.mk _ _)
 simp only [qz]
 apply rg_soft_g
 case hg => rfl
 case hy => (intro w hw; go_simp; (try go_bits); exact Yld.mk _ _)
 simp only [qz]
 refine Zk ?_
 refine rg_nil (ek_next (wk_ret ?_))
 refine ek_ret (fun w hw => ⟨rfl, _, res_t _ rfl, ?_⟩)
 (try simp only [qz])
 exact ⟨by simp [betB, h1], hw.below⟩
theorem width_any (i : It) (w : World) : Calls Tryz.prog 106 #[itV i, .map none] w fun e w' => e = .returned (.int .i64 (wd i)) ∧ Below w.heap.size w w' := by
 go_enter Tryz.func106, Tryz.ntmps106
 refine wk_start ?_
 refine wk_seq ?_
 refine wk_region [1, 0] rfl Kx ?_
 simp only [qy]
 refine Rgn fun g1 => ?_
 refine Zm ?_
 refine rg_nil (ek_next (wk_seq (wk_seq ?_)))
 refine wk_region [0, 0, 0, 0, 0, 0, 0, 0, 0, 0, 0, 0, 0, 0, 0, 0, 0, 0] rfl Kx ?_
 simp only [qy]
 apply rg_soft
 case hy => (intro w hw; have hlk := run_lookup_none i.name w; go_simp; (try go_bits); exact Yld.mk _ _)
 simp only [qz]
 apply rg_soft
 case hy => (intro w hw; obtain ⟨hcg1, hfg1⟩ := (Kn.hd0 hw).facts; have hlk := run_lookup_none i.name w; go_simp; (try go_bits); exact Yld.mk _ _)
 simp only [qz]
 apply rg_softb
 case hy => (intro w hw; have hlk := run_lookup_none i.name w; go_simp; (try go_bits); exact Yld.mk _ _)
 intro x h1
 cases x
 ·(try simp only [qd, ne_eq] at h1)
  simp only [qz]
  (try (have h1a := Int.le_of_eq h1; have h1b := Int.le_of_eq h1.symm; clear h1))
  refine Zm ?_; apply rg_soft
  case hy => (intro w hw; have hlk := run_lookup_none i.name w; go_simp; (try go_bits); exact Yld.mk _ _)
  refine Zm ?_; apply rg_soft_g
  case hg => rfl
  case hy => (intro w hw; have hlk := run_lookup_none i.name w; go_simp; (try go_bits); exact Yld.mk _ _)
  simp only [qz]; apply rg_soft_g
  case hg => rfl
  case hy => (intro w hw; obtain ⟨hcg1, hfg1⟩ := (Kn.hd0 hw).facts; have hlk := run_lookup_none i.name w; go_simp; (try go_bits); exact Yld.mk _ _)
  simp only [qz]; apply rg_softb_g
  case hg => rfl
  case hy => (intro w hw; have hlk := run_lookup_none i.name w; go_simp; (try go_bits); exact Yld.mk _ _)
  intro x h2; cases x
  ·(try simp only [qd, ne_eq] at h2)
   simp only [qz]
   (try (have h2a := Int.le_of_eq h2; have h2b := Int.le_of_eq h2.symm; clear h2))
   apply rg_soft_g
   case hg => rfl
   case hy => (intro w hw; have hlk := run_lookup_none i.name w; go_simp; (try go_bits); exact Yld.mk _ _)
   refine Zm ?_; apply rg_soft_g
   case hg => rfl
   case hy => (intro w hw; have hlk := run_lookup_none i.name w; go_simp; (try go_bits); exact Yld.mk _ _)
   simp only [qz]; apply rg_soft
   case hy => (intro w hw; have hlk := run_lookup_none i.name w; go_simp; (try go_bits); exact Yld.mk _ _)
   simp only [qz]; refine rg_nil (ek_next (wk_cond_f rfl (wk_skip (ek_next (wk_seq (wk_seq ?_)))))); refine wk_region [0, 0] rfl Kx ?_; simp only [qy]; apply rg_soft
   case hy => (intro w hw; have hlk := run_lookup_none i.name w; go_simp; (try go_bits); exact Yld.mk _ _)
   simp only [qz]; apply rg_soft
   case hy => (intro w hw; obtain ⟨hcg1, hfg1⟩ := (Kn.hd0 hw).facts; have hlk := run_lookup_none i.name w; go_simp; (try go_bits); exact Yld.mk _ _)
   simp only [qz]; refine rg_nil (ek_next (wk_block (wk_seq ?_))); refine wk_region [0, 0] rfl Kx ?_; simp only [qy]; apply rg_softb
   case hy => (intro w hw; have hlk := run_lookup_none i.name w; go_simp; (try go_bits); exact Yld.mk _ _)
   intro x h3; cases x
   ·(try simp only [qd, ne_eq] at h3)
    simp only [qz]
    (try (have h3a := Int.le_of_eq h3; have h3b := Int.le_of_eq h3.symm; clear h3))
    refine Zm ?_; refine rg_nil (ek_next (wk_cond_f rfl (wk_seq (wk_seq ?_)))); refine wk_region [0, 0] rfl Kx ?_; simp only [qy]; apply rg_softb
    case hy => (intro w hw; have hlk := run_lookup_none i.name w; go_simp; (try go_bits); exact Yld.mk _ _)
    intro x h4; cases x
    ·(try simp only [qd, ne_eq] at h4)
     simp only [qz]
     (try (have h4a := Int.le_of_eq h4; have h4b := Int.le_of_eq h4.symm; clear h4))
     refine Zm ?_; refine rg_nil (ek_next (wk_cond_f rfl ?_)); refine wk_region [0, 0] rfl Kx ?_; simp only [qy]; apply rg_softb
     case hy => (intro w hw; have hlk := run_lookup_none i.name w; go_simp; (try go_bits); exact Yld.mk _ _)
     intro x h5; cases x
     ·(try simp only [qd, ne_eq] at h5)
      simp only [qz]
      (try (have h5a := Int.le_of_eq h5; have h5b := Int.le_of_eq h5.symm; clear h5))
      refine Zm ?_; refine rg_nil (ek_next (wk_cond_f rfl (wk_seq ?_))); refine wk_region [0, 0] rfl Kx ?_; simp only [qy]; apply rg_softb
      case hy => (intro w hw; have hlk := run_lookup_none i.name w; go_simp; (try go_bits); exact Yld.mk _ _)
      intro x h6; cases x
      ·(try simp only [qd, ne_eq] at h6)
       simp only [qz]
       (try (have h6a := Int.le_of_eq h6; have h6b := Int.le_of_eq h6.symm; clear h6))
       refine Zm ?_; refine rg_nil (ek_next (wk_cond_f rfl (wk_skip (ek_block (ek_next (wk_seq ?_)))))); refine wk_region [0] rfl Kx ?_; refine Zm ?_; refine rg_nil (ek_next (wk_ret ?_)); refine ek_ret (fun w hw => ⟨rfl, _, res_t _ rfl, ?_⟩); (try simp only [qz])
       exact ⟨by rw [show wd i = 0 from by (unfold wd; (repeat' split) <;> first | rfl | omega | (exfalso; omega) | (exfalso; simp_all; done) | (simp_all; done) | (exfalso; simp_all; omega))], hw.below⟩
      (try simp only [qd, ne_eq] at h6); simp only [qz]
      (try (have h6a := Int.le_of_eq h6; have h6b := Int.le_of_eq h6.symm; clear h6))
      refine Zm ?_; refine rg_nil (ek_next (wk_cond_t rfl (wk_seq ?_))); refine wk_region [0, 0, 0, 0, 0] rfl Kx ?_; refine Zm ?_; apply rg_soft
      case hy => (intro w hw; have hlk := run_lookup_none i.name w; go_simp; (try go_bits); exact Yld.mk _ _)
      simp only [qz]; apply rg_soft
      case hy => (intro w hw; obtain ⟨hcg1, hfg1⟩ := (Kn.hd0 hw).facts; have hlk := run_lookup_none i.name w; go_simp; (try go_bits); exact Yld.mk _ _)
      simp only [qz]; apply rg_soft
      case hy => (intro w hw; have hlk := run_lookup_none i.name w; go_simp; (try go_bits); exact Yld.mk _ _)
      refine Zm ?_; refine rg_nil (ek_next (wk_ret (ek_block_ret (ek_then_ret ?_)))); refine ek_ret (fun w hw => ⟨rfl, _, res_t _ rfl, ?_⟩); (try simp only [qz])
      exact ⟨by rw [show wd i = 0 from by (unfold wd; (repeat' split) <;> first | rfl | omega | (exfalso; omega) | (exfalso; simp_all; done) | (simp_all; done) | (exfalso; simp_all; omega))], hw.below⟩
     (try simp only [qd, ne_eq] at h5); simp only [qz]
     (try (have h5a := Int.le_of_eq h5; have h5b := Int.le_of_eq h5.symm; clear h5))
     refine Zm ?_; refine rg_nil (ek_next (wk_cond_t rfl (wk_seq ?_))); refine wk_region [0] rfl Kx ?_; refine Zm ?_; refine rg_nil (ek_next (wk_ret (ek_block_ret (ek_then_ret ?_)))); refine ek_ret (fun w hw => ⟨rfl, _, res_t _ rfl, ?_⟩); (try simp only [qz])
     exact ⟨by rw [show wd i = 2 from by (unfold wd; (repeat' split) <;> first | rfl | omega | (exfalso; omega) | (exfalso; simp_all; done) | (simp_all; done) | (exfalso; simp_all; omega))], hw.below⟩
    (try simp only [qd, ne_eq] at h4); simp only [qz]
    (try (have h4a := Int.le_of_eq h4; have h4b := Int.le_of_eq h4.symm; clear h4))
    refine Zm ?_; refine rg_nil (ek_next (wk_cond_t rfl (wk_skip (ek_next (wk_cond_t rfl (wk_seq ?_)))))); refine wk_region [0] rfl Kx ?_; refine Zm ?_; refine rg_nil (ek_next (wk_ret (ek_block_ret (ek_then_ret ?_)))); refine ek_ret (fun w hw => ⟨rfl, _, res_t _ rfl, ?_⟩); (try simp only [qz])
    exact ⟨by rw [show wd i = 2 from by (unfold wd; (repeat' split) <;> first | rfl | omega | (exfalso; omega) | (exfalso; simp_all; done) | (simp_all; done) | (exfalso; simp_all; omega))], hw.below⟩
   (try simp only [qd, ne_eq] at h3); simp only [qz]
   (try (have h3a := Int.le_of_eq h3; have h3b := Int.le_of_eq h3.symm; clear h3))
   refine Zm ?_; refine rg_nil (ek_next (wk_cond_t rfl (wk_seq ?_))); refine wk_region [0, 0, 1] rfl Kx ?_; simp only [qy]; apply rg_soft
   case hy => (intro w hw; have hlk := run_lookup_none i.name w; go_simp; (try go_bits); exact Yld.mk _ _)
   simp only [qz]; apply rg_soft
   case hy => (intro w hw; obtain ⟨hcg1, hfg1⟩ := (Kn.hd0 hw).facts; have hlk := run_lookup_none i.name w; go_simp; (try go_bits); exact Yld.mk _ _)
   simp only [qz]; apply rg_pureb Rx Kx
   case hargs => exact Ax
   case h => exact fun w hw => between_mesh 1 i.n 7 w
   case hz => exact Nz
   intro x h7; cases x
   ·(try simp only [qd, ne_eq] at h7)
    simp only [qz]
    have hb29 := betB_false h7
    clear h7; refine rg_nil (ek_next (wk_cond_f rfl (wk_skip (ek_block (ek_next (wk_seq ?_)))))); refine wk_region [0] rfl Kx ?_; refine Zm ?_; refine rg_nil (ek_next (wk_ret ?_)); refine ek_ret (fun w hw => ⟨rfl, _, res_t _ rfl, ?_⟩); (try simp only [qz])
    exact ⟨by rw [show wd i = 0 from by (unfold wd; (repeat' split) <;> first | rfl | omega | (exfalso; omega) | (exfalso; simp_all; done) | (simp_all; done) | (exfalso; simp_all; omega))], hw.below⟩
   (try simp only [qd, ne_eq] at h7); simp only [qz]
   have hb29 := betB_true h7
   clear h7; refine rg_nil (ek_next (wk_cond_t rfl (wk_seq ?_))); refine wk_region [0] rfl Kx ?_; refine Zm ?_; refine rg_nil (ek_next (wk_ret (ek_block_ret (ek_then_ret ?_)))); refine ek_ret (fun w hw => ⟨rfl, _, res_t _ rfl, ?_⟩); (try simp only [qz])
   exact ⟨by rw [show wd i = 1 from by (unfold wd; (repeat' split) <;> first | rfl | omega | (exfalso; omega) | (exfalso; simp_all; done) | (simp_all; done) | (exfalso; simp_all; omega))], hw.below⟩
  (try simp only [qd, ne_eq] at h2); simp only [qz]
  (try (have h2a := Int.le_of_eq h2; have h2b := Int.le_of_eq h2.symm; clear h2))
  apply rg_soft_g
  case hg => rfl
  case hy => (intro w hw; have hlk := run_lookup_none i.name w; go_simp; (try go_bits); exact Yld.mk _ _)
  simp only [qz]; apply rg_soft_g
  case hg => rfl
  case hy => (intro w hw; have hlk := run_lookup_none i.name w; go_simp; (try go_bits); exact Yld.mk _ _)
  simp only [qz]; apply rg_soft_g
  case hg => rfl
  case hy => (intro w hw; obtain ⟨hcg1, hfg1⟩ := (Kn.hd0 hw).facts; have hlk := run_lookup_none i.name w; go_simp; (try go_bits); exact Yld.mk _ _)
  simp only [qz]; apply rg_softb_g
  case hg => rfl
  case hy => (intro w hw; have hlk := run_lookup_none i.name w; go_simp; (try go_bits); exact Yld.mk _ _)
  intro x h8; cases x
  ·(try simp only [qd, ne_eq] at h8)
   simp only [qz]
   (try (have h8a := Int.le_of_eq h8; have h8b := Int.le_of_eq h8.symm; clear h8))
   apply rg_soft_g
   case hg => rfl
   case hy => (intro w hw; have hlk := run_lookup_none i.name w; go_simp; (try go_bits); exact Yld.mk _ _)
   simp only [qz]; apply rg_soft
   case hy => (intro w hw; have hlk := run_lookup_none i.name w; go_simp; (try go_bits); exact Yld.mk _ _)
   simp only [qz]; refine rg_nil (ek_next (wk_cond_f rfl (wk_skip (ek_next (wk_seq (wk_seq ?_)))))); refine wk_region [0, 0] rfl Kx ?_; simp only [qy]; apply rg_soft
   case hy => (intro w hw; have hlk := run_lookup_none i.name w; go_simp; (try go_bits); exact Yld.mk _ _)
   simp only [qz]; apply rg_soft
   case hy => (intro w hw; obtain ⟨hcg1, hfg1⟩ := (Kn.hd0 hw).facts; have hlk := run_lookup_none i.name w; go_simp; (try go_bits); exact Yld.mk _ _)
   simp only [qz]; refine rg_nil (ek_next (wk_block (wk_seq ?_))); refine wk_region [0, 0] rfl Kx ?_; simp only [qy]; apply rg_softb
   case hy => (intro w hw; have hlk := run_lookup_none i.name w; go_simp; (try go_bits); exact Yld.mk _ _)
   intro x h9; cases x
   ·(try simp only [qd, ne_eq] at h9)
    simp only [qz]
    (try (have h9a := Int.le_of_eq h9; have h9b := Int.le_of_eq h9.symm; clear h9))
    refine Zm ?_; refine rg_nil (ek_next (wk_cond_f rfl (wk_seq (wk_seq ?_)))); refine wk_region [0, 0] rfl Kx ?_; simp only [qy]; apply rg_softb
    case hy => (intro w hw; have hlk := run_lookup_none i.name w; go_simp; (try go_bits); exact Yld.mk _ _)
    intro x h10; cases x
    ·(try simp only [qd, ne_eq] at h10)
     simp only [qz]
     (try (have h10a := Int.le_of_eq h10; have h10b := Int.le_of_eq h10.symm; clear h10))
     refine Zm ?_; refine rg_nil (ek_next (wk_cond_f rfl ?_)); refine wk_region [0, 0] rfl Kx ?_; simp only [qy]; apply rg_softb
     case hy => (intro w hw; have hlk := run_lookup_none i.name w; go_simp; (try go_bits); exact Yld.mk _ _)
     intro x h11; cases x
     ·(try simp only [qd, ne_eq] at h11)
      simp only [qz]
      (try (have h11a := Int.le_of_eq h11; have h11b := Int.le_of_eq h11.symm; clear h11))
      refine Zm ?_; refine rg_nil (ek_next (wk_cond_f rfl (wk_seq ?_))); refine wk_region [0, 0] rfl Kx ?_; simp only [qy]; apply rg_softb
      case hy => (intro w hw; have hlk := run_lookup_none i.name w; go_simp; (try go_bits); exact Yld.mk _ _)
      intro x h12; cases x
      ·(try simp only [qd, ne_eq] at h12)
       simp only [qz]
       (try (have h12a := Int.le_of_eq h12; have h12b := Int.le_of_eq h12.symm; clear h12))
       refine Zm ?_; refine rg_nil (ek_next (wk_cond_f rfl (wk_skip (ek_block (ek_next (wk_seq ?_)))))); refine wk_region [0] rfl Kx ?_; refine Zm ?_; refine rg_nil (ek_next (wk_ret ?_)); refine ek_ret (fun w hw => ⟨rfl, _, res_t _ rfl, ?_⟩); (try simp only [qz])
       exact ⟨by rw [show wd i = 0 from by (unfold wd; (repeat' split) <;> first | rfl | omega | (exfalso; omega) | (exfalso; simp_all; done) | (simp_all; done) | (exfalso; simp_all; omega))], hw.below⟩
      (try simp only [qd, ne_eq] at h12); simp only [qz]
      (try (have h12a := Int.le_of_eq h12; have h12b := Int.le_of_eq h12.symm; clear h12))
      refine Zm ?_; refine rg_nil (ek_next (wk_cond_t rfl (wk_seq ?_))); refine wk_region [0, 0, 0, 0, 0] rfl Kx ?_; refine Zm ?_; apply rg_soft
      case hy => (intro w hw; have hlk := run_lookup_none i.name w; go_simp; (try go_bits); exact Yld.mk _ _)
      simp only [qz]; apply rg_soft
      case hy => (intro w hw; obtain ⟨hcg1, hfg1⟩ := (Kn.hd0 hw).facts; have hlk := run_lookup_none i.name w; go_simp; (try go_bits); exact Yld.mk _ _)
      simp only [qz]; apply rg_soft
      case hy => (intro w hw; have hlk := run_lookup_none i.name w; go_simp; (try go_bits); exact Yld.mk _ _)
      refine Zm ?_; refine rg_nil (ek_next (wk_ret (ek_block_ret (ek_then_ret ?_)))); refine ek_ret (fun w hw => ⟨rfl, _, res_t _ rfl, ?_⟩); (try simp only [qz])
      exact ⟨by rw [show wd i = 0 from by (unfold wd; (repeat' split) <;> first | rfl | omega | (exfalso; omega) | (exfalso; simp_all; done) | (simp_all; done) | (exfalso; simp_all; omega))], hw.below⟩
     (try simp only [qd, ne_eq] at h11); simp only [qz]
     (try (have h11a := Int.le_of_eq h11; have h11b := Int.le_of_eq h11.symm; clear h11))
     refine Zm ?_; refine rg_nil (ek_next (wk_cond_t rfl (wk_seq ?_))); refine wk_region [0] rfl Kx ?_; refine Zm ?_; refine rg_nil (ek_next (wk_ret (ek_block_ret (ek_then_ret ?_)))); refine ek_ret (fun w hw => ⟨rfl, _, res_t _ rfl, ?_⟩); (try simp only [qz])
     exact ⟨by rw [show wd i = 2 from by (unfold wd; (repeat' split) <;> first | rfl | omega | (exfalso; omega) | (exfalso; simp_all; done) | (simp_all; done) | (exfalso; simp_all; omega))], hw.below⟩
    (try simp only [qd, ne_eq] at h10); simp only [qz]
    (try (have h10a := Int.le_of_eq h10; have h10b := Int.le_of_eq h10.symm; clear h10))
    refine Zm ?_; refine rg_nil (ek_next (wk_cond_t rfl (wk_skip (ek_next (wk_cond_t rfl (wk_seq ?_)))))); refine wk_region [0] rfl Kx ?_; refine Zm ?_; refine rg_nil (ek_next (wk_ret (ek_block_ret (ek_then_ret ?_)))); refine ek_ret (fun w hw => ⟨rfl, _, res_t _ rfl, ?_⟩); (try simp only [qz])
    exact ⟨by rw [show wd i = 2 from by (unfold wd; (repeat' split) <;> first | rfl | omega | (exfalso; omega) | (exfalso; simp_all; done) | (simp_all; done) | (exfalso; simp_all; omega))], hw.below⟩
   (try simp only [qd, ne_eq] at h9); simp only [qz]
   (try (have h9a := Int.le_of_eq h9; have h9b := Int.le_of_eq h9.symm; clear h9))
   refine Zm ?_; refine rg_nil (ek_next (wk_cond_t rfl (wk_seq ?_))); refine wk_region [0, 0, 1] rfl Kx ?_; simp only [qy]; apply rg_soft
   case hy => (intro w hw; have hlk := run_lookup_none i.name w; go_simp; (try go_bits); exact Yld.mk _ _)
   simp only [qz]; apply rg_soft
   case hy => (intro w hw; obtain ⟨hcg1, hfg1⟩ := (Kn.hd0 hw).facts; have hlk := run_lookup_none i.name w; go_simp; (try go_bits); exact Yld.mk _ _)
   simp only [qz]; apply rg_pureb Rx Kx
   case hargs => exact Ax
   case h => exact fun w hw => between_mesh 1 i.n 7 w
   case hz => exact Nz
   intro x h13; cases x
   ·(try simp only [qd, ne_eq] at h13)
    simp only [qz]
    have hb29 := betB_false h13
    clear h13; refine rg_nil (ek_next (wk_cond_f rfl (wk_skip (ek_block (ek_next (wk_seq ?_)))))); refine wk_region [0] rfl Kx ?_; refine Zm ?_; refine rg_nil (ek_next (wk_ret ?_)); refine ek_ret (fun w hw => ⟨rfl, _, res_t _ rfl, ?_⟩); (try simp only [qz])
    exact ⟨by rw [show wd i = 0 from by (unfold wd; (repeat' split) <;> first | rfl | omega | (exfalso; omega) | (exfalso; simp_all; done) | (simp_all; done) | (exfalso; simp_all; omega))], hw.below⟩
   (try simp only [qd, ne_eq] at h13); simp only [qz]
   have hb29 := betB_true h13
   clear h13; refine rg_nil (ek_next (wk_cond_t rfl (wk_seq ?_))); refine wk_region [0] rfl Kx ?_; refine Zm ?_; refine rg_nil (ek_next (wk_ret (ek_block_ret (ek_then_ret ?_)))); refine ek_ret (fun w hw => ⟨rfl, _, res_t _ rfl, ?_⟩); (try simp only [qz])
   exact ⟨by rw [show wd i = 1 from by (unfold wd; (repeat' split) <;> first | rfl | omega | (exfalso; omega) | (exfalso; simp_all; done) | (simp_all; done) | (exfalso; simp_all; omega))], hw.below⟩
  (try simp only [qd, ne_eq] at h8); simp only [qz]
  (try (have h8a := Int.le_of_eq h8; have h8b := Int.le_of_eq h8.symm; clear h8))
  apply rg_soft_g
  case hg => rfl
  case hy => (intro w hw; have hlk := run_lookup_none i.name w; go_simp; (try go_bits); exact Yld.mk _ _)
  simp only [qz]; apply rg_soft
  case hy => (intro w hw; have hlk := run_lookup_none i.name w; go_simp; (try go_bits); exact Yld.mk _ _)
  simp only [qz]; refine rg_nil (ek_next (wk_cond_t rfl (wk_seq ?_))); refine wk_region [0] rfl Kx ?_; refine Zm ?_; refine rg_nil (ek_next (wk_ret (ek_then_ret ?_))); refine ek_ret (fun w hw => ⟨rfl, _, res_t _ rfl, ?_⟩); (try simp only [qz])
  exact ⟨by rw [show wd i = 0 from by (unfold wd; (repeat' split) <;> first | rfl | omega | (exfalso; omega) | (exfalso; simp_all; done) | (simp_all; done) | (exfalso; simp_all; omega))], hw.below⟩
 (try simp only [qd, ne_eq] at h1)
 simp only [qz]
 (try (have h1a := Int.le_of_eq h1; have h1b := Int.le_of_eq h1.symm; clear h1))
 refine Zm ?_
 apply rg_soft_g
 case hg => rfl
 case hy => (intro w hw; have hlk := run_lookup_none i.name w; go_simp; (try go_bits); exact Yld.mk _ _)
 simp only [qz]
 apply rg_soft_g
 case hg => rfl
 case hy => (intro w hw; obtain ⟨hcg1, hfg1⟩ := (Kn.hd0 hw).facts; have hlk := run_lookup_none i.name w; go_simp; (try go_bits); exact Yld.mk _ _)
 simp only [qz]
 apply rg_softb_g
 case hg => rfl
 case hy => (intro w hw; have hlk := run_lookup_none i.name w; go_simp; (try go_bits); exact Yld.mk _ _)
 intro x h14
 cases x
 ·(try simp only [qd, ne_eq] at h14)
  simp only [qz]
  (try (have h14a := Int.le_of_eq h14; have h14b := Int.le_of_eq h14.symm; clear h14))
  apply rg_soft
  case hy => (intro w hw; have hlk := run_lookup_none i.name w; go_simp; (try go_bits); exact Yld.mk _ _)
  refine Zm ?_; apply rg_soft_g
  case hg => rfl
  case hy => (intro w hw; have hlk := run_lookup_none i.name w; go_simp; (try go_bits); exact Yld.mk _ _)
  simp only [qz]; apply rg_soft_g
  case hg => rfl
  case hy => (intro w hw; obtain ⟨hcg1, hfg1⟩ := (Kn.hd0 hw).facts; have hlk := run_lookup_none i.name w; go_simp; (try go_bits); exact Yld.mk _ _)
  simp only [qz]; apply rg_softb_g
  case hg => rfl
  case hy => (intro w hw; have hlk := run_lookup_none i.name w; go_simp; (try go_bits); exact Yld.mk _ _)
  intro x h15; cases x
  ·(try simp only [qd, ne_eq] at h15)
   simp only [qz]
   (try (have h15a := Int.le_of_eq h15; have h15b := Int.le_of_eq h15.symm; clear h15))
   apply rg_soft_g
   case hg => rfl
   case hy => (intro w hw; have hlk := run_lookup_none i.name w; go_simp; (try go_bits); exact Yld.mk _ _)
   refine Zm ?_; apply rg_soft_g
   case hg => rfl
   case hy => (intro w hw; have hlk := run_lookup_none i.name w; go_simp; (try go_bits); exact Yld.mk _ _)
   simp only [qz]; apply rg_soft
   case hy => (intro w hw; have hlk := run_lookup_none i.name w; go_simp; (try go_bits); exact Yld.mk _ _)
   simp only [qz]; refine rg_nil (ek_next (wk_cond_f rfl (wk_skip (ek_next (wk_seq (wk_seq ?_)))))); refine wk_region [0, 0] rfl Kx ?_; simp only [qy]; apply rg_soft
   case hy => (intro w hw; have hlk := run_lookup_none i.name w; go_simp; (try go_bits); exact Yld.mk _ _)
   simp only [qz]; apply rg_soft
   case hy => (intro w hw; obtain ⟨hcg1, hfg1⟩ := (Kn.hd0 hw).facts; have hlk := run_lookup_none i.name w; go_simp; (try go_bits); exact Yld.mk _ _)
   simp only [qz]; refine rg_nil (ek_next (wk_block (wk_seq ?_))); refine wk_region [0, 0] rfl Kx ?_; simp only [qy]; apply rg_softb
   case hy => (intro w hw; have hlk := run_lookup_none i.name w; go_simp; (try go_bits); exact Yld.mk _ _)
   intro x h16; cases x
   ·(try simp only [qd, ne_eq] at h16)
    simp only [qz]
    (try (have h16a := Int.le_of_eq h16; have h16b := Int.le_of_eq h16.symm; clear h16))
    refine Zm ?_; refine rg_nil (ek_next (wk_cond_f rfl (wk_seq (wk_seq ?_)))); refine wk_region [0, 0] rfl Kx ?_; simp only [qy]; apply rg_softb
    case hy => (intro w hw; have hlk := run_lookup_none i.name w; go_simp; (try go_bits); exact Yld.mk _ _)
    intro x h17; cases x
    ·(try simp only [qd, ne_eq] at h17)
     simp only [qz]
     (try (have h17a := Int.le_of_eq h17; have h17b := Int.le_of_eq h17.symm; clear h17))
     refine Zm ?_; refine rg_nil (ek_next (wk_cond_f rfl ?_)); refine wk_region [0, 0] rfl Kx ?_; simp only [qy]; apply rg_softb
     case hy => (intro w hw; have hlk := run_lookup_none i.name w; go_simp; (try go_bits); exact Yld.mk _ _)
     intro x h18; cases x
     ·(try simp only [qd, ne_eq] at h18)
      simp only [qz]
      (try (have h18a := Int.le_of_eq h18; have h18b := Int.le_of_eq h18.symm; clear h18))
      refine Zm ?_; refine rg_nil (ek_next (wk_cond_f rfl (wk_seq ?_))); refine wk_region [0, 0] rfl Kx ?_; simp only [qy]; apply rg_softb
      case hy => (intro w hw; have hlk := run_lookup_none i.name w; go_simp; (try go_bits); exact Yld.mk _ _)
      intro x h19; cases x
      ·(try simp only [qd, ne_eq] at h19)
       simp only [qz]
       (try (have h19a := Int.le_of_eq h19; have h19b := Int.le_of_eq h19.symm; clear h19))
       refine Zm ?_; refine rg_nil (ek_next (wk_cond_f rfl (wk_skip (ek_block (ek_next (wk_seq ?_)))))); refine wk_region [0] rfl Kx ?_; refine Zm ?_; refine rg_nil (ek_next (wk_ret ?_)); refine ek_ret (fun w hw => ⟨rfl, _, res_t _ rfl, ?_⟩); (try simp only [qz])
       exact ⟨by rw [show wd i = 0 from by (unfold wd; (repeat' split) <;> first | rfl | omega | (exfalso; omega) | (exfalso; simp_all; done) | (simp_all; done) | (exfalso; simp_all; omega))], hw.below⟩
      (try simp only [qd, ne_eq] at h19); simp only [qz]
      (try (have h19a := Int.le_of_eq h19; have h19b := Int.le_of_eq h19.symm; clear h19))
      refine Zm ?_; refine rg_nil (ek_next (wk_cond_t rfl (wk_seq ?_))); refine wk_region [0, 0, 0, 0, 0] rfl Kx ?_; refine Zm ?_; apply rg_soft
      case hy => (intro w hw; have hlk := run_lookup_none i.name w; go_simp; (try go_bits); exact Yld.mk _ _)
      simp only [qz]; apply rg_soft
      case hy => (intro w hw; obtain ⟨hcg1, hfg1⟩ := (Kn.hd0 hw).facts; have hlk := run_lookup_none i.name w; go_simp; (try go_bits); exact Yld.mk _ _)
      simp only [qz]; apply rg_soft
      case hy => (intro w hw; have hlk := run_lookup_none i.name w; go_simp; (try go_bits); exact Yld.mk _ _)
      refine Zm ?_; refine rg_nil (ek_next (wk_ret (ek_block_ret (ek_then_ret ?_)))); refine ek_ret (fun w hw => ⟨rfl, _, res_t _ rfl, ?_⟩); (try simp only [qz])
      exact ⟨by rw [show wd i = 0 from by (unfold wd; (repeat' split) <;> first | rfl | omega | (exfalso; omega) | (exfalso; simp_all; done) | (simp_all; done) | (exfalso; simp_all; omega))], hw.below⟩
     (try simp only [qd, ne_eq] at h18); simp only [qz]
     (try (have h18a := Int.le_of_eq h18; have h18b := Int.le_of_eq h18.symm; clear h18))
     refine Zm ?_; refine rg_nil (ek_next (wk_cond_t rfl (wk_seq ?_))); refine wk_region [0] rfl Kx ?_; refine Zm ?_; refine rg_nil (ek_next (wk_ret (ek_block_ret (ek_then_ret ?_)))); refine ek_ret (fun w hw => ⟨rfl, _, res_t _ rfl, ?_⟩); (try simp only [qz])
     exact ⟨by rw [show wd i = 2 from by (unfold wd; (repeat' split) <;> first | rfl | omega | (exfalso; omega) | (exfalso; simp_all; done) | (simp_all; done) | (exfalso; simp_all; omega))], hw.below⟩
    (try simp only [qd, ne_eq] at h17); simp only [qz]
    (try (have h17a := Int.le_of_eq h17; have h17b := Int.le_of_eq h17.symm; clear h17))
    refine Zm ?_; refine rg_nil (ek_next (wk_cond_t rfl (wk_skip (ek_next (wk_cond_t rfl (wk_seq ?_)))))); refine wk_region [0] rfl Kx ?_; refine Zm ?_; refine rg_nil (ek_next (wk_ret (ek_block_ret (ek_then_ret ?_)))); refine ek_ret (fun w hw => ⟨rfl, _, res_t _ rfl, ?_⟩); (try simp only [qz])
    exact ⟨by rw [show wd i = 2 from by (unfold wd; (repeat' split) <;> first | rfl | omega | (exfalso; omega) | (exfalso; simp_all; done) | (simp_all; done) | (exfalso; simp_all; omega))], hw.below⟩
   (try simp only [qd, ne_eq] at h16); simp only [qz]
   (try (have h16a := Int.le_of_eq h16; have h16b := Int.le_of_eq h16.symm; clear h16))
   refine Zm ?_; refine rg_nil (ek_next (wk_cond_t rfl (wk_seq ?_))); refine wk_region [0, 0, 1] rfl Kx ?_; simp only [qy]; apply rg_soft
   case hy => (intro w hw; have hlk := run_lookup_none i.name w; go_simp; (try go_bits); exact Yld.mk _ _)
   simp only [qz]; apply rg_soft
   case hy => (intro w hw; obtain ⟨hcg1, hfg1⟩ := (Kn.hd0 hw).facts; have hlk := run_lookup_none i.name w; go_simp; (try go_bits); exact Yld.mk _ _)
   simp only [qz]; apply rg_pureb Rx Kx
   case hargs => exact Ax
   case h => exact fun w hw => between_mesh 1 i.n 7 w
   case hz => exact Nz
   intro x h20; cases x
   ·(try simp only [qd, ne_eq] at h20)
    simp only [qz]
    have hb29 := betB_false h20
    clear h20; refine rg_nil (ek_next (wk_cond_f rfl (wk_skip (ek_block (ek_next (wk_seq ?_)))))); refine wk_region [0] rfl Kx ?_; refine Zm ?_; refine rg_nil (ek_next (wk_ret ?_)); refine ek_ret (fun w hw => ⟨rfl, _, res_t _ rfl, ?_⟩); (try simp only [qz])
    exact ⟨by rw [show wd i = 0 from by (unfold wd; (repeat' split) <;> first | rfl | omega | (exfalso; omega) | (exfalso; simp_all; done) | (simp_all; done) | (exfalso; simp_all; omega))], hw.below⟩
   (try simp only [qd, ne_eq] at h20); simp only [qz]
   have hb29 := betB_true h20
   clear h20; refine rg_nil (ek_next (wk_cond_t rfl (wk_seq ?_))); refine wk_region [0] rfl Kx ?_; refine Zm ?_; refine rg_nil (ek_next (wk_ret (ek_block_ret (ek_then_ret ?_)))); refine ek_ret (fun w hw => ⟨rfl, _, res_t _ rfl, ?_⟩); (try simp only [qz])
   exact ⟨by rw [show wd i = 1 from by (unfold wd; (repeat' split) <;> first | rfl | omega | (exfalso; omega) | (exfalso; simp_all; done) | (simp_all; done) | (exfalso; simp_all; omega))], hw.below⟩
  (try simp only [qd, ne_eq] at h15); simp only [qz]
  (try (have h15a := Int.le_of_eq h15; have h15b := Int.le_of_eq h15.symm; clear h15))
  apply rg_soft_g
  case hg => rfl
  case hy => (intro w hw; have hlk := run_lookup_none i.name w; go_simp; (try go_bits); exact Yld.mk _ _)
  simp only [qz]; apply rg_soft_g
  case hg => rfl
  case hy => (intro w hw; have hlk := run_lookup_none i.name w; go_simp; (try go_bits); exact Yld.mk _ _)
  simp only [qz]; apply rg_soft_g
  case hg => rfl
  case hy => (intro w hw; obtain ⟨hcg1, hfg1⟩ := (Kn.hd0 hw).facts; have hlk := run_lookup_none i.name w; go_simp; (try go_bits); exact Yld.mk _ _)
  simp only [qz]; apply rg_softb_g
  case hg => rfl
  case hy => (intro w hw; have hlk := run_lookup_none i.name w; go_simp; (try go_bits); exact Yld.mk _ _)
  intro x h21; cases x
  ·(try simp only [qd, ne_eq] at h21)
   simp only [qz]
   (try (have h21a := Int.le_of_eq h21; have h21b := Int.le_of_eq h21.symm; clear h21))
   apply rg_soft_g
   case hg => rfl
   case hy => (intro w hw; have hlk := run_lookup_none i.name w; go_simp; (try go_bits); exact Yld.mk _ _)
   simp only [qz]; apply rg_soft
   case hy => (intro w hw; have hlk := run_lookup_none i.name w; go_simp; (try go_bits); exact Yld.mk _ _)
   simp only [qz]; refine rg_nil (ek_next (wk_cond_f rfl (wk_skip (ek_next (wk_seq (wk_seq ?_)))))); refine wk_region [0, 0] rfl Kx ?_; simp only [qy]; apply rg_soft
   case hy => (intro w hw; have hlk := run_lookup_none i.name w; go_simp; (try go_bits); exact Yld.mk _ _)
   simp only [qz]; apply rg_soft
   case hy => (intro w hw; obtain ⟨hcg1, hfg1⟩ := (Kn.hd0 hw).facts; have hlk := run_lookup_none i.name w; go_simp; (try go_bits); exact Yld.mk _ _)
   simp only [qz]; refine rg_nil (ek_next (wk_block (wk_seq ?_))); refine wk_region [0, 0] rfl Kx ?_; simp only [qy]; apply rg_softb
   case hy => (intro w hw; have hlk := run_lookup_none i.name w; go_simp; (try go_bits); exact Yld.mk _ _)
   intro x h22; cases x
   ·(try simp only [qd, ne_eq] at h22)
    simp only [qz]
    (try (have h22a := Int.le_of_eq h22; have h22b := Int.le_of_eq h22.symm; clear h22))
    refine Zm ?_; refine rg_nil (ek_next (wk_cond_f rfl (wk_seq (wk_seq ?_)))); refine wk_region [0, 0] rfl Kx ?_; simp only [qy]; apply rg_softb
    case hy => (intro w hw; have hlk := run_lookup_none i.name w; go_simp; (try go_bits); exact Yld.mk _ _)
    intro x h23; cases x
    ·(try simp only [qd, ne_eq] at h23)
     simp only [qz]
     (try (have h23a := Int.le_of_eq h23; have h23b := Int.le_of_eq h23.symm; clear h23))
     refine Zm ?_; refine rg_nil (ek_next (wk_cond_f rfl ?_)); refine wk_region [0, 0] rfl Kx ?_; simp only [qy]; apply rg_softb
     case hy => (intro w hw; have hlk := run_lookup_none i.name w; go_simp; (try go_bits); exact Yld.mk _ _)
     intro x h24; cases x
     ·(try simp only [qd, ne_eq] at h24)
      simp only [qz]
      (try (have h24a := Int.le_of_eq h24; have h24b := Int.le_of_eq h24.symm; clear h24))
      refine Zm ?_; refine rg_nil (ek_next (wk_cond_f rfl (wk_seq ?_))); refine wk_region [0, 0] rfl Kx ?_; simp only [qy]; apply rg_softb
      case hy => (intro w hw; have hlk := run_lookup_none i.name w; go_simp; (try go_bits); exact Yld.mk _ _)
      intro x h25; cases x
      ·(try simp only [qd, ne_eq] at h25)
       simp only [qz]
       (try (have h25a := Int.le_of_eq h25; have h25b := Int.le_of_eq h25.symm; clear h25))
       refine Zm ?_; refine rg_nil (ek_next (wk_cond_f rfl (wk_skip (ek_block (ek_next (wk_seq ?_)))))); refine wk_region [0] rfl Kx ?_; refine Zm ?_; refine rg_nil (ek_next (wk_ret ?_)); refine ek_ret (fun w hw => ⟨rfl, _, res_t _ rfl, ?_⟩); (try simp only [qz])
       exact ⟨by rw [show wd i = 0 from by (unfold wd; (repeat' split) <;> first | rfl | omega | (exfalso; omega) | (exfalso; simp_all; done) | (simp_all; done) | (exfalso; simp_all; omega))], hw.below⟩
      (try simp only [qd, ne_eq] at h25); simp only [qz]
      (try (have h25a := Int.le_of_eq h25; have h25b := Int.le_of_eq h25.symm; clear h25))
      refine Zm ?_; refine rg_nil (ek_next (wk_cond_t rfl (wk_seq ?_))); refine wk_region [0, 0, 0, 0, 0] rfl Kx ?_; refine Zm ?_; apply rg_soft
      case hy => (intro w hw; have hlk := run_lookup_none i.name w; go_simp; (try go_bits); exact Yld.mk _ _)
      simp only [qz]; apply rg_soft
      case hy => (intro w hw; obtain ⟨hcg1, hfg1⟩ := (Kn.hd0 hw).facts; have hlk := run_lookup_none i.name w; go_simp; (try go_bits); exact Yld.mk _ _)
      simp only [qz]; apply rg_soft
      case hy => (intro w hw; have hlk := run_lookup_none i.name w; go_simp; (try go_bits); exact Yld.mk _ _)
      refine Zm ?_; refine rg_nil (ek_next (wk_ret (ek_block_ret (ek_then_ret ?_)))); refine ek_ret (fun w hw => ⟨rfl, _, res_t _ rfl, ?_⟩); (try simp only [qz])
      exact ⟨by rw [show wd i = 0 from by (unfold wd; (repeat' split) <;> first | rfl | omega | (exfalso; omega) | (exfalso; simp_all; done) | (simp_all; done) | (exfalso; simp_all; omega))], hw.below⟩
     (try simp only [qd, ne_eq] at h24); simp only [qz]
     (try (have h24a := Int.le_of_eq h24; have h24b := Int.le_of_eq h24.symm; clear h24))
     refine Zm ?_; refine rg_nil (ek_next (wk_cond_t rfl (wk_seq ?_))); refine wk_region [0] rfl Kx ?_; refine Zm ?_; refine rg_nil (ek_next (wk_ret (ek_block_ret (ek_then_ret ?_)))); refine ek_ret (fun w hw => ⟨rfl, _, res_t _ rfl, ?_⟩); (try simp only [qz])
     exact ⟨by rw [show wd i = 2 from by (unfold wd; (repeat' split) <;> first | rfl | omega | (exfalso; omega) | (exfalso; simp_all; done) | (simp_all; done) | (exfalso; simp_all; omega))], hw.below⟩
    (try simp only [qd, ne_eq] at h23); simp only [qz]
    (try (have h23a := Int.le_of_eq h23; have h23b := Int.le_of_eq h23.symm; clear h23))
    refine Zm ?_; refine rg_nil (ek_next (wk_cond_t rfl (wk_skip (ek_next (wk_cond_t rfl (wk_seq ?_)))))); refine wk_region [0] rfl Kx ?_; refine Zm ?_; refine rg_nil (ek_next (wk_ret (ek_block_ret (ek_then_ret ?_)))); refine ek_ret (fun w hw => ⟨rfl, _, res_t _ rfl, ?_⟩); (try simp only [qz])
    exact ⟨by rw [show wd i = 2 from by (unfold wd; (repeat' split) <;> first | rfl | omega | (exfalso; omega) | (exfalso; simp_all; done) | (simp_all; done) | (exfalso; simp_all; omega))], hw.below⟩
   (try simp only [qd, ne_eq] at h22); simp only [qz]
   (try (have h22a := Int.le_of_eq h22; have h22b := Int.le_of_eq h22.symm; clear h22))
   refine Zm ?_; refine rg_nil (ek_next (wk_cond_t rfl (wk_seq ?_))); refine wk_region [0, 0, 1] rfl Kx ?_; simp only [qy]; apply rg_soft
   case hy => (intro w hw; have hlk := run_lookup_none i.name w; go_simp; (try go_bits); exact Yld.mk _ _)
   simp only [qz]; apply rg_soft
   case hy => (intro w hw; obtain ⟨hcg1, hfg1⟩ := (Kn.hd0 hw).facts; have hlk := run_lookup_none i.name w; go_simp; (try go_bits); exact Yld.mk _ _)
   simp only [qz]; apply rg_pureb Rx Kx
   case hargs => exact Ax
   case h => exact fun w hw => between_mesh 1 i.n 7 w
   case hz => exact Nz
   intro x h26; cases x
   ·(try simp only [qd, ne_eq] at h26)
    simp only [qz]
    have hb29 := betB_false h26
    clear h26; refine rg_nil (ek_next (wk_cond_f rfl (wk_skip (ek_block (ek_next (wk_seq ?_)))))); refine wk_region [0] rfl Kx ?_; refine Zm ?_; refine rg_nil (ek_next (wk_ret ?_)); refine ek_ret (fun w hw => ⟨rfl, _, res_t _ rfl, ?_⟩); (try simp only [qz])
    exact ⟨by rw [show wd i = 0 from by (unfold wd; (repeat' split) <;> first | rfl | omega | (exfalso; omega) | (exfalso; simp_all; done) | (simp_all; done) | (exfalso; simp_all; omega))], hw.below⟩
   (try simp only [qd, ne_eq] at h26); simp only [qz]
   have hb29 := betB_true h26
   clear h26; refine rg_nil (ek_next (wk_cond_t rfl (wk_seq ?_))); refine wk_region [0] rfl Kx ?_; refine Zm ?_; refine rg_nil (ek_next (wk_ret (ek_block_ret (ek_then_ret ?_)))); refine ek_ret (fun w hw => ⟨rfl, _, res_t _ rfl, ?_⟩); (try simp only [qz])
   exact ⟨by rw [show wd i = 1 from by (unfold wd; (repeat' split) <;> first | rfl | omega | (exfalso; omega) | (exfalso; simp_all; done) | (simp_all; done) | (exfalso; simp_all; omega))], hw.below⟩
  (try simp only [qd, ne_eq] at h21); simp only [qz]
  (try (have h21a := Int.le_of_eq h21; have h21b := Int.le_of_eq h21.symm; clear h21))
  apply rg_soft_g
  case hg => rfl
  case hy => (intro w hw; have hlk := run_lookup_none i.name w; go_simp; (try go_bits); exact Yld.mk _ _)
  simp only [qz]; apply rg_soft
  case hy => (intro w hw; have hlk := run_lookup_none i.name w; go_simp; (try go_bits); exact Yld.mk _ _)
  simp only [qz]; refine rg_nil (ek_next (wk_cond_t rfl (wk_seq ?_))); refine wk_region [0] rfl Kx ?_; refine Zm ?_; refine rg_nil (ek_next (wk_ret (ek_then_ret ?_))); refine ek_ret (fun w hw => ⟨rfl, _, res_t _ rfl, ?_⟩); (try simp only [qz])
  exact ⟨by rw [show wd i = 0 from by (unfold wd; (repeat' split) <;> first | rfl | omega | (exfalso; omega) | (exfalso; simp_all; done) | (simp_all; done) | (exfalso; simp_all; omega))], hw.below⟩
 (try simp only [qd, ne_eq] at h14)
 simp only [qz]
 (try (have h14a := Int.le_of_eq h14; have h14b := Int.le_of_eq h14.symm; clear h14))
 apply rg_soft
 case hy => (intro w hw; have hlk := run_lookup_none i.name w; go_simp; (try go_bits); exact Yld.mk _ _)
 refine Zm ?_
 apply rg_soft
 case hy => (intro w hw; have hlk := run_lookup_none i.name w; go_simp; (try go_bits); exact Yld.mk _ _)
 simp only [qz]
 refine rg_nil (ek_next (wk_cond_t rfl (wk_seq ?_)))
 refine wk_region [0] rfl Kx ?_
 refine Zm ?_
 refine rg_nil (ek_next (wk_ret (ek_then_ret ?_)))
 refine ek_ret (fun w hw => ⟨rfl, _, res_t _ rfl, ?_⟩)
 (try simp only [qz])
 exact ⟨by rw [show wd i = 0 from by (unfold wd; (repeat' split) <;> first | rfl | omega | (exfalso; omega) | (exfalso; simp_all; done) | (simp_all; done) | (exfalso; simp_all; omega))], hw.below⟩
theorem wideI_any (i : It) (h4 : i.kind ≠ 4) (w : World) : Calls Tryz.prog 52 #[.slice none 0 0, itV i] w fun e w' => e = .returned (.int .i64 (wd i)) ∧ Below w.heap.size w w' := by
 go_enter Tryz.func52, Tryz.ntmps52
 refine wk_start ?_
 refine wk_seq ?_
 refine wk_region [1, 0] rfl Kx ?_
 simp only [qy]
 refine Rgn fun g1 => ?_
 refine Zm ?_
 refine rg_nil (ek_next (wk_seq (wk_seq ?_)))
 refine wk_region [0, 0] rfl Kx ?_
 simp only [qy]
 refine Zk ?_
 apply rg_soft
 case hy => (intro w hw; obtain ⟨hcg1, hfg1⟩ := (Kn.hd0 hw).facts; go_simp; (try go_bits); exact Yld.mk _ _)
 simp only [qz]
 refine rg_nil (ek_next (wk_block (wk_seq ?_)))
 refine wk_region [0, 0] rfl Kx ?_
 simp only [qy]
 apply rg_softb
 case hy => (intro w hw; go_simp; (try go_bits); exact Yld.mk _ _)
 intro x h1
 cases x
 ·(try simp only [qd, ne_eq] at h1)
  simp only [qz]
  (try (have h1a := Int.le_of_eq h1; have h1b := Int.le_of_eq h1.symm; clear h1))
  refine Zm ?_; refine rg_nil (ek_next (wk_cond_f rfl (wk_seq (wk_seq ?_)))); refine wk_region [0, 0] rfl Kx ?_; simp only [qy]; apply rg_softb
  case hy => (intro w hw; go_simp; (try go_bits); exact Yld.mk _ _)
  intro x h2; cases x
  ·(try simp only [qd, ne_eq] at h2)
   simp only [qz]
   (try (have h2a := Int.le_of_eq h2; have h2b := Int.le_of_eq h2.symm; clear h2))
   refine Zm ?_; refine rg_nil (ek_next (wk_cond_f rfl ?_)); refine wk_region [0, 0] rfl Kx ?_; simp only [qy]; apply rg_softb
   case hy => (intro w hw; go_simp; (try go_bits); exact Yld.mk _ _)
   intro x h3; cases x
   ·(try simp only [qd, ne_eq] at h3)
    simp only [qz]
    (try (have h3a := Int.le_of_eq h3; have h3b := Int.le_of_eq h3.symm; clear h3))
    refine Zm ?_; refine rg_nil (ek_next (wk_cond_f rfl (wk_seq ?_))); refine wk_region [0, 0] rfl Kx ?_; simp only [qy]; apply rg_softb
    case hy => (intro w hw; go_simp; (try go_bits); exact Yld.mk _ _)
    intro x h4
    obtain rfl : x = false := Kf h4
    clear h4; refine Zm ?_; refine rg_nil (ek_next (wk_cond_f rfl (wk_skip (ek_block (ek_next (wk_seq ?_)))))); refine wk_region [0] rfl Kx ?_; refine Zm ?_; refine rg_nil (ek_next (wk_ret ?_)); refine ek_ret (fun w hw => ⟨rfl, _, res_t _ rfl, ?_⟩); (try simp only [qz])
    exact ⟨by rw [show wd i = 0 from by (unfold wd; (repeat' split) <;> first | rfl | omega | (exfalso; omega) | (exfalso; simp_all; done) | (simp_all; done) | (exfalso; simp_all; omega))], hw.below⟩
   (try simp only [qd, ne_eq] at h3); simp only [qz]
   (try (have h3a := Int.le_of_eq h3; have h3b := Int.le_of_eq h3.symm; clear h3))
   refine Zm ?_; refine rg_nil (ek_next (wk_cond_t rfl (wk_seq ?_))); refine wk_region [0, 0, 0, 0, 0, 0, 0, 0] rfl Kx ?_; simp only [qy]; refine Zk ?_; apply rg_soft
   case hy => (intro w hw; obtain ⟨hcg1, hfg1⟩ := (Kn.hd0 hw).facts; go_simp; (try go_bits); exact Yld.mk _ _)
   simp only [qz]; apply rg_softb
   case hy => (intro w hw; go_simp; (try go_bits); exact Yld.mk _ _)
   intro x h5; cases x
   ·(try simp only [qd, ne_eq] at h5)
    simp only [qz]
    (try (have h5a := Int.le_of_eq h5; have h5b := Int.le_of_eq h5.symm; clear h5))
    refine Zm ?_; refine Zk ?_; refine rg_nil (ek_next (wk_cond_f rfl (wk_skip (ek_block (ek_next (wk_seq ?_)))))); refine wk_region [0] rfl Kx ?_; refine Zm ?_; refine rg_nil (ek_next (wk_ret ?_)); refine ek_ret (fun w hw => ⟨rfl, _, res_t _ rfl, ?_⟩); (try simp only [qz])
    exact ⟨by rw [show wd i = 0 from by (unfold wd; (repeat' split) <;> first | rfl | omega | (exfalso; omega) | (exfalso; simp_all; done) | (simp_all; done) | (exfalso; simp_all; omega))], hw.below⟩
   (try simp only [qd, ne_eq] at h5); simp only [qz]
   (try (have h5a := Int.le_of_eq h5; have h5b := Int.le_of_eq h5.symm; clear h5))
   refine Zm ?_; apply rg_soft_g
   case hg => rfl
   case hy => (intro w hw; go_simp; (try go_bits); exact Yld.mk _ _)
   simp only [qz]; apply rg_soft_g
   case hg => rfl
   case hy => (intro w hw; obtain ⟨hcg1, hfg1⟩ := (Kn.hd0 hw).facts; go_simp; (try go_bits); exact Yld.mk _ _)
   simp only [qz]; apply rg_softb_g
   case hg => rfl
   case hy => (intro w hw; go_simp; (try go_bits); exact Yld.mk _ _)
   intro x h6; cases x
   ·(try simp only [qd, ne_eq] at h6)
    simp only [qz]
    (try (have h6a := Int.le_of_eq h6; have h6b := Int.le_of_eq h6.symm; clear h6))
    refine Zk ?_; refine rg_nil (ek_next (wk_cond_f rfl (wk_skip (ek_block (ek_next (wk_seq ?_)))))); refine wk_region [0] rfl Kx ?_; refine Zm ?_; refine rg_nil (ek_next (wk_ret ?_)); refine ek_ret (fun w hw => ⟨rfl, _, res_t _ rfl, ?_⟩); (try simp only [qz])
    exact ⟨by rw [show wd i = 0 from by (unfold wd; (repeat' split) <;> first | rfl | omega | (exfalso; omega) | (exfalso; simp_all; done) | (simp_all; done) | (exfalso; simp_all; omega))], hw.below⟩
   (try simp only [qd, ne_eq] at h6); simp only [qz]
   (try (have h6a := Int.le_of_eq h6; have h6b := Int.le_of_eq h6.symm; clear h6))
   refine Zk ?_; refine rg_nil (ek_next (wk_cond_t rfl (wk_seq ?_))); refine wk_region [0] rfl Kx ?_; refine Zm ?_; refine rg_nil (ek_next (wk_ret (ek_block_ret (ek_then_ret ?_)))); refine ek_ret (fun w hw => ⟨rfl, _, res_t _ rfl, ?_⟩); (try simp only [qz])
   exact ⟨by rw [show wd i = 2 from by (unfold wd; (repeat' split) <;> first | rfl | omega | (exfalso; omega) | (exfalso; simp_all; done) | (simp_all; done) | (exfalso; simp_all; omega))], hw.below⟩
  (try simp only [qd, ne_eq] at h2); simp only [qz]
  (try (have h2a := Int.le_of_eq h2; have h2b := Int.le_of_eq h2.symm; clear h2))
  refine Zm ?_; refine rg_nil (ek_next (wk_cond_t rfl (wk_skip (ek_next (wk_cond_t rfl (wk_seq ?_)))))); refine wk_region [0, 0, 0, 0, 0, 0, 0, 0] rfl Kx ?_; simp only [qy]; refine Zk ?_; apply rg_soft
  case hy => (intro w hw; obtain ⟨hcg1, hfg1⟩ := (Kn.hd0 hw).facts; go_simp; (try go_bits); exact Yld.mk _ _)
  simp only [qz]; apply rg_softb
  case hy => (intro w hw; go_simp; (try go_bits); exact Yld.mk _ _)
  intro x h7; cases x
  ·(try simp only [qd, ne_eq] at h7)
   simp only [qz]
   (try (have h7a := Int.le_of_eq h7; have h7b := Int.le_of_eq h7.symm; clear h7))
   refine Zm ?_; refine Zk ?_; refine rg_nil (ek_next (wk_cond_f rfl (wk_skip (ek_block (ek_next (wk_seq ?_)))))); refine wk_region [0] rfl Kx ?_; refine Zm ?_; refine rg_nil (ek_next (wk_ret ?_)); refine ek_ret (fun w hw => ⟨rfl, _, res_t _ rfl, ?_⟩); (try simp only [qz])
   exact ⟨by rw [show wd i = 0 from by (unfold wd; (repeat' split) <;> first | rfl | omega | (exfalso; omega) | (exfalso; simp_all; done) | (simp_all; done) | (exfalso; simp_all; omega))], hw.below⟩
  (try simp only [qd, ne_eq] at h7); simp only [qz]
  (try (have h7a := Int.le_of_eq h7; have h7b := Int.le_of_eq h7.symm; clear h7))
  refine Zm ?_; apply rg_soft_g
  case hg => rfl
  case hy => (intro w hw; go_simp; (try go_bits); exact Yld.mk _ _)
  simp only [qz]; apply rg_soft_g
  case hg => rfl
  case hy => (intro w hw; obtain ⟨hcg1, hfg1⟩ := (Kn.hd0 hw).facts; go_simp; (try go_bits); exact Yld.mk _ _)
  simp only [qz]; apply rg_softb_g
  case hg => rfl
  case hy => (intro w hw; go_simp; (try go_bits); exact Yld.mk _ _)
  intro x h8; cases x
  ·(try simp only [qd, ne_eq] at h8)
   simp only [qz]
   (try (have h8a := Int.le_of_eq h8; have h8b := Int.le_of_eq h8.symm; clear h8))
   refine Zk ?_; refine rg_nil (ek_next (wk_cond_f rfl (wk_skip (ek_block (ek_next (wk_seq ?_)))))); refine wk_region [0] rfl Kx ?_; refine Zm ?_; refine rg_nil (ek_next (wk_ret ?_)); refine ek_ret (fun w hw => ⟨rfl, _, res_t _ rfl, ?_⟩); (try simp only [qz])
   exact ⟨by rw [show wd i = 0 from by (unfold wd; (repeat' split) <;> first | rfl | omega | (exfalso; omega) | (exfalso; simp_all; done) | (simp_all; done) | (exfalso; simp_all; omega))], hw.below⟩
  (try simp only [qd, ne_eq] at h8); simp only [qz]
  (try (have h8a := Int.le_of_eq h8; have h8b := Int.le_of_eq h8.symm; clear h8))
  refine Zk ?_; refine rg_nil (ek_next (wk_cond_t rfl (wk_seq ?_))); refine wk_region [0] rfl Kx ?_; refine Zm ?_; refine rg_nil (ek_next (wk_ret (ek_block_ret (ek_then_ret ?_)))); refine ek_ret (fun w hw => ⟨rfl, _, res_t _ rfl, ?_⟩); (try simp only [qz])
  exact ⟨by rw [show wd i = 2 from by (unfold wd; (repeat' split) <;> first | rfl | omega | (exfalso; omega) | (exfalso; simp_all; done) | (simp_all; done) | (exfalso; simp_all; omega))], hw.below⟩
 (try simp only [qd, ne_eq] at h1)
 simp only [qz]
 (try (have h1a := Int.le_of_eq h1; have h1b := Int.le_of_eq h1.symm; clear h1))
 refine Zm ?_
 refine rg_nil (ek_next (wk_cond_t rfl (wk_seq ?_)))
 refine wk_region [0, 0, 0, 0, 0, 0, 0, 0, 0, 0, 0, 0, 0] rfl Kx ?_
 simp only [qy]
 refine Zk ?_
 apply rg_soft
 case hy => (intro w hw; obtain ⟨hcg1, hfg1⟩ := (Kn.hd0 hw).facts; go_simp; (try go_bits); exact Yld.mk _ _)
 simp only [qz]
 apply rg_softb
 case hy => (intro w hw; go_simp; (try go_bits); exact Yld.mk _ _)
 intro x h9
 cases x
 ·(try simp only [qd, ne_eq] at h9)
  simp only [qz]
  (try (have h9a := Int.le_of_eq h9; have h9b := Int.le_of_eq h9.symm; clear h9))
  refine Zm ?_; refine Zk ?_; refine Zk ?_; refine rg_nil (ek_next (wk_cond_f rfl (wk_skip (ek_block (ek_next (wk_seq ?_)))))); refine wk_region [0] rfl Kx ?_; refine Zm ?_; refine rg_nil (ek_next (wk_ret ?_)); refine ek_ret (fun w hw => ⟨rfl, _, res_t _ rfl, ?_⟩); (try simp only [qz])
  exact ⟨by rw [show wd i = 0 from by (unfold wd; (repeat' split) <;> first | rfl | omega | (exfalso; omega) | (exfalso; simp_all; done) | (simp_all; done) | (exfalso; simp_all; omega))], hw.below⟩
 (try simp only [qd, ne_eq] at h9)
 simp only [qz]
 (try (have h9a := Int.le_of_eq h9; have h9b := Int.le_of_eq h9.symm; clear h9))
 refine Zm ?_
 apply rg_soft_g
 case hg => rfl
 case hy => (intro w hw; go_simp; (try go_bits); exact Yld.mk _ _)
 simp only [qz]
 apply rg_soft_g
 case hg => rfl
 case hy => (intro w hw; obtain ⟨hcg1, hfg1⟩ := (Kn.hd0 hw).facts; go_simp; (try go_bits); exact Yld.mk _ _)
 simp only [qz]
 apply rg_softb_g
 case hg => rfl
 case hy => (intro w hw; go_simp; (try go_bits); exact Yld.mk _ _)
 intro x h10
 cases x
 ·(try simp only [qd, ne_eq] at h10)
  simp only [qz]
  (try (have h10a := Int.le_of_eq h10; have h10b := Int.le_of_eq h10.symm; clear h10))
  refine Zk ?_; refine Zk ?_; refine rg_nil (ek_next (wk_cond_f rfl (wk_skip (ek_block (ek_next (wk_seq ?_)))))); refine wk_region [0] rfl Kx ?_; refine Zm ?_; refine rg_nil (ek_next (wk_ret ?_)); refine ek_ret (fun w hw => ⟨rfl, _, res_t _ rfl, ?_⟩); (try simp only [qz])
  exact ⟨by rw [show wd i = 0 from by (unfold wd; (repeat' split) <;> first | rfl | omega | (exfalso; omega) | (exfalso; simp_all; done) | (simp_all; done) | (exfalso; simp_all; omega))], hw.below⟩
 (try simp only [qd, ne_eq] at h10)
 simp only [qz]
 (try (have h10a := Int.le_of_eq h10; have h10b := Int.le_of_eq h10.symm; clear h10))
 refine Zk ?_
 apply rg_soft_g
 case hg => rfl
 case hy => (intro w hw; go_simp; (try go_bits); exact Yld.mk _ _)
 simp only [qz]
 apply rg_soft_g
 case hg => rfl
 case hy => (intro w hw; obtain ⟨hcg1, hfg1⟩ := (Kn.hd0 hw).facts; go_simp; (try go_bits); exact Yld.mk _ _)
 simp only [qz]
 apply rg_softb_g
 case hg => rfl
 case hy => (intro w hw; go_simp; (try go_bits); exact Yld.mk _ _)
 intro x h11
 cases x
 ·(try simp only [qd, ne_eq] at h11)
  simp only [qz]
  (try (have h11a := Int.le_of_eq h11; have h11b := Int.le_of_eq h11.symm; clear h11))
  refine Zk ?_; refine rg_nil (ek_next (wk_cond_f rfl (wk_skip (ek_block (ek_next (wk_seq ?_)))))); refine wk_region [0] rfl Kx ?_; refine Zm ?_; refine rg_nil (ek_next (wk_ret ?_)); refine ek_ret (fun w hw => ⟨rfl, _, res_t _ rfl, ?_⟩); (try simp only [qz])
  exact ⟨by rw [show wd i = 0 from by (unfold wd; (repeat' split) <;> first | rfl | omega | (exfalso; omega) | (exfalso; simp_all; done) | (simp_all; done) | (exfalso; simp_all; omega))], hw.below⟩
 (try simp only [qd, ne_eq] at h11)
 simp only [qz]
 (try (have h11a := Int.le_of_eq h11; have h11b := Int.le_of_eq h11.symm; clear h11))
 refine Zk ?_
 refine rg_nil (ek_next (wk_cond_t rfl (wk_seq ?_)))
 refine wk_region [0] rfl Kx ?_
 refine Zm ?_
 refine rg_nil (ek_next (wk_ret (ek_block_ret (ek_then_ret ?_))))
 refine ek_ret (fun w hw => ⟨rfl, _, res_t _ rfl, ?_⟩)
 (try simp only [qz])
 exact ⟨by rw [show wd i = 1 from by (unfold wd; (repeat' split) <;> first | rfl | omega | (exfalso; omega) | (exfalso; simp_all; done) | (simp_all; done) | (exfalso; simp_all; omega))], hw.below⟩
theorem fits1_any (i : It) (n : Int) (hn : 1 ≤ n ∧ n ≤ 6) (g2 g3 : Nat) (w : World) (H2 : Hd w g2 141 #[.map none]) (H3 : Hd w g3 3 #[.int .i64 n]) : Calls Tryz.prog 105 #[itV i, .pointer (some ⟨g2, 0, none⟩), .pointer (some ⟨g3, 0, none⟩)] w fun e w' => e = .returned (.bool (!fitB n i)) ∧ Below w.heap.size w w' := by
 have hwd := wd_range i
 go_enter Tryz.func105, Tryz.ntmps105
 refine wk_start ?_
 refine wk_seq ?_
 refine wk_region [1, 0] rfl Kx ?_
 simp only [qy]
 refine Rgn fun g1 => ?_
 refine Zm ?_
 refine rg_nil (ek_next (wk_seq ?_))
 refine wk_region [0, 0, 1, 0] rfl Kx ?_
 simp only [qy]
 apply rg_soft
 case hy => (intro w hw; obtain ⟨hcg1, hfg1⟩ := (Kn.hd0 hw).facts; have hwd := wd_range i; go_simp; (try go_bits); exact Yld.mk _ _)
 simp only [qz]
 apply rg_soft
 case hy => (intro w hw; obtain ⟨hcM, hfM⟩ := (hw.hdB H2 (by simp)).facts; have hwd := wd_range i; go_simp; (try go_bits); exact Yld.mk _ _)
 simp only [qz]
 apply rg_pure Rx Kx
 case hargs => exact Ax
 case h => exact fun w hw => width_any i w
 case hz => exact Nz
 refine Zm ?_
 refine rg_nil (ek_next (wk_seq ?_))
 refine wk_region [0, 0, 0, 0, 0, 0, 0, 0, 0, 1, 0, 0, 0] rfl Kx ?_
 refine Zm ?_
 apply rg_softb
 case hy => (intro w hw; have hwd := wd_range i; go_simp; (try go_bits); exact Yld.mk _ _)
 intro x h1
 cases x
 ·(try simp only [qd, ne_eq] at h1)
  simp only [qz]
  (try (have h1a := Int.le_of_eq h1; have h1b := Int.le_of_eq h1.symm; clear h1))
  refine Zm ?_; apply rg_soft_g
  case hg => rfl
  case hy => (intro w hw; have hwd := wd_range i; go_simp; (try go_bits); exact Yld.mk _ _)
  simp only [qz]; apply rg_soft_g
  case hg => rfl
  case hy => (intro w hw; obtain ⟨hcg1, hfg1⟩ := (Kn.hd0 hw).facts; have hwd := wd_range i; go_simp; (try go_bits); exact Yld.mk _ _)
  simp only [qz]; apply rg_soft_g
  case hg => rfl
  case hy => (intro w hw; obtain ⟨hcN, hfN⟩ := (hw.hdB H3 (by simp)).facts; have hwd := wd_range i; go_simp; (try go_bits); exact Yld.mk _ _)
  simp only [qz]; apply rg_soft_g
  case hg => rfl
  case hy => (intro w hw; have hwd := wd_range i; go_simp; (try go_bits); exact Yld.mk _ _)
  simp only [qz]; apply rg_soft_g
  case hg => rfl
  case hy => (intro w hw; have hwd := wd_range i; go_simp; (try go_bits); exact Yld.mk _ _)
  simp only [qz]; apply rg_soft_g
  case hg => rfl
  case hy => (intro w hw; have hwd := wd_range i; go_simp; (try go_bits); exact Yld.mk _ _)
  simp only [qz]; apply rg_pureb Rx Kx
  case hargs => exact Ax
  case h => exact fun w hw => between_mesh 1 i.at_ (n - wd i + 1) w
  case hz => exact Nz
  intro x h2; cases x
  ·(try simp only [qd, ne_eq] at h2)
   simp only [qz]
   have hb18 := betB_false h2
   clear h2; apply rg_soft_g
   case hg => rfl
   case hy => (intro w hw; have hwd := wd_range i; go_simp; (try go_bits); exact Yld.mk _ _)
   simp only [qz]; apply rg_soft
   case hy => (intro w hw; have hwd := wd_range i; go_simp; (try go_bits); exact Yld.mk _ _)
   refine Zm ?_; refine rg_nil (ek_next (wk_ret ?_)); refine ek_ret (fun w hw => ⟨rfl, _, res_t _ rfl, ?_⟩); (try simp only [qz])
   exact ⟨by (congr 2; symm; show (!fitB n i) = _; first | (rw [show fitB n i = true from decide_eq_true ⟨by omega, by omega, by omega⟩]; rfl) | (rw [show fitB n i = false from decide_eq_false (fun h => by omega)]; rfl)), hw.below⟩
  (try simp only [qd, ne_eq] at h2); simp only [qz]
  have hb18 := betB_true h2
  clear h2; apply rg_soft_g
  case hg => rfl
  case hy => (intro w hw; have hwd := wd_range i; go_simp; (try go_bits); exact Yld.mk _ _)
  simp only [qz]; apply rg_soft
  case hy => (intro w hw; have hwd := wd_range i; go_simp; (try go_bits); exact Yld.mk _ _)
  refine Zm ?_; refine rg_nil (ek_next (wk_ret ?_)); refine ek_ret (fun w hw => ⟨rfl, _, res_t _ rfl, ?_⟩); (try simp only [qz])
  exact ⟨by (congr 2; symm; show (!fitB n i) = _; first | (rw [show fitB n i = true from decide_eq_true ⟨by omega, by omega, by omega⟩]; rfl) | (rw [show fitB n i = false from decide_eq_false (fun h => by omega)]; rfl)), hw.below⟩
 (try simp only [qd, ne_eq] at h1)
 simp only [qz]
 (try (have h1a := Int.le_of_eq h1; have h1b := Int.le_of_eq h1.symm; clear h1))
 refine Zm ?_
 refine rg_skip_h Rx Nz ?_
 refine Zm ?_
 apply rg_soft
 case hy => (intro w hw; have hwd := wd_range i; go_simp; (try go_bits); exact Yld.mk _ _)
 refine Zm ?_
 refine rg_nil (ek_next (wk_ret ?_))
 refine ek_ret (fun w hw => ⟨rfl, _, res_t _ rfl, ?_⟩)
 (try simp only [qz])
 exact ⟨by (congr 2; symm; show (!fitB n i) = _; first | (rw [show fitB n i = true from decide_eq_true ⟨by omega, by omega, by omega⟩]; rfl) | (rw [show fitB n i = false from decide_eq_false (fun h => by omega)]; rfl)), hw.below⟩
theorem fits_any (xs : List It) (a : Option Addr) (c : Nat) (n : Int) (hn : 1 ≤ n ∧ n ≤ 6) (hl : xs.length ≤ 100000) (w : World) (hA : AS w a (its xs)) : Calls Tryz.prog 86 #[.int .i64 n, slV a xs.length c, .map none] w fun e w' => e = .returned (.bool (xs.all (fitB n))) ∧ Below w.heap.size w w' := by
 go_enter Tryz.func86, Tryz.ntmps86
 refine wk_start ?_
 refine wk_seq ?_
 refine wk_region [1, 1, 0] rfl Kx ?_
 simp only [qy]
 refine Rgn fun g1 => ?_
 simp only [qz]
 refine Rgn fun g2 => ?_
 refine Zm ?_
 refine rg_nil (ek_next (wk_seq ?_))
 refine wk_region [0, 0, 1, 0, 0] rfl Kx ?_
 refine Zm ?_
 refine Zk ?_
 apply rg_pure Rx Kx
 case hargs => exact Ax
 case h => exact fun w hw => contains_any xs a c (fun i => !fitB n i) 105 #[.pointer (some ⟨g2, 0, none⟩), .pointer (some ⟨g1, 0, none⟩)] hl Kx w (hA.kn0 hw) (fun w' hb i hi => fits1_any i n hn g2 g1 w' (Kn.hd0 (hw.call hb)) (Kn.hd0 (Kn.tl (hw.call hb))))
 case hz => exact Nz
 simp only [qz]
 refine Zk ?_
 refine rg_nil (ek_next (wk_ret ?_))
 refine ek_ret (fun w hw => ⟨rfl, _, res_t _ rfl, ?_⟩)
 (try simp only [qz])
 exact ⟨by rw [List.all_eq_not_any_not], hw.below⟩
theorem wd_four {i : It} (h : i.kind = 4) : wd i = 0 := by unfold wd; rw [if_neg Ox, if_neg Ox]
theorem fitB_true {n : Int} {i : It} (h : wd i ≠ 0 ∧ 1 ≤ i.at_ ∧ i.at_ ≤ n - wd i + 1) : fitB n i = true := decide_eq_true h
theorem fitB_false {n : Int} {i : It} (h : ¬ (wd i ≠ 0 ∧ 1 ≤ i.at_ ∧ i.at_ ≤ n - wd i + 1)) : fitB n i = false := decide_eq_false h
theorem mem_it {xs : List It} {x : It} (h : x ∈ xs) : ∃ j, j < xs.length ∧ it xs j = x := by
  obtain ⟨j, hj, e⟩ := List.getElem_of_mem h
  exact ⟨j, hj, by unfold it; rw [List.getD_eq_getElem?_getD, List.getElem?_eq_getElem hj]; exact e⟩
theorem all_it {p : It → Bool} {xs : List It} (h : ∀ j, j < xs.length → p (it xs j) = true) : xs.all p = true := by
  rw [List.all_eq_true]; intro x hx; obtain ⟨j, hj, rfl⟩ := mem_it hx; exact h j hj
theorem not_all_it {p : It → Bool} {xs : List It} {k : Nat} (hk : k < xs.length) (h : p (it xs k) = false) : xs.all p = false := by
  rw [← Bool.not_eq_true, List.all_eq_true]; intro hh; rw [hh _ (it_mem hk)] at h; cases h
theorem validI_true {n : Int} {xs : List It} (h1 : 1 ≤ n) (h2 : n ≤ 6) (h3 : xs.length ≤ 5000) (h4 : xs.all (fitB n) = true) : validI n xs = true := by
  unfold validI; rw [h4]; simp [h1, h2, h3]
theorem validB_false {n : Int} {xs : List It} (h : ¬ (1 ≤ n ∧ n ≤ 6 ∧ xs.length ≤ 5000 ∧ xs.all (fitB n) = true)) : validI n xs = false := by
 unfold validI
 rw [← Bool.not_eq_true]
 intro hh
 simp only [Bool.and_eq_true, decide_eq_true_eq] at hh
 exact h ⟨hh.1.1, hh.1.2, hh.2.1, hh.2.2⟩
theorem validB_all {n : Int} {xs : List It} (h : validI n xs = true) : 1 ≤ n ∧ n ≤ 6 ∧ xs.length ≤ 5000 ∧ ∀ j, j < xs.length → fitB n (it xs j) = true := by
 unfold validI at h
 simp only [Bool.and_eq_true, decide_eq_true_eq] at h
 exact ⟨h.1.1, h.1.2, h.2.1, fun j hj => (List.all_eq_true.1 h.2.2) _ (it_mem hj)⟩
def itemE (n : Int) (xs : List It) : Int := if 1 ≤ n ∧ n ≤ 6 then (if validI n xs = true then 0 else 31) else 2
theorem mvalidI_any (xs : List It) (a : Option Addr) (c : Nat) (n : Int) (w : World) (hA : AS w a (its xs)) : Calls Tryz.prog 54 #[.int .i64 n, slV a xs.length c] w fun e w' => e = .returned (.bool (validI n xs)) ∧ Below w.heap.size w w' := by
 go_enter Tryz.func54, Tryz.ntmps54
 refine wk_start ?_
 refine wk_seq ?_
 refine wk_region [0] rfl Kx ?_
 refine Zm ?_
 refine rg_nil (ek_next (wk_seq ?_))
 refine wk_region [0, 1, 0, 0, 0, 0, 0, 0, 0, 0, 1, 0, 0] rfl Kx ?_
 refine Zm ?_
 apply rg_pureb Rx Kx
 case hargs => exact Ax
 case h => exact fun w hw => between_mesh 1 n 6 w
 case hz => exact Nz
 intro x h1
 cases x
 ·(try simp only [qd, ne_eq] at h1)
  simp only [qz]
  have hb6 := betB_false h1
  clear h1; refine Zm ?_; refine Zk ?_; refine rg_skip_h Rx Nz ?_; simp only [qz]; refine Zk ?_; refine rg_nil (ek_next (wk_ret ?_)); refine ek_ret (fun w hw => ⟨rfl, _, res_t _ rfl, ?_⟩); (try simp only [qz])
  exact ⟨by rw [show validI n xs = false from validB_false (fun h => by omega)], hw.below⟩
 (try simp only [qd, ne_eq] at h1)
 simp only [qz]
 have hb6 := betB_true h1
 clear h1
 refine Zm ?_
 apply rg_soft_g
 case hg => rfl
 case hy => (intro w hw; go_simp; (try go_bits); exact Yld.mk _ _)
 simp only [qz]
 apply rg_soft_g
 case hg => rfl
 case hy => (intro w hw; go_simp; (try go_bits); exact Yld.mk _ _)
 simp only [qz]
 apply rg_softb_g
 case hg => rfl
 case hy => (intro w hw; go_simp; (try go_bits); exact Yld.mk _ _)
 intro x h2
 cases x
 ·(try simp only [qd, ne_eq] at h2)
  simp only [qz]; refine Zk ?_; refine rg_skip_h Rx Nz ?_; simp only [qz]; refine Zk ?_; refine rg_nil (ek_next (wk_ret ?_)); refine ek_ret (fun w hw => ⟨rfl, _, res_t _ rfl, ?_⟩); (try simp only [qz])
  exact ⟨by rw [show validI n xs = false from validB_false (fun h => by omega)], hw.below⟩
 (try simp only [qd, ne_eq] at h2)
 simp only [qz]
 refine Zk ?_
 apply rg_soft_g
 case hg => rfl
 case hy => (intro w hw; go_simp; (try go_bits); exact Yld.mk _ _)
 simp only [qz]
 apply rg_soft_g
 case hg => rfl
 case hy => (intro w hw; go_simp; (try go_bits); exact Yld.mk _ _)
 simp only [qz]
 apply rg_pure Rx Kx
 case hargs => exact Ax
 case h => exact fun w hw => fits_any xs a c n hb6 Ox w (hA.kn0 hw)
 case hz => exact Nz
 simp only [qz]
 refine Zk ?_
 refine rg_nil (ek_next (wk_ret ?_))
 refine ek_ret (fun w hw => ⟨rfl, _, res_t _ rfl, ?_⟩)
 (try simp only [qz])
 exact ⟨by (congr 2; unfold validI; rw [show decide (1 ≤ n ∧ n ≤ 6) = true from decide_eq_true hb6, show decide (xs.length ≤ 5000) = true from decide_eq_true Ox]; rfl), hw.below⟩
theorem placed_any (i : It) (h4 : i.kind ≠ 4) (n : Int) (hn : 1 ≤ n ∧ n ≤ 6) (w : World) : Calls Tryz.prog 25 #[.slice none 0 0, .int .i64 n, itV i] w fun e w' => e = .returned (.bool (fitB n i)) ∧ Below w.heap.size w w' := by
 have hwd := wd_range i
 go_enter Tryz.func25, Tryz.ntmps25
 refine wk_start ?_
 refine wk_seq ?_
 refine wk_region [1, 0] rfl Kx ?_
 simp only [qy]
 refine Rgn fun g1 => ?_
 refine Zm ?_
 refine rg_nil (ek_next (wk_seq ?_))
 refine wk_region [0, 0, 1, 0] rfl Kx ?_
 refine Zm ?_
 apply rg_soft
 case hy => (intro w hw; obtain ⟨hcg1, hfg1⟩ := (Kn.hd0 hw).facts; go_simp; (try go_bits); exact Yld.mk _ _)
 simp only [qz]
 apply rg_pure Rx Kx
 case hargs => exact Ax
 case h => exact fun w hw => wideI_any i h4 w
 case hz => exact Nz
 refine Zm ?_
 refine rg_nil (ek_next (wk_seq ?_))
 refine wk_region [0, 0, 0, 0, 0, 0, 0, 0, 0, 0, 0, 0, 0, 0, 0, 0, 0, 0, 0, 0, 0, 0, 0] rfl Kx ?_
 refine Zm ?_
 apply rg_softb
 case hy => (intro w hw; go_simp; (try go_bits); exact Yld.mk _ _)
 intro x h1
 cases x
 ·(try simp only [qd, ne_eq] at h1)
  refine Zm ?_; refine Zk ?_; refine Zk ?_; refine Zk ?_; refine rg_nil (ek_next (wk_ret ?_)); refine ek_ret (fun w hw => ⟨rfl, _, res_t _ rfl, ?_⟩); (try simp only [qz])
  exact ⟨by (congr 2; symm; first | exact fitB_true ⟨by omega, by omega, by omega⟩ | exact fitB_false (fun h => by omega) | (simp only [fitB]; exact decide_eq_decide.2 Ox)), hw.below⟩
 (try simp only [qd, ne_eq] at h1)
 refine Zm ?_
 apply rg_soft_g
 case hg => rfl
 case hy => (intro w hw; go_simp; (try go_bits); exact Yld.mk _ _)
 simp only [qz]
 apply rg_soft_g
 case hg => rfl
 case hy => (intro w hw; obtain ⟨hcg1, hfg1⟩ := (Kn.hd0 hw).facts; go_simp; (try go_bits); exact Yld.mk _ _)
 simp only [qz]
 apply rg_softb_g
 case hg => rfl
 case hy => (intro w hw; go_simp; (try go_bits); exact Yld.mk _ _)
 intro x h2
 cases x
 ·(try simp only [qd, ne_eq] at h2)
  simp only [qz]; refine Zk ?_; refine Zk ?_; refine Zk ?_; refine rg_nil (ek_next (wk_ret ?_)); refine ek_ret (fun w hw => ⟨rfl, _, res_t _ rfl, ?_⟩); (try simp only [qz])
  exact ⟨by (congr 2; symm; first | exact fitB_true ⟨by omega, by omega, by omega⟩ | exact fitB_false (fun h => by omega) | (simp only [fitB]; exact decide_eq_decide.2 Ox)), hw.below⟩
 (try simp only [qd, ne_eq] at h2)
 simp only [qz]
 refine Zk ?_
 apply rg_soft_g
 case hg => rfl
 case hy => (intro w hw; go_simp; (try go_bits); exact Yld.mk _ _)
 simp only [qz]
 apply rg_soft_g
 case hg => rfl
 case hy => (intro w hw; obtain ⟨hcg1, hfg1⟩ := (Kn.hd0 hw).facts; go_simp; (try go_bits); exact Yld.mk _ _)
 simp only [qz]
 apply rg_soft_g
 case hg => rfl
 case hy => (intro w hw; go_simp; (try go_bits); exact Yld.mk _ _)
 simp only [qz]
 apply rg_softb_g
 case hg => rfl
 case hy => (intro w hw; go_simp; (try go_bits); exact Yld.mk _ _)
 intro x h3
 cases x
 ·(try simp only [qd, ne_eq] at h3)
  simp only [qz]; refine Zk ?_; refine Zk ?_; refine rg_nil (ek_next (wk_ret ?_)); refine ek_ret (fun w hw => ⟨rfl, _, res_t _ rfl, ?_⟩); (try simp only [qz])
  exact ⟨by (congr 2; symm; first | exact fitB_true ⟨by omega, by omega, by omega⟩ | exact fitB_false (fun h => by omega) | (simp only [fitB]; exact decide_eq_decide.2 Ox)), hw.below⟩
 (try simp only [qd, ne_eq] at h3)
 simp only [qz]
 refine Zk ?_
 apply rg_soft_g
 case hg => rfl
 case hy => (intro w hw; go_simp; (try go_bits); exact Yld.mk _ _)
 simp only [qz]
 apply rg_soft_g
 case hg => rfl
 case hy => (intro w hw; obtain ⟨hcg1, hfg1⟩ := (Kn.hd0 hw).facts; go_simp; (try go_bits); exact Yld.mk _ _)
 simp only [qz]
 apply rg_soft_g
 case hg => rfl
 case hy => (intro w hw; go_simp; (try go_bits); exact Yld.mk _ _)
 simp only [qz]
 apply rg_soft_g
 case hg => rfl
 case hy => (intro w hw; go_simp; (try go_bits); exact Yld.mk _ _)
 simp only [qz]
 apply rg_soft_g
 case hg => rfl
 case hy => (intro w hw; go_simp; (try go_bits); exact Yld.mk _ _)
 simp only [qz]
 apply rg_soft_g
 case hg => rfl
 case hy => (intro w hw; go_simp; (try go_bits); exact Yld.mk _ _)
 simp only [qz]
 apply rg_soft_g
 case hg => rfl
 case hy => (intro w hw; go_simp; (try go_bits); exact Yld.mk _ _)
 simp only [qz]
 refine Zk ?_
 refine rg_nil (ek_next (wk_ret ?_))
 refine ek_ret (fun w hw => ⟨rfl, _, res_t _ rfl, ?_⟩)
 (try simp only [qz])
 exact ⟨by (congr 2; symm; first | exact fitB_true ⟨by omega, by omega, by omega⟩ | exact fitB_false (fun h => by omega) | (simp only [fitB]; exact decide_eq_decide.2 Ox)), hw.below⟩
theorem rvalidItems_any (xs : List It) (a : Option Addr) (c : Nat) (n : Int) (w : World) (hA : AS w a (its xs)) : Calls Tryz.prog 8 #[.int .i64 n, slV a xs.length c] w fun e w' => e = .returned (.bool (validI n xs)) ∧ Below w.heap.size w w' := by
 go_enter Tryz.func8, Tryz.ntmps8
 refine wk_start ?_
 refine wk_seq ?_
 refine wk_region [0] rfl Kx ?_
 refine Zm ?_
 refine rg_nil (ek_next (wk_seq (wk_seq ?_)))
 refine wk_region [0, 0, 0, 0, 0, 0, 0, 0, 0, 0, 0] rfl Kx ?_
 refine Zm ?_
 apply rg_softb
 case hy => (intro w hw; go_simp; (try go_bits); exact Yld.mk _ _)
 intro x h1
 cases x
 ·(try simp only [qd, ne_eq] at h1)
  refine Zm ?_; apply rg_soft_g
  case hg => rfl
  case hy => (intro w hw; go_simp; (try go_bits); exact Yld.mk _ _)
  simp only [qz]; apply rg_softb_g
  case hg => rfl
  case hy => (intro w hw; go_simp; (try go_bits); exact Yld.mk _ _)
  intro x h2; cases x
  ·(try simp only [qd, ne_eq] at h2)
   simp only [qz]; refine Zk ?_; apply rg_soft_g
   case hg => rfl
   case hy => (intro w hw; go_simp; (try go_bits); exact Yld.mk _ _)
   simp only [qz]; apply rg_soft_g
   case hg => rfl
   case hy => (intro w hw; go_simp; (try go_bits); exact Yld.mk _ _)
   simp only [qz]; apply rg_softb_g
   case hg => rfl
   case hy => (intro w hw; go_simp; (try go_bits); exact Yld.mk _ _)
   intro x h3; cases x
   ·(try simp only [qd, ne_eq] at h3)
    simp only [qz]; refine Zk ?_; refine rg_nil (ek_next (wk_cond_f rfl (wk_skip (ek_next (wk_seq (wk_seq ?_)))))); refine wk_region [0, 0, 0] rfl Kx ?_; refine Zm ?_; refine Zk ?_; refine rg_nil (ek_next (wk_block ?_)); refine wk_loopS [4, 6, 20, 21, 22, 23, 24, 25, 26, 27, 28, 29, 30, 31, 32, 33] (fun mz vs s => ∃ (k : Nat) (j6 j21 j22 j23 j24 j25 j26 j27 j28 j29 j30 j31 j32 j33 : Value), vs = [.bool false, j6, .int .i64 k, j21, j22, j23, j24, j25, j26, j27, j28, j29, j30, j31, j32, j33] ∧ s = [] ∧ mz = xs.length - k ∧ k ≤ xs.length ∧ ∀ j, j < k → fitB n (it xs j) = true) ((fun (k : Nat) => xs.length - k) (0)) ?_ Kx ?_
    ·dsimp only [Act.vals, List.map, Array.getD, List.size_toArray, List.length_cons, List.length_nil, Nat.reduceAdd, Nat.reduceLT, ↓reduceDIte, Array.getInternal, List.getElem_toArray, List.getElem_cons_zero, List.getElem_cons_succ]
     exact ⟨0, _, _, _, _, _, _, _, _, _, _, _, _, _, _, rfl, rfl, rfl, by omega, fun i hi => by omega⟩
    rintro mz vs s ⟨k, j6, j21, j22, j23, j24, j25, j26, j27, j28, j29, j30, j31, j32, j33, rfl, rfl, hn, hc1, hc2⟩
    simp only [Act.puts, Act.vals, List.zip_cons_cons, List.zip_nil_right, List.foldl_cons, List.foldl_nil, List.map_cons, List.map_nil, Act.put, Act.eval, List.setIfInBounds_toArray, List.set_cons_zero, List.set_cons_succ, Array.getD_eq_getD_getElem?, List.getElem?_toArray, List.getElem?_cons_zero, List.getElem?_cons_succ, Option.getD_some]; refine wk_seq ?_; refine wk_region [0] rfl Kx ?_; simp only [qy]; apply rg_softb
    case hy => (intro w hw; go_simp; (try go_bits); exact Yld.mk _ _)
    intro x h4; cases x
    ·(try simp only [qd, ne_eq] at h4)
     simp only [qz]; refine rg_nil (ek_next (wk_seq (wk_cond_f rfl (wk_exit (ek_then_exit (ek_then_exit (ek_block_exit (ek_next (wk_seq ?_))))))))); refine wk_region [0] rfl Kx ?_; refine Zm ?_; refine rg_nil (ek_next (wk_ret ?_)); refine ek_ret (fun w hw => ⟨rfl, _, res_t _ rfl, ?_⟩); (try simp only [qz])
     exact ⟨by rw [show validI n xs = true from validI_true Ox Ox Ox (all_it (fun j hj => hc2 j Ox))], hw.below⟩
    (try simp only [qd, ne_eq] at h4); simp only [qz]
    obtain ⟨b, off, rfl, hlt, hcell⟩ := AS.openT hA Ox
    have hck := hcell k Ox
    refine rg_nil (ek_next (wk_seq (wk_cond_t rfl (wk_skip (ek_next (wk_seq (wk_block (wk_seq ?_)))))))); refine wk_region [0, 0, 1, 1] rfl Kx ?_; simp only [qy]; refine Zk ?_; apply rg_soft
    case hy => (intro w hw; obtain ⟨hi0, hi1, hi2, hi3⟩ := hck.kn hw hlt (by simp); go_simp; (try go_bits); exact Yld.mk _ _)
    simp only [qz]
    refine Rgn fun g1 => ?_
    simp only [qz]; apply rg_store
    case hr => (intro w hw; obtain ⟨hcg1, hfg1⟩ := (Kn.hd0 hw).facts; refine ⟨_, by (go_simp; (try go_bits); exact Dne.mk _), ?_⟩; repeat (first | with_reducible exact hw | with_reducible apply Kn.put (Upd.here _ _ _)))
    case hz => (intro z hz; cases hz)
    simp only [qz]; refine rg_nil (ek_next (wk_seq ?_)); refine wk_region [0, 0, 0, 0, 0, 0, 1, 0, 0] rfl Kx ?_; simp only [qy]; refine Zk ?_; apply rg_soft
    case hy => (intro w hw; obtain ⟨hcg1, hfg1⟩ := (Kn.hd0 hw).facts; go_simp; (try go_bits); exact Yld.mk _ _)
    simp only [qz]; apply rg_softb
    case hy => (intro w hw; go_simp; (try go_bits); exact Yld.mk _ _)
    intro x h5; cases x
    ·(try simp only [qd, ne_eq] at h5)
     simp only [qz]
     have hk4 := Lib.hid (show (it xs k).kind ≠ 4 by omega)
     clear h5; refine Zm ?_; apply rg_soft_g
     case hg => rfl
     case hy => (intro w hw; go_simp; (try go_bits); exact Yld.mk _ _)
     simp only [qz]; apply rg_soft_g
     case hg => rfl
     case hy => (intro w hw; obtain ⟨hcg1, hfg1⟩ := (Kn.hd0 hw).facts; go_simp; (try go_bits); exact Yld.mk _ _)
     simp only [qz]; apply rg_pureb Rx Kx
     case hargs => exact Ax
     case h => exact fun w hw => placed_any (it xs k) hk4.out n ⟨by omega, by omega⟩ w
     case hz => exact Nz
     intro x h6; cases x
     ·(try simp only [qd, ne_eq] at h6)
      simp only [qz]; apply rg_soft_g
      case hg => rfl
      case hy => (intro w hw; go_simp; (try go_bits); exact Yld.mk _ _)
      simp only [qz]; refine Zk ?_; refine rg_nil (ek_next (wk_cond_t rfl (wk_seq ?_))); refine wk_region [0] rfl Kx ?_; refine Zm ?_; refine rg_nil (ek_next (wk_ret (ek_block_ret (ek_then_ret (ek_then_ret (ek_block_ret (ek_then_ret ?_))))))); refine ek_ret (fun w hw => ⟨rfl, _, res_t _ rfl, ?_⟩); (try simp only [qz])
      exact ⟨by rw [show validI n xs = false from validB_false (fun hh => by rw [not_all_it Ox h6] at hh; exact absurd hh.2.2.2 (by decide))], hw.below⟩
     (try simp only [qd, ne_eq] at h6); simp only [qz]; apply rg_soft_g
     case hg => rfl
     case hy => (intro w hw; go_simp; (try go_bits); exact Yld.mk _ _)
     simp only [qz]; refine Zk ?_; refine rg_nil (ek_next (wk_cond_f rfl (wk_skip (ek_block (ek_next ?_))))); refine wk_region [0, 0] rfl Kx ?_; simp only [qy]; refine Zk ?_; refine rg_nil ?_; refine ek_sub (List.Sublist.cons _ List.Sublist.slnil) ?_; refine ek_roundS (xs.length - (k + 1)) Ox Kx ?_
     dsimp only [Act.vals, List.map, Array.getD, List.size_toArray, List.length_cons, List.length_nil, Nat.reduceAdd, Nat.reduceLT, ↓reduceDIte, Array.getInternal, List.getElem_toArray, List.getElem_cons_zero, List.getElem_cons_succ]
     exact ⟨k + 1, _, _, _, _, _, _, _, _, _, _, _, _, _, _, by rfl, by rfl, by rfl, by omega, fun j hj => if e : j = k then e ▸ h6 else hc2 j Ox⟩
    (try simp only [qd, ne_eq] at h5); refine Zm ?_; refine rg_skip_h Rx Nz ?_; refine Zm ?_; refine Zk ?_; refine rg_nil (ek_next (wk_cond_t rfl (wk_seq ?_))); refine wk_region [0] rfl Kx ?_; refine Zm ?_; refine rg_nil (ek_next (wk_ret (ek_block_ret (ek_then_ret (ek_then_ret (ek_block_ret (ek_then_ret ?_))))))); refine ek_ret (fun w hw => ⟨rfl, _, res_t _ rfl, ?_⟩); (try simp only [qz])
    exact ⟨by rw [show validI n xs = false from validB_false (fun h => by rw [not_all_it Ox (fitB_false (fun h => h.1 (wd_four h5)))] at h; exact absurd h.2.2.2 (by decide))], hw.below⟩
   (try simp only [qd, ne_eq] at h3); simp only [qz]; refine Zk ?_; refine rg_nil (ek_next (wk_cond_t rfl (wk_seq ?_))); refine wk_region [0] rfl Kx ?_; refine Zm ?_; refine rg_nil (ek_next (wk_ret (ek_then_ret ?_))); refine ek_ret (fun w hw => ⟨rfl, _, res_t _ rfl, ?_⟩); (try simp only [qz])
   exact ⟨by rw [show validI n xs = false from validB_false (fun h => by omega)], hw.below⟩
  (try simp only [qd, ne_eq] at h2); simp only [qz]; refine Zk ?_; refine Zk ?_; refine rg_nil (ek_next (wk_cond_t rfl (wk_seq ?_))); refine wk_region [0] rfl Kx ?_; refine Zm ?_; refine rg_nil (ek_next (wk_ret (ek_then_ret ?_))); refine ek_ret (fun w hw => ⟨rfl, _, res_t _ rfl, ?_⟩); (try simp only [qz])
  exact ⟨by rw [show validI n xs = false from validB_false (fun h => by omega)], hw.below⟩
 (try simp only [qd, ne_eq] at h1)
 refine Zm ?_
 refine Zk ?_
 refine Zk ?_
 refine rg_nil (ek_next (wk_cond_t rfl (wk_seq ?_)))
 refine wk_region [0] rfl Kx ?_
 refine Zm ?_
 refine rg_nil (ek_next (wk_ret (ek_then_ret ?_)))
 refine ek_ret (fun w hw => ⟨rfl, _, res_t _ rfl, ?_⟩)
 (try simp only [qz])
 exact ⟨by rw [show validI n xs = false from validB_false (fun h => by omega)], hw.below⟩
theorem and7 (x : Int) : bits .and .i64 x 7 = x % 8 := by
 show IntKind.i64.wrap ((BitVec.ofInt 64 x &&& BitVec.ofInt 64 7).toNat : Int) = _
 have h1 : (BitVec.ofInt 64 (7 : Int)).toNat = 2 ^ 3 - 1 := by decide
 rw [BitVec.toNat_and, h1, Nat.and_two_pow_sub_one_eq_mod, BitVec.toNat_ofInt, IntKind.wrap_i64]
 omega
def Nm.turn : Nat → Nm → Nm
  | 0, z => z
  | n + 1, z => (Nm.turn n z).rot
theorem amchanged_ok (z r : Nm) (hz : z.Ok) (f : Nat) (caps : Array Value) (hgo : isGo Tryz.prog f = true) (w : World) (hf : ∀ w', Below w.heap.size w w' → Calls Tryz.prog f (#[nmV z] ++ caps) w' fun e w'' => e = .returned (nmV r) ∧ Below w'.heap.size w' w'') : Calls Tryz.prog 70 #[nmV z, .func (.func f) #[] caps] w fun e w' => e = .returned (.tuple #[nmV r, .int .i64 0]) ∧ Below w.heap.size w w' := by
 go_enter Tryz.func70, Tryz.ntmps70
 refine wk_start ?_
 refine wk_seq ?_
 refine wk_region [1, 1, 0] rfl Kx ?_
 simp only [qy]
 refine Rgn fun g1 => ?_
 simp only [qz]
 refine Rgn fun g2 => ?_
 refine Zm ?_
 refine rg_nil (ek_next (wk_seq (wk_seq ?_)))
 refine wk_region [0, 1, 0] rfl Kx ?_
 simp only [qy]
 refine rf_loadR (n := 5) rfl rfl rfl Tryz.underlying55 rfl Kx (fun w hw => Kn.hd0 (Kn.tl hw)) rfl rfl ?_
 simp only [qz]
 apply rg_pure Rx Kx
 case hargs => exact Ax
 case h => exact fun w hw => by have := amvalid_any z w; rw [okB_yes hz] at this; exact this
 case hz => exact Nz
 simp only [qz]
 refine rf_not rfl rfl rfl ?_
 simp only [qz]
 refine rg_nil (ek_next (wk_cond_f rfl (wk_skip (ek_next (wk_seq ?_)))))
 refine wk_region [0, 0, 1, 1, 0] rfl Kx ?_
 refine Zm ?_
 refine rf_loadR (n := 5) rfl rfl rfl Tryz.underlying55 rfl Kx (fun w hw => Kn.hd0 (Kn.tl hw)) rfl rfl ?_
 simp only [qz]
 refine CV.rg_callV (caps := caps) (vs := #[nmV z]) (v := nmV r) Rx rfl hgo (by simp only [qm, qs, Act.eval]) (fun w hw => hf w hw.below) Nz ?_
 simp only [qz]
 refine rf_storeR (n := 5) rfl rfl Kx rfl rfl (UpdR.here _ _ _ Nl) Nz ?_
 simp only [qz, Nat.reduceAdd]
 refine Zm ?_
 refine rg_nil (ek_next (wk_ret ?_))
 refine ek_ret (fun w hw => ⟨rfl, _, run_results2 rfl rfl (Kn.hd0 hw) Tryz.underlying55 rfl Kx, ?_⟩)
 (try simp only [qz])
 first | exact ⟨rfl, hw.below⟩ | exact ⟨trivial, hw.below⟩ | exact hw.below
theorem turn1_ok (z : Nm) (n : Int) (hz : z.Ok) (gn tn : Nat) (w : World) (hn : Hd w gn tn #[.int .i64 n]) : Calls Tryz.prog 76 #[nmV z, .pointer (some ⟨gn, 0, none⟩)] w fun e w' => e = .returned (nmV (Nm.turn (n % 8).toNat z)) ∧ Below w.heap.size w w' := by
 go_enter Tryz.func76, Tryz.ntmps76
 refine wk_start ?_
 refine wk_seq ?_
 refine wk_region [1, 1] rfl Kx ?_
 simp only [qy]
 refine Rgn fun g1 => ?_
 simp only [qz]
 refine Rgn fun g2 => ?_
 simp only [qz]
 refine rg_nil ?_
 refine ek_next ?_
 refine wk_seq ?_
 refine wk_seq ?_
 refine wk_region [0, 0, 0] rfl Kx ?_
 simp only [qy]
 refine rf_load rfl rfl rfl Tryz.underlying3 rfl (fun w hw => ((Kn.hdB hw hn (by simp)).cell 0).trans rfl) ?_
 simp only [qz]
 apply rg_soft
 case hy => (intro w hw; have hand := and7; go_simp; (try go_bits); exact Yld.mk _ _)
 refine Zm ?_
 refine rg_nil ?_
 refine ek_next ?_
 refine wk_block ?_
 refine wk_loopF [6, 7, 8, 9, 10, 11, 12, 13, 14, 15, 16, 17, 18, 19, 20, 21, 22, 23] (fun mz f s => ∃ (j : Nat) (y : Nm), f 6 = .int .i64 j ∧ s = ((g2, .cells #[.int .i64 0, .int .i64 0, .int .i64 0, .int .i64 0, .int .i64 0] 55) :: ((g1, .cells #[.int .i64 y.a, .int .i64 y.b, .int .i64 y.c, .int .i64 y.d, .int .i64 y.k] 55) :: [])) ∧ mz = 8 - j ∧ (j : Int) ≤ n % 8 ∧ Nm.turn j z = y ∧ y.Ok) ((fun (j : Nat) (y : Nm) => 8 - j) (0) (z)) ?_ Kx ?_
 ·exact ⟨0, z, rfl, rfl, rfl, by omega, rfl, hz⟩
 rintro mz f1 s ⟨j, y, hs1_6, rfl, hn, hc1, hc2, hc3⟩
 simp only [Act.putF, List.foldl_cons, List.foldl_nil, hs1_6, Act.put, Act.eval, q1, q2, q3, q4, q5, q6, q7, q8, q9, q10, q11, q12, q13, q14, q15, q16, q17, q18, Nat.reduceAdd, Bool.not_true, Bool.not_false]
 clear hs1_6
 have hy := Lib.hid hc2
 clear hc2
 have hok := hc3
 obtain ⟨⟨fa0, fa1, fb0, fb1, fc0, fc1, fd0, fd1⟩, fk0, fk1, ff⟩ := hc3
 refine wk_seq ?_
 refine wk_region [0] rfl Kx ?_
 simp only [qy]
 refine rfb_lss rfl rfl rfl rfl ?_
 intro x h1
 cases x
 ·(try simp only [qd, ne_eq] at h1)
  simp only [qz]; refine rg_nil ?_; refine ek_next ?_; refine wk_seq ?_; refine wk_cond_f rfl ?_; refine wk_exit ?_; refine ek_then_exit ?_; refine ek_then_exit ?_; refine ek_block_exit ?_; refine ek_next ?_; refine wk_seq ?_; refine wk_region [0, 1] rfl Kx ?_; simp only [qy]; refine rf_loadR (n := 5) rfl rfl rfl Tryz.underlying55 rfl Kx (fun w hw => Kn.hd0 (Kn.tl hw)) rfl rfl ?_; simp only [qz]; refine rf_storeR (n := 5) rfl rfl Kx rfl rfl (UpdR.here _ _ _ Nl) Nz ?_
  simp only [qz, Nat.reduceAdd]; refine rg_nil ?_; refine ek_next ?_; refine wk_ret ?_; refine ek_ret (fun w hw => ⟨rfl, _, run_results1 rfl rfl (Kn.hd0 hw) Tryz.underlying55 rfl Kx, ?_⟩); (try simp only [qz])
  have e : (n % 8).toNat = j := by omega
  exact ⟨by rw [e, hy.out], hw.below⟩
 (try simp only [qd, ne_eq] at h1)
 simp only [qz]
 refine rg_nil ?_
 refine ek_next ?_
 refine wk_seq ?_
 refine wk_cond_t rfl ?_
 refine wk_skip ?_
 refine ek_next ?_
 refine wk_seq ?_
 refine wk_block ?_
 refine wk_region [0, 0, 0, 0, 0, 0, 0, 0, 0, 0, 0, 0, 0, 0, 0, 1] rfl Kx ?_
 simp only [qy]
 refine rf_field (n := 3) (j := 0) rfl rfl rfl Tryz.underlying55 rfl Kx rfl ?_
 simp only [qz]
 refine rf_indexA (n := 3) (sz := 1) (j := 3) rfl rfl rfl rfl Tryz.underlying53 Kx (by decide) rfl ?_
 simp only [qz]
 refine rf_load rfl rfl rfl Tryz.underlying3 rfl (fun w hw => (Kn.hd0 (Kn.tl hw)).at rfl) ?_
 simp only [qz]
 refine rf_neg rfl rfl rfl (wrap_ok Ox Ox) ?_
 simp only [qz]
 refine rf_field (n := 3) (j := 0) rfl rfl rfl Tryz.underlying55 rfl Kx rfl ?_
 simp only [qz]
 refine rf_indexA (n := 0) (sz := 1) (j := 0) rfl rfl rfl rfl Tryz.underlying53 Kx (by decide) rfl ?_
 simp only [qz]
 refine rf_load rfl rfl rfl Tryz.underlying3 rfl (fun w hw => (Kn.hd0 (Kn.tl hw)).at rfl) ?_
 simp only [qz]
 refine rf_field (n := 3) (j := 0) rfl rfl rfl Tryz.underlying55 rfl Kx rfl ?_
 simp only [qz]
 refine rf_indexA (n := 1) (sz := 1) (j := 1) rfl rfl rfl rfl Tryz.underlying53 Kx (by decide) rfl ?_
 simp only [qz]
 refine rf_load rfl rfl rfl Tryz.underlying3 rfl (fun w hw => (Kn.hd0 (Kn.tl hw)).at rfl) ?_
 simp only [qz]
 refine rf_field (n := 3) (j := 0) rfl rfl rfl Tryz.underlying55 rfl Kx rfl ?_
 simp only [qz]
 refine rf_indexA (n := 2) (sz := 1) (j := 2) rfl rfl rfl rfl Tryz.underlying53 Kx (by decide) rfl ?_
 simp only [qz]
 refine rf_load rfl rfl rfl Tryz.underlying3 rfl (fun w hw => (Kn.hd0 (Kn.tl hw)).at rfl) ?_
 simp only [qz]
 refine rf_build (cs := fun a => #[a.eval (.tmp 11), a.eval (.tmp 14), a.eval (.tmp 17), a.eval (.tmp 20)]) rfl rfl Kx ?_
 simp only [qz]
 refine rf_field (n := 3) (j := 0) rfl rfl rfl Tryz.underlying55 rfl Kx rfl ?_
 simp only [qz]
 refine rf_storeR (n := 4) rfl rfl Kx rfl rfl (UpdR.there _ (UpdR.here _ _ _ Nl)) Nz ?_
 simp only [qz, Nat.reduceAdd]
 refine rg_nil ?_
 refine ek_block ?_
 refine ek_next ?_
 refine wk_region [0, 0] rfl Kx ?_
 simp only [qy]
 refine rf_add rfl rfl rfl rfl (wrap_ok Ox Ox) ?_
 refine Zm ?_
 refine rg_nil ?_
 refine ek_roundF (8 - (j + 1)) Ox Kx ?_
 exact ⟨j + 1, _, rfl, Rx, by rfl, by omega, (by rw [← hy.out]; rfl), rot_ok hok⟩
theorem amTurn_ok (z : Nm) (n : Int) (hz : z.Ok) (w : World) : Calls Tryz.prog 42 #[nmV z, .int .i64 n] w fun e w' => e = .returned (.tuple #[nmV (Nm.turn (n % 8).toNat z), .int .i64 0]) ∧ Below w.heap.size w w' := by
 go_enter Tryz.func42, Tryz.ntmps42
 refine wk_start ?_
 refine wk_seq ?_
 refine wk_region [1, 1, 1, 0] rfl Kx ?_
 simp only [qy]
 refine Rgn fun g1 => ?_
 simp only [qz]
 refine Rgn fun g2 => ?_
 simp only [qz]
 refine Rgn fun g3 => ?_
 refine Zm ?_
 refine rg_nil ?_
 refine ek_next ?_
 refine wk_seq ?_
 refine wk_region [0, 0, 1, 0, 0, 1, 0] rfl Kx ?_
 simp only [qy]
 refine rf_loadR (n := 5) rfl rfl rfl Tryz.underlying55 rfl Kx (fun w hw => Kn.hd0 (Kn.tl (Kn.tl hw))) rfl rfl ?_
 simp only [qz]
 refine Zk ?_
 apply rg_pure Rx Kx
 case hargs => exact Ax
 case h => exact fun w hw => amchanged_ok z (Nm.turn (n % 8).toNat z) hz 76 #[.pointer (some ⟨g2, 0, none⟩)] Kx w (fun w' hb => turn1_ok z n hz g2 3 w' ((Kn.hd0 (Kn.tl hw)).call hb))
 case hz => exact Nz
 simp only [qz]
 refine rf_extract rfl rfl rfl rfl ?_
 simp only [qz]
 refine rf_extract rfl rfl rfl rfl ?_
 simp only [qz]
 refine rf_storeR (n := 5) rfl rfl Kx rfl rfl (UpdR.here _ _ _ Nl) Nz ?_
 simp only [qz, Nat.reduceAdd]
 refine Zm ?_
 refine rg_nil ?_
 refine ek_next ?_
 refine wk_ret ?_
 refine ek_ret (fun w hw => ⟨rfl, _, run_results2 rfl rfl (Kn.hd0 hw) Tryz.underlying55 rfl Kx, ?_⟩)
 (try simp only [qz])
 first | exact ⟨rfl, hw.below⟩ | exact ⟨trivial, hw.below⟩ | exact hw.below
end Go.Proofs.YtccbinnlnkpplaaGreat
namespace Go.Proofs.YtccbinnlnkpplaaGreat
set_option linter.all false
set_option maxRecDepth 100000
set_option maxHeartbeats 1000000
def ownN (x : It) : Nat := if x.kind = 1 then 1 else 2
def halfN : Nm := ⟨1, 0, 0, 0, 1⟩
def sideN : Nm := ⟨0, 0, 1, 0, 1⟩
def ownL (x : It) : List Nm := if x.kind = 1 then [Nm.turn (x.n % 8).toNat Nm.one] else if x.kind = 3 then [Nm.zero, Nm.one, Nm.one, Nm.zero] else [halfN, sideN, sideN, halfN]
def plcS (N p m : Nat) (L l : List Nm) : Nat → List Nm
  | 0 => l
  | t + 1 => (plcS N p m L l t).set ((p + t / m) * N + p + t % m) (nm L t)
def idM (N : Nat) : List Nm := rL (identR N)
def plcL (N p m : Nat) (L : List Nm) : List Nm := plcS N p m L (idM N) (m * m)
def itL (N : Nat) (x : It) : List Nm := plcL N (x.at_ - 1).toNat (ownN x) (ownL x)
def matS (N : Nat) (xs : List It) : Nat → LR
  | 0 => .ok (idM N)
  | j + 1 => match matS N xs j with
    | .error c => .error c
    | .ok l => mulM N N (itL N (it xs j)) l
def matO (n : Int) (xs : List It) : LR := if itemE n xs = 0 then matS n.toNat xs xs.length else .error (itemE n xs)
theorem plcS_len (N p m : Nat) (L l : List Nm) : ∀ t, (plcS N p m L l t).length = l.length
  | 0 => rfl
  | t + 1 => by rw [plcS, List.length_set, plcS_len N p m L l t]
theorem idM_len {N : Nat} (h1 : 1 ≤ N) (h6 : N ≤ 6) : (idM N).length = N * N := by
  unfold idM identR
  rw [if_pos Ox, Int.toNat_natCast]
  show (rL (gather _ _)).length = _
  have : ∃ l, gather (fun t => idR (t / N) (t % N)) (N * N) = .ok l := ⟨_, gather_pure (fun t => if t / N = t % N then Nm.one else Nm.zero) (N * N)⟩
  obtain ⟨l, hl⟩ := this
  rw [hl]
  exact gather_len hl
theorem matS_err {N : Nat} {xs : List It} {j : Nat} {c : Int} (h : matS N xs j = .error c) : ∀ m, j ≤ m → matS N xs m = .error c := by
  intro m hm
  induction m with
  | zero => obtain rfl : j = 0 := by omega
            exact h
  | succ m ih =>
    rcases (by omega : j = m + 1 ∨ j ≤ m) with rfl | hm
    · exact h
    · simp only [matS, ih hm]
end Go.Proofs.YtccbinnlnkpplaaGreat
namespace Go.Proofs.YtccbinnlnkpplaaGreat
set_option linter.all false
set_option maxRecDepth 100000
set_option maxHeartbeats 1000000
open Go.RowKit
theorem OwnN.openM {u : List Blk} {v : Value} {l : List Nm} (h : OwnN u v l) (hn : 0 < l.length) : ∃ g cap rest, u = [(g, .cells (NmE.flat l ++ rest).toArray 55)] ∧ v = .slice (some ⟨g, 0, none⟩) l.length cap ∧ l.length ≤ cap ∧ cap ≤ maxLen ∧ (NmE.flat l ++ rest).length = cap * 5 := by
  obtain ⟨hl, ⟨rfl, rfl, h0⟩ | ⟨g, cap, cur, rfl, rfl, hc, hm, hs, ht⟩⟩ := h
  · omega
  refine ⟨g, cap, cur.toList.drop (l.length * 5), ?_, rfl, hc, hm, ?_⟩
  · rw [← ht, List.take_append_drop]
  rw [← ht, List.take_append_drop]; simpa using hs
theorem OwnN.flM {g n cap : Nat} {l : List Nm} {rest : List Value} (h : l.length = n) (hc : n ≤ cap) (hm : cap ≤ maxLen) (hs : (NmE.flat l ++ rest).length = cap * 5) : OwnN [(g, .cells (NmE.flat l ++ rest).toArray 55)] (.slice (some ⟨g, 0, none⟩) n cap) l := by
  subst h
  have hfl := NmE.flat_len l
  exact ⟨hfl, .inr ⟨g, cap, _, rfl, rfl, hc, hm, by simpa using hs, by simp [← hfl]⟩⟩
theorem OwnN.wholeM {g : Nat} {l : List Nm} (h : l.length ≤ 1000000) : OwnN [(g, .cells (nms l).toArray 55)] (.slice (some ⟨g, 0, none⟩) l.length l.length) l :=
  Own.whole (cur := (nms l).toArray) (by simpa using NmE.flat_len l) (by simp only [maxLen]; omega)
theorem nm_flM (xs : List Nm) (k : Nat) (y : Nm) (rest : List Value) (hk : k < xs.length) : setMany (NmE.flat xs ++ rest).toArray (0 + k * 5) (nmC y) = (NmE.flat (xs.set k y) ++ rest).toArray := fl_set (E := NmE) (rest := rest) hk
theorem nm_szM (xs : List Nm) (k : Nat) (y : Nm) (rest : List Value) (hk : k < xs.length) : 0 + k * 5 + (nmC y).length ≤ (NmE.flat xs ++ rest).toArray.size := fl_size (E := NmE) (rest := rest) (y := y) hk
theorem OwnN.asM {u s : List Blk} {av : Option Addr} {m cv : Nat} {xs : List Nm} {B w : World} {F : List Nat} (h : OwnN u (.slice av m cv) xs) (K : Kn B F (u ++ s) w) : AS w av (nms xs) := by
  obtain ⟨a, cap, e, hA⟩ := h.as K
  cases e
  exact hA
theorem ident_okM {N : Nat} (h1 : 1 ≤ N) (h6 : N ≤ 6) : identR N = .ok (idM N) := by
  unfold idM identR
  rw [if_pos Ox, Int.toNat_natCast]
  have : ∃ l, madeR N idR = .ok l := ⟨_, gather_pure (fun t => if t / N = t % N then Nm.one else Nm.zero) (N * N)⟩
  obtain ⟨l, hl⟩ := this
  rw [hl]
  rfl
theorem own_any (x : It) (w : World) : Calls Tryz.prog 56 #[.agg #[.int .i64 x.kind, .int .i64 x.at_, .int .i64 x.n, .string x.name]] w fun e w' => RetM1 w (ownN x) (ownL x) e w' := by
 go_enter Tryz.func56, Tryz.ntmps56
 refine wk_start ?_
 refine wk_seq ?_
 refine wk_region [1, 1] rfl Kx ?_
 simp only [qy]
 refine Rgn fun g1 => ?_
 simp only [qz]
 refine Rgn fun g2 => ?_
 simp only [qz]
 refine rg_nil (ek_next (wk_seq ?_))
 refine wk_region [0, 0, 0, 1, 1, 1, 1] rfl Kx ?_
 simp only [qy]
 refine rf_build (cs := fun a => #[.int .i64 0, .int .i64 0, .int .i64 0, .int .i64 0, .int .i64 0]) rfl rfl Kx ?_
 simp only [qz]
 refine rf_build (cs := fun a => #[a.eval (.const (.int .i64 1)), .int .i64 0, .int .i64 0, .int .i64 0]) rfl rfl Kx ?_
 simp only [qz]
 refine rf_build (cs := fun a => #[cellAt (a.eval (.tmp 10)) 0, cellAt (a.eval (.tmp 10)) 1, cellAt (a.eval (.tmp 10)) 2, cellAt (a.eval (.tmp 10)) 3, .int .i64 0]) rfl rfl Kx ?_
 simp only [qz]
 refine Rgn fun g3 => ?_
 simp only [qz]
 refine Rgn fun g4 => ?_
 simp only [qz]
 refine rf_storeR (n := 5) rfl rfl Kx rfl rfl (UpdR.there _ (UpdR.here _ _ _ Nl)) Nz ?_
 simp only [qz, Nat.reduceAdd]
 refine rf_storeR (n := 5) rfl rfl Kx rfl rfl (UpdR.here _ _ _ Nl) Nz ?_
 simp only [qz, Nat.reduceAdd]
 refine rg_nil (ek_next (wk_seq (wk_seq ?_)))
 refine wk_region [0, 0] rfl Kx ?_
 simp only [qy]
 refine rf_field (n := 0) (j := 0) rfl rfl rfl Tryz.underlying43 rfl Kx rfl ?_
 simp only [qz]
 refine rf_load rfl rfl rfl Tryz.underlying3 rfl (fun w hw => (Kn.hd0 (Kn.tl (Kn.tl (Kn.tl hw)))).at rfl) ?_
 simp only [qz]
 refine rg_nil (ek_next (wk_block (wk_seq ?_)))
 refine wk_region [0, 0] rfl Kx ?_
 simp only [qy]
 refine rfb_eql rfl rfl rfl rfl ?_
 intro x h1
 cases x
 ·(try simp only [qd, ne_eq] at h1)
  refine Zm ?_; refine rg_nil (ek_next (wk_cond_f rfl (wk_seq ?_))); refine wk_region [0, 0] rfl Kx ?_; simp only [qy]; refine rfb_eql rfl rfl rfl rfl ?_; intro x h2; cases x
  ·(try simp only [qd, ne_eq] at h2)
   refine Zm ?_; refine rg_nil (ek_next (wk_cond_f rfl (wk_skip (ek_block (ek_next (wk_seq ?_)))))); refine wk_region [0, 0, 0, 0, 1, 1, 1, 1] rfl Kx ?_; simp only [qy]; refine rf_build (cs := fun a => #[a.eval (.const (.int .i64 1)), .int .i64 0, .int .i64 0, .int .i64 0]) rfl rfl Kx ?_; simp only [qz]; refine rf_build (cs := fun a => #[cellAt (a.eval (.tmp 34)) 0, cellAt (a.eval (.tmp 34)) 1, cellAt (a.eval (.tmp 34)) 2, cellAt (a.eval (.tmp 34)) 3, a.eval (.const (.int .i64 1))]) rfl rfl Kx ?_
   simp only [qz]; refine rf_build (cs := fun a => #[a.eval (.const (.int .i64 0)), a.eval (.const (.int .i64 0)), a.eval (.const (.int .i64 1)), .int .i64 0]) rfl rfl Kx ?_; simp only [qz]; refine rf_build (cs := fun a => #[cellAt (a.eval (.tmp 36)) 0, cellAt (a.eval (.tmp 36)) 1, cellAt (a.eval (.tmp 36)) 2, cellAt (a.eval (.tmp 36)) 3, a.eval (.const (.int .i64 1))]) rfl rfl Kx ?_; simp only [qz]
   refine Rgn fun g5 => ?_
   simp only [qz]
   refine Rgn fun g6 => ?_
   simp only [qz]; refine rf_storeR (n := 5) rfl rfl Kx rfl rfl (UpdR.there _ (UpdR.here _ _ _ Nl)) Nz ?_; simp only [qz, Nat.reduceAdd]; refine rf_storeR (n := 5) rfl rfl Kx rfl rfl (UpdR.here _ _ _ Nl) Nz ?_; simp only [qz, Nat.reduceAdd]; refine rg_nil (ek_next (wk_seq ?_)); refine wk_region [0, 0, 0, 0, 1, 0, 1] rfl Kx ?_; simp only [qy]; refine rf_loadR (n := 5) rfl rfl rfl Tryz.underlying55 rfl Kx (fun w hw => Kn.hd0 (Kn.tl hw)) rfl rfl ?_
   simp only [qz]; refine rf_loadR (n := 5) rfl rfl rfl Tryz.underlying55 rfl Kx (fun w hw => Kn.hd0 hw) rfl rfl ?_; simp only [qz]; refine rf_loadR (n := 5) rfl rfl rfl Tryz.underlying55 rfl Kx (fun w hw => Kn.hd0 hw) rfl rfl ?_; simp only [qz]; refine rf_loadR (n := 5) rfl rfl rfl Tryz.underlying55 rfl Kx (fun w hw => Kn.hd0 (Kn.tl hw)) rfl rfl ?_; simp only [qz]
   refine rg_newS (cs := ?_) (ty := ?_) (n := 4) (c := 4) Rx (fun w => ?_) Nz (fun g7 => ?_); rotate_left 2
   focus (go_simp; rfl)
   simp only [qz]; refine rf_build (cs := fun a => #[a.eval (.const (.int .i64 2)), a.eval (.tmp 42)]) rfl rfl Kx ?_; simp only [qz]; refine rf_storeR (n := 2) rfl rfl Kx rfl rfl (UpdR.there _ (UpdR.there _ (UpdR.there _ (UpdR.there _ (UpdR.there _ (UpdR.here _ _ _ Nl)))))) Nz ?_; simp only [qz, Nat.reduceAdd]; refine rg_nil (ek_next (wk_ret ?_)); refine ek_ret (fun w hw => ⟨rfl, _, run_results1 rfl rfl (Kn.hd0 (Kn.tl (Kn.tl (Kn.tl (Kn.tl (Kn.tl hw)))))) Tryz.underlying24 rfl Kx, ?_⟩)
   (try simp only [qz])
   have e1 : ownN x = 2 := by (unfold ownN; rw [if_neg Ox])
   have e2 : ownL x = [halfN, sideN, sideN, halfN] := by (unfold ownL; rw [if_neg Ox, if_neg Ox])
   rw [e1, e2]
   exact ⟨_, _, rfl, OwnN.wholeM (g := g7) (l := [halfN, sideN, sideN, halfN]) (by simp), hw.made (sc _ (sk _ (sk _ (sk _ (sk _ (sk _ (sk _ sn)))))))⟩
  (try simp only [qd, ne_eq] at h2); refine Zm ?_; refine rg_nil (ek_next (wk_cond_t rfl (wk_seq ?_))); refine wk_region [0, 0, 0, 0, 1, 0, 1] rfl Kx ?_; simp only [qy]; refine rf_loadR (n := 5) rfl rfl rfl Tryz.underlying55 rfl Kx (fun w hw => Kn.hd0 (Kn.tl hw)) rfl rfl ?_; simp only [qz]; refine rf_loadR (n := 5) rfl rfl rfl Tryz.underlying55 rfl Kx (fun w hw => Kn.hd0 hw) rfl rfl ?_; simp only [qz]; refine rf_loadR (n := 5) rfl rfl rfl Tryz.underlying55 rfl Kx (fun w hw => Kn.hd0 hw) rfl rfl ?_
  simp only [qz]; refine rf_loadR (n := 5) rfl rfl rfl Tryz.underlying55 rfl Kx (fun w hw => Kn.hd0 (Kn.tl hw)) rfl rfl ?_; simp only [qz]
  refine rg_newS (cs := ?_) (ty := ?_) (n := 4) (c := 4) Rx (fun w => ?_) Nz (fun g8 => ?_); rotate_left 2
  focus (go_simp; rfl)
  simp only [qz]; refine rf_build (cs := fun a => #[a.eval (.const (.int .i64 2)), a.eval (.tmp 32)]) rfl rfl Kx ?_; simp only [qz]; refine rf_storeR (n := 2) rfl rfl Kx rfl rfl (UpdR.there _ (UpdR.there _ (UpdR.there _ (UpdR.here _ _ _ Nl)))) Nz ?_; simp only [qz, Nat.reduceAdd]; refine rg_nil (ek_next (wk_ret (ek_block_ret (ek_then_ret ?_)))); refine ek_ret (fun w hw => ⟨rfl, _, run_results1 rfl rfl (Kn.hd0 (Kn.tl (Kn.tl (Kn.tl hw)))) Tryz.underlying24 rfl Kx, ?_⟩)
  (try simp only [qz])
  have e1 : ownN x = 2 := by (unfold ownN; rw [if_neg Ox])
  have e2 : ownL x = [Nm.zero, Nm.one, Nm.one, Nm.zero] := by (unfold ownL; rw [if_neg Ox, if_pos Ox])
  rw [e1, e2]
  exact ⟨_, _, rfl, OwnN.wholeM (g := g8) (l := [Nm.zero, Nm.one, Nm.one, Nm.zero]) (by simp), hw.made (sc _ (sk _ (sk _ (sk _ (sk _ sn)))))⟩
 (try simp only [qd, ne_eq] at h1)
 refine Zm ?_
 refine rg_nil (ek_next (wk_cond_t rfl (wk_seq ?_)))
 refine wk_region [0, 0, 0, 1, 0, 0, 0, 1, 1, 0] rfl Kx ?_
 simp only [qy]
 refine rf_loadR (n := 5) rfl rfl rfl Tryz.underlying55 rfl Kx (fun w hw => Kn.hd0 hw) rfl rfl ?_
 simp only [qz]
 refine rf_field (n := 0) (j := 2) rfl rfl rfl Tryz.underlying43 rfl Kx rfl ?_
 simp only [qz]
 refine rf_load rfl rfl rfl Tryz.underlying3 rfl (fun w hw => (Kn.hd0 (Kn.tl (Kn.tl (Kn.tl hw)))).at rfl) ?_
 simp only [qz]
 apply rg_pure Rx Kx
 case hargs => exact Ax
 case h => exact fun w hw => amTurn_ok Nm.one x.n one_ok w
 case hz => exact Nz
 refine Zm ?_
 refine rf_extract rfl rfl rfl rfl ?_
 simp only [qz]
 refine rf_extract rfl rfl rfl rfl ?_
 simp only [qz]
 refine Rgn fun g9 => ?_
 simp only [qz]
 refine rf_storeR (n := 5) rfl rfl Kx rfl rfl (UpdR.here _ _ _ Nl) Nz ?_
 simp only [qz, Nat.reduceAdd]
 refine Zm ?_
 refine rg_nil (ek_next (wk_seq ?_))
 refine wk_region [0, 1, 0, 1] rfl Kx ?_
 simp only [qy]
 refine rf_loadR (n := 5) rfl rfl rfl Tryz.underlying55 rfl Kx (fun w hw => Kn.hd0 hw) rfl rfl ?_
 simp only [qz]
 refine rg_newS (cs := ?_) (ty := ?_) (n := 1) (c := 1) Rx (fun w => ?_) Nz (fun g10 => ?_); rotate_left 2
 focus (go_simp; rfl)
 simp only [qz]
 refine rf_build (cs := fun a => #[a.eval (.const (.int .i64 1)), a.eval (.tmp 24)]) rfl rfl Kx ?_
 simp only [qz]
 refine rf_storeR (n := 2) rfl rfl Kx rfl rfl (UpdR.there _ (UpdR.there _ (UpdR.there _ (UpdR.there _ (UpdR.here _ _ _ Nl))))) Nz ?_
 simp only [qz, Nat.reduceAdd]
 refine rg_nil (ek_next (wk_ret (ek_block_ret (ek_then_ret ?_))))
 refine ek_ret (fun w hw => ⟨rfl, _, run_results1 rfl rfl (Kn.hd0 (Kn.tl (Kn.tl (Kn.tl (Kn.tl hw))))) Tryz.underlying24 rfl Kx, ?_⟩)
 (try simp only [qz])
 have e1 : ownN x = 1 := by (unfold ownN; rw [if_pos Ox])
 have e2 : ownL x = [Nm.turn (x.n % 8).toNat Nm.one] := by (unfold ownL; rw [if_pos Ox])
 rw [e1, e2]
 exact ⟨_, _, rfl, OwnN.wholeM (g := g10) (l := [Nm.turn (x.n % 8).toNat Nm.one]) (by simp), hw.made (sc _ (sk _ (sk _ (sk _ (sk _ (sk _ sn))))))⟩
theorem mplaced_any (N p m : Nat) (L : List Nm) (a : Option Addr) (c : Nat) (hN1 : 1 ≤ N) (hN6 : N ≤ 6) (hm1 : 1 ≤ m) (hpm : p + m ≤ N) (hL : Hid (L.length = m * m)) (w : World) (hA : AS w a (nms L)) : Calls Tryz.prog 58 #[.int .i64 N, .int .i64 ((p : Int) + 1), .agg #[.int .i64 m, .slice a L.length c]] w fun e w' => RetM1 w N (plcL N p m L) e w' := by
 obtain ⟨b, off, rfl, hlt, hcell⟩ := AS.openN hA (by rw [hL.out]; exact Nat.mul_pos Ox Ox)
 have hz1 : 1 ≤ N * N := Nat.mul_pos Ox Ox
 have hidl := idM_len (N := N) Ox hN6
 obtain ⟨z0, hz0⟩ : ∃ r, idM N = r := ⟨_, rfl⟩
 go_enter Tryz.func58, Tryz.ntmps58
 refine wk_start ?_
 refine wk_seq ?_
 refine wk_region [1, 1] rfl Kx ?_
 simp only [qy]
 refine Rgn fun g1 => ?_
 simp only [qz]
 refine Rgn fun g2 => ?_
 simp only [qz]
 refine rg_nil (ek_next (wk_seq ?_))
 refine wk_region [0, 1, 0, 0, 0, 1, 1, 0] rfl Kx ?_
 refine Zm ?_
 apply (rg_retM (n := (N : Int)) (zs := z0) (c := 0)) Rx Kx
 case hargs => exact Ax
 case h => exact fun w hw => by have := identity_any N w; rw [ident_okM Ox hN6, Int.toNat_natCast] at this; rw [hz0] at this; exact this
 case hz => exact Nz
 intro va3 vc3 u3 hO3
 refine Zm ?_
 refine rf_extract rfl rfl rfl rfl ?_
 simp only [qz]
 refine rf_extract rfl rfl rfl rfl ?_
 simp only [qz]
 refine Rgn fun g4 => ?_
 simp only [qz]
 refine rf_storeR (n := 2) rfl rfl Kx rfl rfl (UpdR.here _ _ _ Nl) Nz ?_
 simp only [qz, Nat.reduceAdd]
 refine Zm ?_
 refine rg_nil (ek_next (wk_seq (wk_seq ?_)))
 have hzl : z0.length = N * N := by rw [← hz0]; exact hidl
 rw [hzl]
 clear hidl
 replace hzl := Lib.hid hzl
 replace hz0 := Lib.hid hz0
 refine wk_region [0, 0, 0] rfl Kx ?_
 simp only [qy]
 refine rf_field (n := 0) (j := 0) rfl rfl rfl Tryz.underlying24 rfl Kx rfl ?_
 simp only [qz]
 refine rf_load rfl rfl rfl Tryz.underlying3 rfl (fun w hw => (Kn.hd0 (Kn.tl (Kn.tlU (Kn.tl hw)))).at rfl) ?_
 refine Zm ?_
 refine rg_nil (ek_next (wk_block ?_))
 refine wk_loopF [9, 10, 18, 19, 20, 21, 22, 23, 24, 25, 26, 27, 28, 29, 30, 31, 32, 33, 34, 35, 36, 37, 38, 39, 40, 41, 42, 43, 44, 45, 46, 47, 48, 49, 50, 51] (fun mz f s => ∃ (i : Nat) (u : List Blk), f 18 = .int .i64 i ∧ s = ((g4, .cells #[.int .i64 N, .slice va3 (N * N) vc3] 24) :: (u ++ ((g2, .cells #[.int .i64 0, .slice none 0 0] 24) :: ((g1, .cells #[.int .i64 m, .slice (some ⟨b, off, none⟩) L.length c] 24) :: [])))) ∧ mz = m - i ∧ i ≤ m ∧ OwnN u (.slice va3 (N * N) vc3) (plcS N p m L z0 (i * m))) ((fun (i : Nat) (u : List Blk) => m - i) (0) (u3)) ?_ Kx ?_
 ·exact ⟨0, u3, rfl, rfl, rfl, by omega, by rw [Nat.zero_mul]; show OwnN u3 (.slice va3 (N * N) vc3) z0; rw [← hzl.out]; exact hO3⟩
 rintro mz f1 s ⟨i, u, hs1_18, rfl, hn, hd1, hd2⟩
 simp only [Act.putF, List.foldl_cons, List.foldl_nil, hs1_18, Act.put, Act.eval, q1, q2, q3, q4, q5, q6, q7, q8, q9, q10, q11, q12, q13, q14, q15, q16, q17, q18, Nat.reduceAdd, Bool.not_true, Bool.not_false]
 clear hs1_18
 refine wk_seq ?_
 refine wk_region [0] rfl Kx ?_
 simp only [qy]
 refine rfb_lss rfl rfl rfl rfl ?_
 intro x h1
 cases x
 ·(try simp only [qd, ne_eq] at h1)
  simp only [qz]; refine rg_nil (ek_next (wk_seq (wk_cond_f rfl (wk_exit (ek_then_exit (ek_then_exit (ek_block_exit (ek_next (wk_seq ?_))))))))); refine wk_region [0, 1] rfl Kx ?_; simp only [qy]; refine rf_loadR (n := 2) rfl rfl rfl Tryz.underlying24 rfl Kx (fun w hw => Kn.hd0 hw) rfl rfl ?_; simp only [qz]; refine rf_storeR (n := 2) rfl rfl Kx rfl rfl (UpdR.there _ (UpdR.app _ (UpdR.here _ _ _ Nl))) Nz ?_; simp only [qz, Nat.reduceAdd]
  refine rg_nil (ek_next (wk_ret ?_)); refine ek_ret (fun w hw => ⟨rfl, _, run_results1 rfl rfl (Kn.hd0 (Kn.tlU (Kn.tl hw))) Tryz.underlying24 rfl Kx, ?_⟩); (try simp only [qz])
  obtain rfl : i = m := by omega
  have e1 : plcL N p i L = plcS N p i L z0 (i * i) := by (unfold plcL; rw [hz0.out])
  rw [e1]
  exact ⟨_, u, rfl, hd2, hw.made (List.Sublist.cons _ (List.sublist_append_left _ _))⟩
 (try simp only [qd, ne_eq] at h1)
 simp only [qz]
 refine rg_nil (ek_next (wk_seq (wk_cond_t rfl (wk_skip (ek_next (wk_seq (wk_block (wk_seq ?_))))))))
 refine wk_region [0, 0] rfl Kx ?_
 refine Zm ?_
 refine rg_nil (ek_next (wk_seq ?_))
 refine wk_region [0, 0, 0] rfl Kx ?_
 simp only [qy]
 refine rf_field (n := 0) (j := 0) rfl rfl rfl Tryz.underlying24 rfl Kx rfl ?_
 simp only [qz]
 refine rf_load rfl rfl rfl Tryz.underlying3 rfl (fun w hw => (Kn.hd0 (Kn.tl (Kn.tlU (Kn.tl hw)))).at rfl) ?_
 refine Zm ?_
 refine rg_nil (ek_next (wk_block ?_))
 refine wk_loopF [10, 23, 24, 25, 26, 27, 28, 29, 30, 31, 32, 33, 34, 35, 36, 37, 38, 39, 40, 41, 42, 43, 44, 45, 46, 47, 48, 49, 50] (fun mz f s => ∃ (k : Nat) (u2 : List Blk), f 23 = .int .i64 k ∧ s = ((g4, .cells #[.int .i64 N, .slice va3 (N * N) vc3] 24) :: (u2 ++ ((g2, .cells #[.int .i64 0, .slice none 0 0] 24) :: ((g1, .cells #[.int .i64 m, .slice (some ⟨b, off, none⟩) L.length c] 24) :: [])))) ∧ mz = m - k ∧ k ≤ m ∧ OwnN u2 (.slice va3 (N * N) vc3) (plcS N p m L z0 (i * m + k))) ((fun (k : Nat) (u2 : List Blk) => m - k) (0) (u)) ?_ Kx ?_
 ·exact ⟨0, u, rfl, rfl, rfl, by omega, hd2⟩
 rintro mz f2 s ⟨k, u2, hs2_23, rfl, hn, he1, he2⟩
 simp only [Act.putF, List.foldl_cons, List.foldl_nil, hs2_23, Act.put, Act.eval, q1, q2, q3, q4, q5, q6, q7, q8, q9, q10, q11, q12, q13, q14, q15, q16, q17, q18, Nat.reduceAdd, Bool.not_true, Bool.not_false]
 clear hs2_23
 refine wk_seq ?_
 refine wk_region [0] rfl Kx ?_
 simp only [qy]
 refine rfb_lss rfl rfl rfl rfl ?_
 intro x h2
 cases x
 ·(try simp only [qd, ne_eq] at h2)
  simp only [qz]; refine rg_nil (ek_next (wk_seq (wk_cond_f rfl (wk_exit (ek_then_exit (ek_then_exit (ek_block_exit (ek_block (ek_next ?_))))))))); refine wk_region [0, 0] rfl Kx ?_; simp only [qy]; refine rf_add rfl rfl rfl rfl (wrap_ok Ox Ox) ?_; refine Zm ?_; refine rg_nil ?_
  obtain rfl : m = k := by omega
  refine ek_roundF (m - (i + 1)) Ox Kx ?_
  exact ⟨i + 1, u2, rfl, by rfl, by rfl, Ox, (by rw [show (i + 1) * m = i * m + m by rw [Nat.add_mul, Nat.one_mul]]; exact he2)⟩
 (try simp only [qd, ne_eq] at h2)
 simp only [qz]
 refine rg_nil (ek_next (wk_seq (wk_cond_t rfl (wk_skip (ek_next (wk_seq (wk_block (wk_seq ?_))))))))
 refine wk_region [0, 0] rfl Kx ?_
 refine Zm ?_
 refine rg_nil (ek_next ?_)
 have hpl := plcS_len N p m L z0 (i * m + k)
 obtain ⟨go, capo, resto, hu, hvo, hco1, hco2, hco3⟩ := he2.openM (by rw [hpl, hzl.out]; omega)
 subst hu
 rw [hpl, hzl.out] at hvo hco1
 cases hvo
 have hix := ix_lt (N := N) (show p + i < N by omega) (show p + k < N by omega)
 have hmx := ix_lt (N := m) (show i < m by omega) (show k < m by omega)
 have hLm := hL.out
 have hm36 := Nat.mul_le_mul (show m ≤ 6 by omega) (show m ≤ 6 by omega)
 have hN36 := Nat.mul_le_mul hN6 hN6
 have hcst : (((p + i : Nat) : Int) * N) = (((p + i) * N : Nat) : Int) := (Int.natCast_mul _ _).symm
 have hcst2 : ((i : Int) * m) = ((i * m : Nat) : Int) := (Int.natCast_mul _ _).symm
 obtain ⟨ix, hixe⟩ : ∃ r, (p + i) * N + p + k = r := ⟨_, rfl⟩
 have hixl : ix < N * N := by omega
 obtain ⟨jx, hjxe⟩ : ∃ r, i * m + k = r := ⟨_, rfl⟩
 have hjxl : jx < L.length := by omega
 simp only [List.cons_append, List.nil_append]
 refine wk_draws_m (hz1 := (sc _ (sk _ (sc _ (sc _ sn))))) [(0, 0), (1, 0), (2, 0), (3, 0), (4, 0), (5, 0), (6, 0), (7, 0), (8, 0), (9, 0), (10, 0), (11, 0), (12, 0), (13, 0), (14, 0), (15, 0), (16, 0), (17, 0), (18, 0), (19, 0), (20, 0), (21, 0), (22, 0), (23, 0), (24, 2)] 24 Kx Kx (fun c d v a w h => by cases d <;> exact h) ?_
 simp only [List.map_cons, List.map_nil, List.getD_cons_zero, List.getD_cons_succ]
 refine rf_field (n := 0) (j := 1) rfl rfl rfl Tryz.underlying24 rfl Kx rfl ?_
 simp only [qz]
 refine rf_load rfl rfl rfl Tryz.underlying22 rfl (fun w hw => (Kn.hd0 hw).at rfl) ?_
 refine Zm ?_
 refine rf_sub (r := (p : Int)) rfl rfl rfl rfl (wrap_eqB Ox Ox Ox) ?_
 refine Zm ?_
 refine rf_add (r := ((p + i : Nat) : Int)) rfl rfl rfl rfl (wrap_eqB Ox Ox Ox) ?_
 refine Zm ?_
 refine rf_mul (r := (((p + i) * N : Nat) : Int)) rfl rfl rfl rfl (wrap_eqB hcst Ox Ox) ?_
 refine Zm ?_
 refine rf_add (r := ((p + i) * N : Nat) + ((p : Int) + 1)) rfl rfl rfl rfl (wrap_eqB Ox Ox Ox) ?_
 simp only [qz]
 refine rf_sub (r := (((p + i) * N + p : Nat) : Int)) rfl rfl rfl rfl (wrap_eqB Ox Ox Ox) ?_
 refine Zm ?_
 refine rf_add (r := ((ix : Nat) : Int)) rfl rfl rfl rfl (wrap_eqB Ox Ox Ox) ?_
 simp only [qz]
 refine rf_field (n := 0) (j := 1) rfl rfl rfl Tryz.underlying24 rfl Kx rfl ?_
 simp only [qz]
 refine rf_load rfl rfl rfl Tryz.underlying22 rfl (fun w hw => (Kn.hd0 (Kn.tl (Kn.tl (Kn.tl hw)))).at rfl) ?_
 refine Zm ?_
 refine rf_field (n := 0) (j := 0) rfl rfl rfl Tryz.underlying24 rfl Kx rfl ?_
 simp only [qz]
 refine rf_load rfl rfl rfl Tryz.underlying3 rfl (fun w hw => (Kn.hd0 (Kn.tl (Kn.tl (Kn.tl hw)))).at rfl) ?_
 simp only [qz]
 refine rf_mul (r := ((i * m : Nat) : Int)) rfl rfl rfl rfl (wrap_eqB hcst2 Ox Ox) ?_
 refine Zm ?_
 refine rf_add (r := ((jx : Nat) : Int)) rfl rfl rfl rfl (wrap_eqB Ox Ox Ox) ?_
 simp only [qz]
 refine rf_indexS (n := jx) (sz := 5) (j := off + jx * 5) rfl rfl rfl rfl Tryz.underlying22 Kx Ox Ox rfl ?_
 simp only [qz]
 refine rf_loadC (n := 5) (vs := nmC (nm L jx)) rfl rfl rfl Tryz.underlying55 rfl Kx rfl (fun w hw => atN_range ((hcell jx hjxl).kn hw hlt (by simp))) ?_
 simp only [qz]
 refine rf_indexS (n := ix) (sz := 5) (j := 0 + ix * 5) rfl rfl rfl rfl Tryz.underlying22 Kx Ox Ox rfl ?_
 simp only [qz]
 have hsz := nm_szM (plcS N p m L z0 jx) ix (nm L jx) resto (by rw [← hjxe, hpl, hzl.out]; exact hixl)
 rw [hjxe]
 refine rf_storeRM (n := 5) (vs := nmC (nm L jx)) rfl rfl Kx rfl rfl (UpdR.there _ (UpdR.here _ _ _ hsz)) (sc _ (sk _ (sc _ (sc _ sn)))) ?_
 have hstep : (plcS N p m L z0 jx).set ix (nm L jx) = plcS N p m L z0 (i * m + (k + 1)) := by
  rw [← Nat.add_assoc, plcS, hjxe, ← hixe, ← hjxe, ix_div (show k < m by omega), ix_mod (show k < m by omega)]
 rw [nm_flM _ _ _ _ (by rw [← hjxe, hpl, hzl.out]; exact hixl), hstep]
 have hON := OwnN.flM (g := go) (n := N * N) (l := plcS N p m L z0 (i * m + (k + 1))) (rest := resto) (by rw [plcS_len, hzl.out]) hco1 hco2 (by rw [List.length_append, El.flat_len, plcS_len, hzl.out] at hco3 ⊢; exact hco3)
 simp only [qz]
 refine rg_nil (ek_block (ek_next ?_))
 refine wk_region [0, 0] rfl Kx ?_
 simp only [qy]
 refine rf_add rfl rfl rfl rfl (wrap_ok Ox Ox) ?_
 refine Zm ?_
 refine rg_nil ?_
 refine ek_roundF (m - (k + 1)) Ox Kx ?_
 exact ⟨k + 1, [(go, _)], rfl, by rfl, by rfl, Ox, hON⟩
theorem mplaced_int (N p m : Nat) (z : Int) (L : List Nm) (a : Option Addr) (c : Nat) (hz : z = p + 1) (hN1 : 1 ≤ N) (hN6 : N ≤ 6) (hm1 : 1 ≤ m) (hpm : p + m ≤ N) (hL : Hid (L.length = m * m)) (w : World) (hA : AS w a (nms L)) : Calls Tryz.prog 58 #[.int .i64 N, .int .i64 z, .agg #[.int .i64 m, .slice a L.length c]] w fun e w' => RetM1 w N (plcL N p m L) e w' := by
  subst hz
  exact mplaced_any N p m L a c hN1 hN6 hm1 hpm hL w hA
theorem fit_own {N : Nat} {x : It} (h : fitB N x = true) : 1 ≤ x.at_ ∧ (x.at_ - 1).toNat + ownN x ≤ N ∧ 1 ≤ ownN x ∧ ownN x ≤ 2 ∧ x.at_ = ((x.at_ - 1).toNat : Int) + 1 := by
  unfold fitB at h
  rw [decide_eq_true_eq] at h
  obtain ⟨h1, h2, h3⟩ := h
  unfold wd at h1 h3
  unfold ownN
  by_cases hk : x.kind = 1
  · rw [if_pos hk] at h1 h3 ⊢
    split at h1
    · next hn => rw [if_pos hn] at h3; omega
    exact absurd rfl h1
  rw [if_neg hk] at h1 h3 ⊢
  split at h1
  · next hn =>
    rw [if_pos hn] at h3
    split at h1
    · next hm => rw [if_pos hm] at h3; omega
    exact absurd rfl h1
  exact absurd rfl h1
theorem itemE_zero {n : Int} {xs : List It} (h : itemE n xs = 0) : validI n xs = true := by
  unfold itemE at h
  split at h
  · split at h
    · assumption
    cases h
  cases h
theorem ownL_len (x : It) : (ownL x).length = ownN x * ownN x := by
  unfold ownL ownN
  by_cases hk : x.kind = 1
  · rw [if_pos hk, if_pos hk]; rfl
  rw [if_neg hk, if_neg hk]
  split <;> rfl
theorem itL_len {N : Nat} (h1 : 1 ≤ N) (h6 : N ≤ 6) (x : It) : (itL N x).length = N * N := by
  unfold itL plcL
  rw [plcS_len, idM_len h1 h6]
theorem mulM_code {n m : Int} {xs ys : List Nm} {c : Int} (h : mulM n m xs ys = .error c) : c ≠ 0 := by
  unfold mulM at h
  split at h
  · split at h
    · obtain ⟨i, hi, he⟩ := gather_err_mem h
      have := prodsR_code he
      omega
    cases h; decide
  cases h; decide
theorem matS_code {N : Nat} {xs : List It} : ∀ {j : Nat} {c : Int}, matS N xs j = .error c → c ≠ 0
  | 0, c, h => by cases h
  | j + 1, c, h => by
    simp only [matS] at h
    split at h
    · next c' hc => cases h; exact matS_code hc
    · exact mulM_code h
theorem rC_ok {r : LR} (hc : ∀ c, r = .error c → c ≠ 0) (h : rC r = 0) : ∃ l, r = .ok l := by
  cases r with
  | ok l => exact ⟨l, rfl⟩
  | error c => exact absurd h (hc c rfl)
theorem matS_len {N : Nat} {xs : List It} (h1 : 1 ≤ N) (h6 : N ≤ 6) : ∀ {j : Nat} {l : List Nm}, matS N xs j = .ok l → l.length = N * N
  | 0, l, h => by cases h; exact idM_len h1 h6
  | j + 1, l, h => by
    simp only [matS] at h
    split at h
    · cases h
    · unfold mulM at h
      split at h
      · rw [if_pos rfl, Int.toNat_natCast] at h
        exact made_len h
      · cases h
theorem itAt_range {w : World} {b off : Nat} {i : It} (h : ItAt w b off i) : w.rangeAt b off [.int .i64 i.kind, .int .i64 i.at_, .int .i64 i.n, .string i.name] := by
  intro j v hj
  match j, hj with
  | 0, hj => injection hj with hj; subst hj; exact h.c0
  | 1, hj => injection hj with hj; subst hj; exact h.c1
  | 2, hj => injection hj with hj; subst hj; exact h.c2
  | 3, hj => injection hj with hj; subst hj; exact h.c3
  | n + 4, hj => cases hj
theorem run_lookup_noneM (s : ByteArray) (w : World) : (Instr.lookup 95 (.map none) (.string s) true).run Tryz.prog w = .ok (.tuple #[.agg #[.int .i64 0, .slice none 0 0], .bool false]) w := by
  kernel_rfl
section
variable {R : Option Nat} {ops : Array Oper} {Q : Exit → Act → World → Prop} {B : World} {F : List Nat} {s0 : Option (List Blk × List Blk)}
variable {l : List (Oper × Nat)} {a : Act} {s : List Blk} {d : Option Tmp} {t : TypeId} {p : String} {af : Array Edge} {gd : Option (Nat × Bool)} {m : Nat}
theorem rf_lookM {x y : Operand} {nm_ : ByteArray} (hm : soft03 m = true) (hg : Region.wanted ⟨d, .lookup 95 x y true, t, p, af, gd⟩ (yielded ops a.tmps) = true)
    (hx : a.eval x = .map none) (hy : a.eval y = .string nm_) (h : Rg R Tryz.prog ops Q B F s0 l (a.put d (.tuple #[.agg #[.int .i64 0, .slice none 0 0], .bool false])) s) : Rg R Tryz.prog ops Q B F s0 ((⟨d, .lookup 95 x y true, t, p, af, gd⟩, m) :: l) a s := by
  refine rg_any hm hg (fun w => ?_) h
  unfold Yld
  have := run_lookup_noneM nm_ w
  simp [execOp, hx, hy, this]
end
theorem mcheck_any (n : Int) (xs : List It) (a : Option Addr) (c : Nat) (w : World) (hA : AS w a (its xs)) : Calls Tryz.prog 26 #[.int .i64 n, .slice a xs.length c] w fun e w' => e = .returned (.int .i64 (itemE n xs)) ∧ Below w.heap.size w w' := by
 go_enter Tryz.func26, Tryz.ntmps26
 refine wk_start ?_
 refine wk_seq ?_
 refine wk_region [0] rfl Kx ?_
 refine Zm ?_
 refine rg_nil (ek_next (wk_seq (wk_block (wk_seq ?_))))
 refine wk_region [0, 1, 0, 0] rfl Kx ?_
 refine Zm ?_
 apply rg_pureb Rx Kx
 case hargs => exact Ax
 case h => exact fun w hw => between_mesh 1 n 6 w
 case hz => exact Nz
 intro x h1
 cases x
 ·(try simp only [qd, ne_eq] at h1)
  simp only [qz]
  have hbt := betB_false h1
  clear h1; refine rf_not rfl rfl rfl ?_; refine Zm ?_; refine rg_nil (ek_next (wk_cond_t rfl (wk_seq ?_))); refine wk_region [0] rfl Kx ?_; refine Zm ?_; refine rg_nil (ek_next (wk_ret (ek_block_ret (ek_then_ret ?_)))); refine ek_ret (fun w hw => ⟨rfl, _, res_t _ rfl, ?_⟩); (try simp only [qz])
  exact ⟨by unfold itemE; rw [if_neg hbt], hw.below⟩
 (try simp only [qd, ne_eq] at h1)
 simp only [qz]
 have hbt := betB_true h1
 clear h1
 refine rf_not rfl rfl rfl ?_
 refine Zm ?_
 refine rg_nil (ek_next (wk_cond_f rfl (wk_seq ?_)))
 refine wk_region [0, 0, 1, 0, 0] rfl Kx ?_
 refine Zm ?_
 apply rg_pureb Rx Kx
 case hargs => exact Ax
 case h => exact fun w hw => mvalidI_any xs a c n w (hA.kn0 hw)
 case hz => exact Nz
 intro x h2
 cases x
 ·(try simp only [qd, ne_eq] at h2)
  simp only [qz]; refine rf_not rfl rfl rfl ?_; refine Zm ?_; refine rg_nil (ek_next (wk_cond_t rfl (wk_seq ?_))); refine wk_region [0] rfl Kx ?_; refine Zm ?_; refine rg_nil (ek_next (wk_ret (ek_block_ret (ek_then_ret ?_)))); refine ek_ret (fun w hw => ⟨rfl, _, res_t _ rfl, ?_⟩); (try simp only [qz])
  exact ⟨by unfold itemE; rw [if_pos hbt, if_neg (by rw [h2]; decide)], hw.below⟩
 (try simp only [qd, ne_eq] at h2)
 simp only [qz]
 refine rf_not rfl rfl rfl ?_
 refine Zm ?_
 refine rg_nil (ek_next (wk_cond_f rfl (wk_skip (ek_block (ek_next (wk_seq ?_))))))
 refine wk_region [0] rfl Kx ?_
 refine Zm ?_
 refine rg_nil (ek_next (wk_ret ?_))
 refine ek_ret (fun w hw => ⟨rfl, _, res_t _ rfl, ?_⟩)
 (try simp only [qz])
 exact ⟨by unfold itemE; rw [if_pos hbt, if_pos h2], hw.below⟩
theorem made_items (N : Nat) (xs : List It) (a : Option Addr) (c : Nat) (hN1 : 1 ≤ N) (hN6 : N ≤ 6) (hlx : xs.length ≤ 5000) (hfit : ∀ j, j < xs.length → fitB N (it xs j) = true) (w : World) (hA : AS w a (its xs)) : Calls Tryz.prog 27 #[.int .i64 N, .slice a xs.length c, .map none] w fun e w' => RetM w (rN N (matS N xs xs.length)) (rL (matS N xs xs.length)) (rC (matS N xs xs.length)) e w' := by
 go_enter Tryz.func27, Tryz.ntmps27
 refine wk_start ?_
 refine wk_seq ?_
 refine wk_region [1, 0] rfl Kx ?_
 simp only [qy]
 refine Rgn fun g1 => ?_
 refine Zm ?_
 refine rg_nil (ek_next (wk_seq ?_))
 refine wk_region [0, 1, 0, 0, 0, 1, 1, 0] rfl Kx ?_
 refine Zm ?_
 apply (rg_retM (n := (N : Int)) (zs := idM N) (c := 0)) Rx Kx
 case hargs => exact Ax
 case h => exact fun w hw => by have := identity_any N w; rw [ident_okM hN1 hN6, Int.toNat_natCast] at this; exact this
 case hz => exact Nz
 intro va2 vc2 u2 hO2
 refine Zm ?_
 refine rf_extract rfl rfl rfl rfl ?_
 simp only [qz]
 refine rf_extract rfl rfl rfl rfl ?_
 simp only [qz]
 refine Rgn fun g3 => ?_
 simp only [qz]
 refine rf_storeR (n := 2) rfl rfl Kx rfl rfl (UpdR.here _ _ _ Nl) Nz ?_
 simp only [qz, Nat.reduceAdd]
 refine Zm ?_
 refine rg_nil (ek_next (wk_seq (wk_seq ?_)))
 refine wk_region [0, 0, 0] rfl Kx ?_
 refine Zm ?_
 refine rf_len rfl rfl rfl Tryz.underlying26 ?_
 refine Zm ?_
 refine rg_nil (ek_next (wk_block ?_))
 refine wk_loopF [7, 9, 11, 12, 13, 21, 22, 23, 24, 25, 26, 27, 28, 29, 30, 31, 32, 33, 34, 35, 36, 37, 38, 39, 40, 41, 42, 43, 44, 45, 46, 47, 48, 49, 50] (fun mz f s => ∃ (i : Nat) (r : LR) (va : Option Addr) (vc : Nat) (u : List Blk), f 9 = .int .i64 (rC r) ∧ f 21 = .int .i64 i ∧ s = ((g3, .cells #[.int .i64 (rN N r), .slice va (rL r).length vc] 24) :: (u ++ ((g1, .cells #[.int .i64 0, .slice none 0 0] 24) :: []))) ∧ mz = xs.length - i ∧ i ≤ xs.length ∧ Hid (matS N xs i = r) ∧ OwnN u (.slice va (rL r).length vc) (rL r)) ((fun (i : Nat) (r : LR) (va : Option Addr) (vc : Nat) (u : List Blk) => xs.length - i) (0) (.ok (idM N)) (va2) (vc2) (u2)) ?_ Kx ?_
 ·exact ⟨0, .ok (idM N), va2, vc2, u2, rfl, rfl, rfl, rfl, by omega, Lib.hid rfl, hO2⟩
 rintro mz f1 s ⟨i, r, va, vc, u, hs1_9, hs1_21, rfl, hn, hd1, hd2, hd3⟩
 simp only [Act.putF, List.foldl_cons, List.foldl_nil, hs1_9, hs1_21, Act.put, Act.eval, q1, q2, q3, q4, q5, q6, q7, q8, q9, q10, q11, q12, q13, q14, q15, q16, q17, q18, Nat.reduceAdd, Bool.not_true, Bool.not_false]
 clear hs1_9 hs1_21
 refine wk_seq ?_
 refine wk_region [0] rfl Kx ?_
 simp only [qy]
 refine rfb_lss rfl rfl rfl rfl ?_
 intro x h1
 cases x
 ·(try simp only [qd, ne_eq] at h1)
  simp only [qz]; refine rg_nil (ek_next (wk_seq (wk_cond_f rfl (wk_exit (ek_then_exit (ek_then_exit (ek_block_exit (ek_next (wk_seq ?_))))))))); refine wk_region [0, 0, 1, 0] rfl Kx ?_; simp only [qy]; refine rf_loadR (n := 2) rfl rfl rfl Tryz.underlying24 rfl Kx (fun w hw => Kn.hd0 hw) rfl rfl ?_; refine Zm ?_; refine rf_storeR (n := 2) rfl rfl Kx rfl rfl (UpdR.there _ (UpdR.app _ (UpdR.here _ _ _ Nl))) Nz ?_
  simp only [qz, Nat.reduceAdd]; refine Zm ?_; refine rg_nil (ek_next (wk_ret ?_)); refine ek_ret (fun w hw => ⟨rfl, _, run_results2 rfl rfl (Kn.hd0 (Kn.tlU (Kn.tl hw))) Tryz.underlying24 rfl Kx, ?_⟩); (try simp only [qz])
  obtain rfl : i = xs.length := by omega
  rw [hd2.out]
  exact ⟨_, u, rfl, hd3, hw.made (List.Sublist.cons _ (List.sublist_append_left _ _))⟩
 (try simp only [qd, ne_eq] at h1)
 simp only [qz]
 refine rg_nil (ek_next (wk_seq (wk_cond_t rfl (wk_skip (ek_next (wk_seq (wk_block (wk_seq ?_))))))))
 obtain ⟨b, off, rfl, hlt, hcell⟩ := AS.openT hA Ox
 obtain ⟨x, hx⟩ : ∃ x, it xs i = x := ⟨_, rfl⟩
 have hit := hcell i Ox
 have hfx := hfit i Ox
 rw [hx] at hit hfx
 have hfo := fit_own hfx
 replace hx := Lib.hid hx
 refine wk_region [0, 0, 1, 1] rfl Kx ?_
 simp only [qy]
 refine rf_indexS (n := i) (sz := 4) (j := off + i * 4) rfl rfl rfl rfl Tryz.underlying26 Kx Ox Ox rfl ?_
 simp only [qz]
 refine rf_loadC (n := 4) (vs := itC x) rfl rfl rfl Tryz.underlying43 rfl Kx rfl (fun w hw => itAt_range (hit.kn hw hlt (by simp))) ?_
 simp only [qz]
 refine Rgn fun g4 => ?_
 simp only [qz]
 refine rf_storeR (n := 4) rfl rfl Kx rfl rfl (UpdR.here _ _ _ Nl) Nz ?_
 simp only [qz, Nat.reduceAdd]
 refine rg_nil (ek_next (wk_seq (wk_seq ?_)))
 refine wk_region [0, 0] rfl Kx ?_
 refine Zm ?_
 refine rfb_neq rfl rfl rfl rfl ?_
 intro x h2
 cases x
 ·(try simp only [qd, ne_eq] at h2)
  simp only [qz]
  obtain ⟨l, hr⟩ := rC_ok (fun c h => matS_code (hd2.out.trans h)) (by simpa using h2)
  subst hr
  clear h2
  have hll := matS_len hN1 hN6 hd2.out
  have hil := itL_len hN1 hN6 x
  have hN36 := Nat.mul_le_mul hN6 hN6
  simp only [rN, rL, rC] at hd3 ⊢; refine rg_nil (ek_next (wk_cond_f rfl (wk_skip (ek_next (wk_seq ?_))))); refine wk_region [0, 0, 0, 0, 0, 0, 0, 1, 1, 0] rfl Kx ?_; refine Zm ?_; refine rf_field (n := 0) (j := 3) rfl rfl rfl Tryz.underlying43 rfl Kx rfl ?_; simp only [qz]; refine rf_load rfl rfl rfl Tryz.underlying9 rfl (fun w hw => (Kn.hd0 hw).at rfl) ?_; simp only [qz]; refine rf_lookM rfl rfl rfl rfl ?_; refine Zm ?_
  refine rf_extract rfl rfl rfl rfl ?_; simp only [qz]; refine rf_extract rfl rfl rfl rfl ?_; simp only [qz]
  refine Rgn fun g5 => ?_
  simp only [qz]; refine rf_storeR (n := 2) rfl rfl Kx rfl rfl (UpdR.here _ _ _ Nl) Nz ?_; simp only [qz, Nat.reduceAdd]; refine Zm ?_; refine rg_nil (ek_next (wk_seq (wk_seq ?_))); refine wk_region [0, 0] rfl Kx ?_; refine Zm ?_; refine rf_not rfl rfl rfl ?_; simp only [qz]; refine rg_nil (ek_next (wk_cond_t rfl ?_)); refine wk_region [0, 1, 1] rfl Kx ?_; simp only [qy]; refine rf_loadR (n := 4) rfl rfl rfl Tryz.underlying43 rfl Kx (fun w hw => Kn.hd0 (Kn.tl hw)) rfl rfl ?_
  simp only [qz]; apply rg_retM1 Rx Kx
  case hargs => exact Ax
  case h => exact fun w hw => own_any x w
  case hz => exact Nz
  intro va6 vc6 u6 hO6; simp only [qz]; refine rf_storeR (n := 2) rfl rfl Kx rfl rfl (UpdR.app _ (UpdR.here _ _ _ Nl)) Nz ?_; simp only [qz, Nat.reduceAdd]; refine rg_nil (ek_next ?_); refine wk_draws_m (hz1 := (List.Sublist.append_left (sc _ (sc _ (sk _ (List.Sublist.append_left (sc _ sn) _)))) _)) [(0, 0), (1, 0), (2, 0), (3, 0), (5, 0), (4, 1), (6, 1), (7, 0), (8, 0), (9, 3), (10, 2), (11, 0)] 10 Kx Kx (fun c d v a w h => by cases d <;> exact h) ?_
  simp only [List.map_cons, List.map_nil, List.getD_cons_zero, List.getD_cons_succ]; refine Zm ?_; refine rf_field (n := 0) (j := 1) rfl rfl rfl Tryz.underlying43 rfl Kx rfl ?_; simp only [qz]; refine rf_load rfl rfl rfl Tryz.underlying3 rfl (fun w hw => (Kn.hd0 (Kn.tl (Kn.tlU hw))).at rfl) ?_; simp only [qz]; refine rf_loadR (n := 2) rfl rfl rfl Tryz.underlying24 rfl Kx (fun w hw => Kn.hd0 (Kn.tlU hw)) rfl rfl ?_
  simp only [qz]; refine rf_loadR (n := 2) rfl rfl rfl Tryz.underlying24 rfl Kx (fun w hw => Kn.hd0 (Kn.tl (Kn.tl (Kn.tlU hw)))) rfl rfl ?_; simp only [qz]
  apply (rg_retM1 (n := (N : Int)) (zs := itL N x)) Rx Kx
  case hargs => exact Ax
  case h => exact fun w hw => mplaced_int N (x.at_ - 1).toNat (ownN x) x.at_ (ownL x) va6 vc6 hfo.2.2.2.2 hN1 hN6 hfo.2.2.1 hfo.2.1 (Lib.hid (ownL_len x)) w (hO6.asM (hw.perm (List.Perm.refl _)))
  case hz => exact (fun _ h => by cases h; exact (List.Sublist.append_left (sc _ (sc _ (sc _ (List.Sublist.append_left (sc _ sn) _)))) _))
  intro va7 vc7 u7 hO7; simp only [qz]
  apply (rg_retM (n := rN N (mulM N N (itL N x) l)) (zs := rL (mulM N N (itL N x) l)) (c := rC (mulM N N (itL N x) l))) Rx Kx
  case hargs => exact Ax
  case h => exact fun w hw => by have := mul_any N N (itL N x) l va7 va vc7 vc Ox Ox w (hO7.asM (hw.perm (List.Perm.refl _))) (hd3.asM (hw.perm ((((((((((((List.Perm.refl _).cons _).trans (List.perm_middle (l₁ := u)).symm).cons _).trans (List.perm_middle (l₁ := u)).symm).cons _).trans (List.perm_middle (l₁ := u)).symm).append_left _).trans (List.perm_append_comm_assoc u6 u _)).append_left _).trans (List.perm_append_comm_assoc u7 u _)).trans ((List.Perm.refl _).append_left _)))); rw [Int.toNat_natCast] at this; exact this
  case hz => exact (fun _ h => by cases h; exact ((List.Sublist.append_left (sc _ (sc _ (sc _ (List.Sublist.append_left (sc _ sn) _)))) _).trans (List.sublist_append_right _ _)))
  intro va8 vc8 u8 hO8; refine Zm ?_; refine rf_extract rfl rfl rfl rfl ?_; simp only [qz]; refine rf_extract rfl rfl rfl rfl ?_; simp only [qz]; refine rf_storeRM (n := 2) rfl rfl Kx rfl rfl (UpdR.app _ (UpdR.app _ (UpdR.app _ (UpdR.there _ (UpdR.there _ (UpdR.here _ _ _ Nl)))))) (((List.Sublist.append_left (sc _ (sc _ (sk _ (List.Sublist.append_left (sc _ sn) _)))) _).trans (List.sublist_append_right _ _)).trans (List.sublist_append_right _ _)) ?_
  simp only [qz, Nat.reduceAdd]; refine Zm ?_; refine rg_nil (ek_block (ek_next ?_)); refine wk_region [0, 0] rfl Kx ?_; simp only [qy]; refine rf_add rfl rfl rfl rfl (wrap_ok Ox Ox) ?_; refine Zm ?_; refine rg_nil ?_; refine ek_sub (List.Sublist.append_left (((sk _ (sk _ (sc _ ((sc _ sn).trans (List.sublist_append_right _ _))))).trans (List.sublist_append_right _ _)).trans (List.sublist_append_right _ _)) _) ?_; refine ek_perm ((((List.Perm.refl _).append_left _).trans (List.perm_middle (l₁ := u8))).trans ((List.Perm.refl _).cons _)) ?_
  refine ek_roundF (xs.length - (i + 1)) Ox Kx ?_
  exact ⟨i + 1, mulM N N (itL N x) l, va8, vc8, u8, rfl, rfl, by rfl, by rfl, Ox, (Lib.hid (by rw [matS, hd2.out, hx.out])), hO8⟩
 (try simp only [qd, ne_eq] at h2)
 simp only [qz]
 refine rg_nil (ek_next (wk_cond_t rfl (wk_seq ?_)))
 refine wk_region [0, 0, 1, 0] rfl Kx ?_
 simp only [qy]
 refine rf_build (cs := fun a => #[.int .i64 0, .slice none 0 0]) rfl rfl Kx ?_
 refine Zm ?_
 refine rf_storeR (n := 2) rfl rfl Kx rfl rfl (UpdR.there _ (UpdR.there _ (UpdR.app _ (UpdR.here _ _ _ Nl)))) Nz ?_
 simp only [qz, Nat.reduceAdd]
 refine Zm ?_
 refine rg_nil (ek_next (wk_ret (ek_then_ret (ek_block_ret (ek_then_ret (ek_then_ret (ek_block_ret (ek_then_ret ?_))))))))
 refine ek_ret (fun w hw => ⟨rfl, _, run_results2 rfl rfl (Kn.hd0 (Kn.tlU (Kn.tl (Kn.tl hw)))) Tryz.underlying24 rfl Kx, ?_⟩)
 (try simp only [qz])
 cases r with
 | ok l => exact absurd rfl h2
 | error cc =>
  rw [matS_err hd2.out xs.length Ox]
  exact ⟨.slice none 0 0, [], rfl, OwnG.nil, .nil hw.below⟩
theorem matrixOf_any (n : Int) (xs : List It) (a : Option Addr) (c : Nat) (w : World) (hA : AS w a (its xs)) : Calls Tryz.prog 10 #[.int .i64 n, .slice a xs.length c] w fun e w' => RetM w (rN n.toNat (matO n xs)) (rL (matO n xs)) (rC (matO n xs)) e w' := by
 go_enter Tryz.func10, Tryz.ntmps10
 refine wk_start ?_
 refine wk_seq ?_
 refine wk_region [1, 0] rfl Kx ?_
 simp only [qy]
 refine Rgn fun g1 => ?_
 refine Zm ?_
 refine rg_nil (ek_next (wk_seq (wk_seq ?_)))
 refine wk_region [0, 0, 1, 0] rfl Kx ?_
 refine Zm ?_
 apply rg_pure Rx Kx
 case hargs => exact Ax
 case h => exact fun w hw => mcheck_any n xs a c w (hA.kn0 hw)
 case hz => exact Nz
 refine Zm ?_
 refine rg_nil (ek_next (wk_seq ?_))
 refine wk_region [0, 0] rfl Kx ?_
 refine Zm ?_
 refine rfb_neq rfl rfl rfl rfl ?_
 intro x h1
 cases x
 ·(try simp only [qd, ne_eq] at h1)
  simp only [qz]
  have hie : itemE n xs = 0 := by simpa using h1
  refine rg_nil (ek_next (wk_cond_f rfl (wk_skip (ek_next (wk_seq ?_))))); refine wk_region [0, 0, 1, 0, 0, 1, 0] rfl Kx ?_; refine Zm ?_
  obtain ⟨hn1, hn6, hl5, hft⟩ := validB_all (n := n) (xs := xs) (itemE_zero hie)
  obtain ⟨N, rfl⟩ : ∃ N : Nat, n = N := ⟨n.toNat, by omega⟩
  have hmo : matO (N : Int) xs = matS N xs xs.length := by (unfold matO; rw [if_pos hie, Int.toNat_natCast])
  replace hmo := Lib.hid hmo
  apply rg_retM Rx Kx
  case hargs => exact Ax
  case h => exact fun w hw => made_items N xs a c Ox Ox hl5 hft w (hA.kn0 hw)
  case hz => exact Nz
  intro va2 vc2 u2 hO2; simp only [qz]; refine rf_extract rfl rfl rfl rfl ?_; simp only [qz]; refine rf_extract rfl rfl rfl rfl ?_; simp only [qz]; refine rf_storeR (n := 2) rfl rfl Kx rfl rfl (UpdR.app _ (UpdR.here _ _ _ Nl)) Nz ?_; simp only [qz, Nat.reduceAdd]; refine Zm ?_; refine rg_nil (ek_next (wk_ret ?_)); refine ek_ret (fun w hw => ⟨rfl, _, run_results2 rfl rfl (Kn.hd0 (Kn.tlU hw)) Tryz.underlying24 rfl Kx, ?_⟩)
  (try simp only [qz]); rw [hmo.out, Int.toNat_natCast]
  exact ⟨_, u2, rfl, hO2, hw.made (List.sublist_append_left _ _)⟩
 (try simp only [qd, ne_eq] at h1)
 simp only [qz]
 have hie : itemE n xs ≠ 0 := by simpa using h1
 refine rg_nil (ek_next (wk_cond_t rfl (wk_seq ?_)))
 refine wk_region [0, 0, 1, 0] rfl Kx ?_
 simp only [qy]
 refine rf_build (cs := fun a => #[.int .i64 0, .slice none 0 0]) rfl rfl Kx ?_
 refine Zm ?_
 refine rf_storeR (n := 2) rfl rfl Kx rfl rfl (UpdR.here _ _ _ Nl) Nz ?_
 simp only [qz, Nat.reduceAdd]
 refine Zm ?_
 refine rg_nil (ek_next (wk_ret (ek_then_ret ?_)))
 refine ek_ret (fun w hw => ⟨rfl, _, run_results2 rfl rfl (Kn.hd0 hw) Tryz.underlying24 rfl Kx, ?_⟩)
 (try simp only [qz])
 have hmo : matO n xs = .error (itemE n xs) := by (unfold matO; rw [if_neg hie])
 rw [hmo]
 exact ⟨.slice none 0 0, [], rfl, OwnG.nil, .nil hw.below⟩
def cplI (at_ : Int) : It := ⟨2, at_, 0, ⟨#[]⟩⟩
def phsI (at_ n : Int) : It := ⟨1, at_, n, ⟨#[]⟩⟩
def RetS (w : World) (L : List It) (cc : Int) (e : Ending) (w' : World) : Prop := ∃ v u, e = .returned (.tuple #[v, .int .i64 cc]) ∧ OwnT u v L ∧ Made w u w'
theorem OwnT.asT {B w : World} {F : List Nat} {u s : List Blk} {a : Option Addr} {n c : Nat} {xs : List It} (h : OwnT u (.slice a n c) xs) (K : Kn B F (u ++ s) w) : AS w a (its xs) := by
  obtain ⟨a', c', e, h'⟩ := Own.as h K
  cases e
  exact h'
section
variable {R : Option Nat} {ops : Array Oper} {Q : Exit → Act → World → Prop} {B : World} {F : List Nat} {s0 : Option (List Blk × List Blk)}
variable {l : List (Oper × Nat)} {a : Act} {s S : List Blk} {d : Option Tmp} {op : Op} {t : TypeId} {p : String} {af : Array Edge} {v : Value}
end
end Go.Proofs.YtccbinnlnkpplaaGreat
