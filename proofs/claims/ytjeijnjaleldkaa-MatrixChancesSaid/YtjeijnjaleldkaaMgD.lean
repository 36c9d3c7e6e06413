/- Several texts in one. -/
import Derived.Test.YtjeijnjaleldkaaSq
import Derived.Test.YtjeijnjaleldkaaMgC
import Derived.Test.YtjeijnjaleldkaaMt2a
import Derived.Test.YtjeijnjaleldkaaMgA
import Derived.Test.YtjeijnjaleldkaaWs4
import Derived.Test.YtjeijnjaleldkaaCh1
namespace Go.Proofs.Ytjeijnjaleldkaa
set_option linter.all false
open Go.RowKit

def patL (xs : List Int) : List Int := if patB xs then modes xs xs.length else []
theorem pat_yes {xs : List Int} (h : ∀ j, j < xs.length → 0 ≤ gI xs j ∧ gI xs j ≤ 5) (h5 : (modes xs xs.length).length ≤ 5) : patB xs = true ∧ patL xs = modes xs xs.length := by
  have hm := modes_len h xs.length (Nat.le_refl _)
  have hb : patB xs = true := by
    unfold patB
    rw [okP_true h, Bool.true_and, decide_eq_true_eq]
    omega
  unfold patL
  rw [hb]
  exact ⟨rfl, rfl⟩
theorem pat_no {xs : List Int} (h : patB xs = false) : patL xs = [] := by unfold patL; rw [h]; rfl
theorem pat_bad {xs : List Int} {i : Nat} (hi : i < xs.length) (h : ∀ j, j < i → 0 ≤ gI xs j ∧ gI xs j ≤ 5) (hl : ((modes xs i).length : Int) = sT xs i) (hb : gI xs i < 0 ∨ 5 < gI xs i ∨ 5 < ((modes xs i).length : Int) + gI xs i) : patB xs = false := by
  cases hp : patB xs with
  | false => rfl
  | true =>
    unfold patB at hp
    rw [Bool.and_eq_true, decide_eq_true_eq] at hp
    have hok : ∀ j, j < xs.length → 0 ≤ gI xs j ∧ gI xs j ≤ 5 := fun j hj => okP_at hp.1 hj
    have h1 := hok i hi
    have h2 := sT_mono hok xs.length (show i + 1 ≤ xs.length by omega) (Nat.le_refl _)
    have h3 : sT xs (i + 1) = sT xs i + gI xs i := rfl
    omega
theorem modes_sT {xs : List Int} : ∀ {i : Nat}, (∀ j, j < i → 0 ≤ gI xs j ∧ gI xs j ≤ 5) → ((modes xs i).length : Int) = sT xs i
  | 0, _ => rfl
  | i + 1, h => by
    have h1 := modes_sT (i := i) fun j hj => h j Ox
    have h2 := h i Ox
    show ((modes xs i ++ List.replicate _ _).length : Int) = sT xs i + gI xs i
    rw [List.length_append, List.length_replicate]
    omega
theorem modes_at {xs : List Int} {i : Nat} : ∀ j, j < (modes xs i).length → 0 ≤ gI (modes xs i) j ∧ gI (modes xs i) j < i := fun j hj => by
  have : gI (modes xs i) j ∈ modes xs i := by
    unfold gI
    rw [List.getD_eq_getElem?_getD, List.getElem?_eq_getElem hj]
    exact List.getElem_mem hj
  exact modes_mem this
theorem pat_len {xs : List Int} (h : patB xs = true) : ((modes xs xs.length).length : Int) = sT xs xs.length ∧ (modes xs xs.length).length ≤ 5 := by
  unfold patB at h
  rw [Bool.and_eq_true, decide_eq_true_eq] at h
  have hok : ∀ j, j < xs.length → 0 ≤ gI xs j ∧ gI xs j ≤ 5 := fun j hj => okP_at h.1 hj
  have := modes_len hok xs.length (Nat.le_refl _)
  exact ⟨this, by omega⟩
/-- The elements that the amplitude is made of. -/
def ampF (N : Nat) (xs : List Nm) (L M : List Int) (i k : Nat) : Nm := nm xs ((gI L i).toNat * N + (gI M k).toNat)
def ampR (n : Int) (xs : List Nm) (p r : List Int) : NR :=
  if validB n xs then (if (p.length : Int) = n ∧ (r.length : Int) = n then (if patB p = true ∧ patB r = true ∧ (modes p p.length).length = (modes r r.length).length then perF (modes p p.length).length (ampF n.toNat xs (modes r r.length) (modes p p.length)) else .error 2) else .error 21) else .error 20
/-- A list and whether. -/
def RetP (w : World) (b : Bool) (L : List Int) (e : Ending) (w' : World) : Prop := ∃ v u, e = .returned (.tuple #[v, .bool b]) ∧ OwnZ u v L ∧ Made w u w'
section
variable {R : Option Nat} {ops : Array Oper} {Q : Exit → Act → World → Prop} {B : World} {F : List Nat} {s0 : Option (List Blk × List Blk)}
variable {l : List (Oper × Nat)} {a : Act} {s S : List Blk} {d : Option Tmp} {op : Op} {t : TypeId} {p : String} {af : Array Edge} {v : Value}
theorem rg_retZ {f : Nat} {cargs : Array Operand} {at_ : Array TypeId} {args : Array Value} {n : Nat} {L : List Int} {P : Program} {gd : Option (Nat × Bool)} (hg : Region.wanted ⟨d, .call ⟨.value (.func f), cargs, at_⟩, t, p, af, gd⟩ (yielded ops a.tmps) = true) (hgo : isGo P f = true)
    (h : ∀ w, Kn B F s w → Calls P f args w (RetZ w n L)) (hargs : cargs.map a.eval = args)
    (hz : ∀ z ∈ s0, z.1.Sublist s) (k : ∀ (g vc : Nat) (u : List Blk), OwnZ u (.slice (some ⟨g, 0, none⟩) n vc) L → Rg R P ops Q B F s0 l (a.put d (.slice (some ⟨g, 0, none⟩) n vc)) (u ++ s)) :
    Rg R P ops Q B F s0 ((⟨d, .call ⟨.value (.func f), cargs, at_⟩, t, p, af, gd⟩, 1) :: l) a s :=
  rg_call hg hgo hargs fun w K => (h w K).mono fun e w' ⟨g, c, u, he, hO, hm⟩ =>
    ⟨_, u ++ s, he, K.add hm, fun z hz' => (hz z hz').trans (List.sublist_append_right _ _), k g c u hO⟩
theorem rg_retP {f : Nat} {cargs : Array Operand} {at_ : Array TypeId} {args : Array Value} {b : Bool} {L : List Int} {P : Program} {gd : Option (Nat × Bool)} (hg : Region.wanted ⟨d, .call ⟨.value (.func f), cargs, at_⟩, t, p, af, gd⟩ (yielded ops a.tmps) = true) (hgo : isGo P f = true)
    (h : ∀ w, Kn B F s w → Calls P f args w (RetP w b L)) (hargs : cargs.map a.eval = args)
    (hz : ∀ z ∈ s0, z.1.Sublist s) (k : ∀ (va : Option Addr) (vc : Nat) (u : List Blk), OwnZ u (.slice va L.length vc) L → Rg R P ops Q B F s0 l (a.put d (.tuple #[.slice va L.length vc, .bool b])) (u ++ s)) :
    Rg R P ops Q B F s0 ((⟨d, .call ⟨.value (.func f), cargs, at_⟩, t, p, af, gd⟩, 1) :: l) a s :=
  rg_call hg hgo hargs fun w K => (h w K).mono fun e w' ⟨v, u, he, hO, hm⟩ => by
    obtain ⟨a', c', rfl, -⟩ := Own.val hO
    exact ⟨_, u ++ s, he, K.add hm, fun z hz' => (hz z hz').trans (List.sublist_append_right _ _), k a' c' u hO⟩
/-- append of a list of whole numbers. -/
theorem rg_appZs {so xo : Operand} {u : List Blk} {xs ys : List Int} {m c r : Nat} {ad : Addr} {gd : Option (Nat × Bool)} (hg : Region.wanted ⟨d, .call ⟨.builtin .append, #[so, xo], #[37, 37]⟩, t, p, af, gd⟩ (yielded ops a.tmps) = true)
    (hs : a.eval so = v) (hown : OwnZ u v xs) (hx : a.eval xo = .slice (some ad) m c) (hm : ys.length = m) (hr : (xs ++ ys).length = r) (hb : r ≤ 1000000) (hp : S.Perm (u ++ s))
    (hA : ∀ w, Kn B F S w → AS w (some ad) (zs ys))
    (hzz : ∀ z ∈ s0, z.1.Sublist s) (h : ∀ u' a' c', OwnZ u' (.slice a' r c') (xs ++ ys) → Rg R Try.prog ops Q B F s0 l (a.put d (.slice a' r c')) (u' ++ s)) :
    Rg R Try.prog ops Q B F s0 ((⟨d, .call ⟨.builtin .append, #[so, xo], #[37, 37]⟩, t, p, af, gd⟩, 1) :: l) a S := by
  obtain ⟨i, hi, hz, hsz, hby⟩ := info_partsN zInfo
  subst hm hr
  refine rg_append (u := u) (s := s) (i := i) (z := .int .i64 0) (size := 1) (bytes := 8) (n := xs.length) (m := ys.length) (c := c) (xs := zs xs) (news := zs ys) (ad := ad) hg
    Try.underlying37 hi hz hsz hby rfl (by decide) hs hown hx (by simp) (fun w K j y hj => ?_) (by intro v hv; obtain ⟨x, -, rfl⟩ := List.mem_map.1 hv; rfl) (by rw [List.length_append] at hb; simp only [maxLen]; omega) (by rw [List.length_append] at hb; omega) hp hzz ?_
  · have hne : zs ys ≠ [] := fun e => by rw [e] at hj; simp at hj
    obtain ⟨b, off, e, _, hc⟩ := hA w K hne
    cases e
    have hj' : j < (zs ys).length := by
      rcases Nat.lt_or_ge j (zs ys).length with h | h
      · exact h
      · rw [List.getElem?_eq_none h] at hj; cases hj
    have e1 : (⟨b, off, none⟩ : Addr).add j = ⟨b, off + j, none⟩ := Addr.add_mid ..
    rw [e1, hc j hj', hj]
  · intro u' v' hO _
    obtain ⟨a', c', rfl, -⟩ := Own.val hO
    have hO' : OwnZ u' (.slice a' (xs ++ ys).length c') (xs ++ ys) := by
      have e : zs (xs ++ ys) = zs xs ++ zs ys := by simp
      unfold OwnZ
      rw [e, List.length_append]
      exact hO
    rw [← List.length_append]
    exact h u' a' c' hO'
end
theorem OwnZ.asI {B w : World} {F : List Nat} {u s : List Blk} {a : Option Addr} {n c : Nat} {xs : List Int} (h : OwnZ u (.slice a n c) xs) (K : Kn B F (u ++ s) w) : AS w a (zs xs) := by
  obtain ⟨a', c', e, h'⟩ := Own.as h K
  cases e
  exact h'
set_option maxRecDepth 100000 in
set_option maxHeartbeats 1000000 in
theorem pattern_any (xs : List Int) (a : Option Addr) (c : Nat) (hl : xs.length ≤ 1000000) (w : World) (hA : AS w a (zs xs)) : Calls Try.prog 92 #[.slice a xs.length c] w fun e w' => RetP w (patB xs) (patL xs) e w' := by
  go_enter Try.func92, Try.ntmps92
  refine wk_start ?_
  refine wk_seq ?_
  refine wk_region [0, 0] rfl Kx ?_
  simp only [qy]
  refine rg_assign ?_
  simp only [qz]
  refine rg_assign ?_
  simp only [qz]
  refine rg_nil (ek_next (wk_seq ?_))
  refine wk_region [0] rfl Kx ?_
  simp only [qy]
  refine rg_assign ?_
  simp only [qz]
  refine rg_nil (ek_next (wk_seq (wk_seq ?_)))
  refine wk_region [0, 0, 0] rfl Kx ?_
  simp only [qy]
  refine rg_move ?_
  simp only [qz]
  refine rf_len rfl rfl rfl Try.underlying37 ?_
  simp only [qz]
  refine rg_move ?_
  simp only [qz]
  refine rg_nil (ek_next (wk_block ?_))
  refine wk_loopF [2, 3, 4, 5, 6, 9, 10, 11, 12, 13, 14, 15, 16, 17, 18, 19, 20, 21, 22, 23, 24, 25, 26, 27, 28, 29, 30, 31, 32, 33] (fun mz f s => ∃ (i : Nat) (va : Option Addr) (vc : Nat) (u : List Blk), f 4 = .slice va (modes xs i).length vc ∧ f 9 = .int .i64 i ∧ s = (u ++ []) ∧ mz = xs.length - i ∧ i ≤ xs.length ∧ Hid (∀ j, j < i → 0 ≤ gI xs j ∧ gI xs j ≤ 5) ∧ (modes xs i).length ≤ 5 ∧ OwnZ u (.slice va (modes xs i).length vc) (modes xs i)) ((fun (i : Nat) (va : Option Addr) (vc : Nat) (u : List Blk) => xs.length - i) (0) (none) (0) ([])) ?_ Kx ?_
  · exact ⟨0, none, 0, [], rfl, rfl, rfl, rfl, by omega, Lib.hid (fun _ h => by omega), Nat.zero_le _, Own.nil _ _⟩
  rintro mz f1 s ⟨i, va, vc, u, hs1_4, hs1_9, rfl, hn, hd1, hd2, hd3, hd4⟩
  simp only [Act.putF, List.foldl_cons, List.foldl_nil, hs1_4, hs1_9, Act.put, Act.eval, q1, q2, q3, q4, q5, q6, q7, q8, q9, q10, q11, q12, q13, q14, q15, q16, q17, q18, Nat.reduceAdd, Bool.not_true, Bool.not_false]
  clear hs1_4 hs1_9
  refine wk_seq ?_
  refine wk_region [0] rfl Kx ?_
  simp only [qy]
  refine rfb_lss rfl rfl rfl rfl ?_
  intro x h1
  cases x
  · (try simp only [qd, ne_eq] at h1)
    simp only [qz]
    refine rg_nil (ek_next (wk_seq (wk_cond_f rfl (wk_exit (ek_then_exit (ek_then_exit (ek_block_exit (ek_next (wk_seq ?_)))))))))
    refine wk_region [0, 0, 0] rfl Kx ?_
    simp only [qy]
    refine rg_move ?_
    simp only [qz]
    refine rg_assign ?_
    simp only [qz]
    refine rg_assign ?_
    simp only [qz]
    refine rg_nil (ek_next (wk_ret ?_))
    refine ek_ret (fun w hw => ⟨rfl, _, res_tt _ _ rfl, ?_⟩)
    (try simp only [qz])
    obtain rfl : i = xs.length := by omega
    obtain ⟨e1, e2⟩ := pat_yes hd2.out hd3
    rw [e1, e2]
    exact ⟨_, u, rfl, hd4, hw.made (List.sublist_append_left _ _)⟩
  (try simp only [qd, ne_eq] at h1)
  simp only [qz]
  refine rg_nil (ek_next (wk_seq (wk_cond_t rfl (wk_skip (ek_next (wk_seq (wk_block (wk_seq ?_))))))))
  obtain ⟨b, off, rfl, hlt, hcell⟩ := AS.openI hA Ox
  refine wk_region [0, 0, 0, 0, 0] rfl Kx ?_
  simp only [qy]
  refine rg_move ?_
  simp only [qz]
  refine rf_indexS (n := i) (sz := 1) (j := off + i) rfl rfl rfl rfl Try.underlying37 Kx Ox Ox Ox ?_
  simp only [qz]
  refine rf_load (v := .int .i64 (gI xs i)) rfl rfl rfl Try.underlying3 rfl (fun w hw => (Kn.cellB hw hlt (by simp) (off + i)).trans (hcell i Ox)) ?_
  simp only [qz]
  refine rg_assign ?_
  simp only [qz]
  refine rg_assign ?_
  simp only [qz]
  refine rg_nil (ek_next (wk_seq (wk_seq ?_)))
  refine wk_region [0, 0, 0, 0, 0, 0, 0, 0, 0, 0, 0, 0, 0] rfl Kx ?_
  simp only [qy]
  refine rg_move ?_
  simp only [qz]
  refine rfb_lss rfl rfl rfl rfl ?_
  intro x h2
  cases x
  · (try simp only [qd, ne_eq] at h2)
    simp only [qz]
    refine rg_move ?_
    simp only [qz]
    apply rg_soft_g
    case hg => rfl
    case hy => (intro w hw; go_simp; (try go_bits); exact Yld.mk _ _)
    simp only [qz]
    refine rfb_gtr rfl rfl rfl rfl ?_
    intro x h3
    cases x
    · (try simp only [qd, ne_eq] at h3)
      simp only [qz]
      refine rf_pick rfl rfl rfl ?_
      simp only [qz]
      refine rg_move ?_
      simp only [qz]
      apply rg_soft_g
      case hg => rfl
      case hy => (intro w hw; go_simp; (try go_bits); exact Yld.mk _ _)
      simp only [qz]
      refine rf_len rfl rfl rfl Try.underlying37 ?_
      simp only [qz]
      apply rg_soft_g
      case hg => rfl
      case hy => (intro w hw; go_simp; (try go_bits); exact Yld.mk _ _)
      simp only [qz]
      refine rf_add rfl rfl rfl rfl (wrap_ok Ox Ox) ?_
      simp only [qz]
      refine rfb_gtr rfl rfl rfl rfl ?_
      intro x h4
      cases x
      · (try simp only [qd, ne_eq] at h4)
        simp only [qz]
        refine rf_pick rfl rfl rfl ?_
        simp only [qz]
        refine rg_nil (ek_next (wk_cond_f rfl (wk_skip (ek_next ?_))))
        have hc0 : 0 ≤ gI xs i ∧ gI xs i ≤ 5 := ⟨by omega, by omega⟩
        have hc5 : (gI xs i).toNat ≤ 5 := by omega
        have hc6 : (modes xs i).length + (gI xs i).toNat ≤ 5 := by omega
        refine wk_region [0, 0, 1, 0, 1, 1, 0] rfl Kx ?_
        simp only [qy]
        refine rg_move ?_
        simp only [qz]
        refine rg_move ?_
        simp only [qz]
        refine rg_newS (cs := ?_) (ty := ?_) (n := 1) (c := 1) Rx (fun w => ?_) Nz (fun g1 => ?_); rotate_left 2
        focus (go_simp; rfl)
        simp only [qz]
        refine rg_move ?_
        simp only [qz]
        apply (rg_retZ (n := (gI xs i).toNat) (L := List.replicate (gI xs i).toNat (i : Int))) Rx Kx
        case hargs => exact Ax
        case h => exact fun w hw => repeat_int (i : Int) _ _ 1 (gI xs i).toNat Ox hc5 w ((OwnZ.one (g := g1) (i : Int)).asI (s := []) (by exact hw.sub (List.Sublist.cons₂ _ (List.nil_sublist _))))
        case hz => exact Nz
        intro gR vR uR hOR
        simp only [qz]
        refine rg_appZs (xs := modes xs i) (ys := List.replicate (gI xs i).toNat (i : Int)) (r := (modes xs i ++ List.replicate (gI xs i).toNat (i : Int)).length) Rx rfl hd4 rfl (by simp) rfl (by rw [List.length_append, List.length_replicate]; omega) ((((((List.Perm.refl _).cons _).trans (List.perm_middle (l₁ := u)).symm).append_left _).trans (List.perm_append_comm_assoc uR u _)).trans ((List.Perm.refl _).append_left _)) (fun w hw => hOR.asI (hw.perm (List.Perm.refl _))) Nz (fun uP aP cP hOP => ?_)
        simp only [qz]
        refine rg_assign ?_
        simp only [qz]
        refine rg_nil (ek_block (ek_next ?_))
        refine wk_region [0, 0] rfl Kx ?_
        simp only [qy]
        refine rf_add rfl rfl rfl rfl (wrap_ok Ox Ox) ?_
        simp only [qz]
        refine rg_move ?_
        simp only [qz]
        refine rg_nil ?_
        refine ek_sub (List.Sublist.append_left ((sk _ sn).trans (List.sublist_append_right _ _)) _) ?_
        refine ek_roundF (xs.length - (i + 1)) Ox Kx ?_
        exact ⟨i + 1, aP, cP, uP, rfl, rfl, by rfl, by rfl, Ox, (Lib.hid (fun j hj => by rcases (by omega : j < i ∨ j = i) with h | rfl; exact hd2.out j h; exact ⟨by omega, by omega⟩)), (by show (modes xs i ++ List.replicate _ _).length ≤ 5; rw [List.length_append, List.length_replicate]; omega), hOP⟩
      (try simp only [qd, ne_eq] at h4)
      simp only [qz]
      refine rf_pick rfl rfl rfl ?_
      simp only [qz]
      refine rg_nil (ek_next (wk_cond_t rfl (wk_seq ?_)))
      refine wk_region [0, 0] rfl Kx ?_
      simp only [qy]
      refine rg_assign ?_
      simp only [qz]
      refine rg_assign ?_
      simp only [qz]
      refine rg_nil (ek_next (wk_ret (ek_then_ret (ek_block_ret (ek_then_ret (ek_then_ret (ek_block_ret (ek_then_ret ?_))))))))
      refine ek_ret (fun w hw => ⟨rfl, _, res_tt _ _ rfl, ?_⟩)
      (try simp only [qz])
      have hpb := pat_bad (xs := xs) (i := i) Ox hd2.out (modes_sT hd2.out) Ox
      rw [hpb, pat_no hpb]
      exact ⟨_, [], rfl, Own.nil _ _, .nil hw.below⟩
    (try simp only [qd, ne_eq] at h3)
    simp only [qz]
    refine rf_pick rfl rfl rfl ?_
    simp only [qz]
    refine rg_move ?_
    simp only [qz]
    refine rg_skip Rx ?_
    simp only [qz]
    refine rg_skip Rx ?_
    simp only [qz]
    refine rg_skip Rx ?_
    simp only [qz]
    refine rg_skip Rx ?_
    simp only [qz]
    refine rg_skip Rx ?_
    simp only [qz]
    refine rf_pick rfl rfl rfl ?_
    simp only [qz]
    refine rg_nil (ek_next (wk_cond_t rfl (wk_seq ?_)))
    refine wk_region [0, 0] rfl Kx ?_
    simp only [qy]
    refine rg_assign ?_
    simp only [qz]
    refine rg_assign ?_
    simp only [qz]
    refine rg_nil (ek_next (wk_ret (ek_then_ret (ek_block_ret (ek_then_ret (ek_then_ret (ek_block_ret (ek_then_ret ?_))))))))
    refine ek_ret (fun w hw => ⟨rfl, _, res_tt _ _ rfl, ?_⟩)
    (try simp only [qz])
    have hpb := pat_bad (xs := xs) (i := i) Ox hd2.out (modes_sT hd2.out) Ox
    rw [hpb, pat_no hpb]
    exact ⟨_, [], rfl, Own.nil _ _, .nil hw.below⟩
  (try simp only [qd, ne_eq] at h2)
  simp only [qz]
  refine rg_move ?_
  simp only [qz]
  refine rg_skip Rx ?_
  simp only [qz]
  refine rg_skip Rx ?_
  simp only [qz]
  refine rf_pick rfl rfl rfl ?_
  simp only [qz]
  refine rg_move ?_
  simp only [qz]
  refine rg_skip Rx ?_
  simp only [qz]
  refine rg_skip Rx ?_
  simp only [qz]
  refine rg_skip Rx ?_
  simp only [qz]
  refine rg_skip Rx ?_
  simp only [qz]
  refine rg_skip Rx ?_
  simp only [qz]
  refine rf_pick rfl rfl rfl ?_
  simp only [qz]
  refine rg_nil (ek_next (wk_cond_t rfl (wk_seq ?_)))
  refine wk_region [0, 0] rfl Kx ?_
  simp only [qy]
  refine rg_assign ?_
  simp only [qz]
  refine rg_assign ?_
  simp only [qz]
  refine rg_nil (ek_next (wk_ret (ek_then_ret (ek_block_ret (ek_then_ret (ek_then_ret (ek_block_ret (ek_then_ret ?_))))))))
  refine ek_ret (fun w hw => ⟨rfl, _, res_tt _ _ rfl, ?_⟩)
  (try simp only [qz])
  have hpb := pat_bad (xs := xs) (i := i) Ox hd2.out (modes_sT hd2.out) Ox
  rw [hpb, pat_no hpb]
  exact ⟨_, [], rfl, Own.nil _ _, .nil hw.below⟩

set_option maxRecDepth 100000 in
set_option maxHeartbeats 1000000 in
theorem amp1_any (xs : List Nm) (a : Option Addr) (c : Nat) (N : Nat) (hN : N ≤ 6) (hlx : Hid (xs.length = N * N)) (L M : List Int) (a1 a2 : Option Addr) (c1 c2 : Nat) (i k gm gi go : Nat) (hi : i < L.length) (hk : k < M.length) (hb1 : ∀ j, j < L.length → 0 ≤ gI L j ∧ gI L j < N) (hb2 : ∀ j, j < M.length → 0 ≤ gI M j ∧ gI M j < N) (w : World) (hA : AS w a (nms xs)) (hA1 : AS w a1 (zs L)) (hA2 : AS w a2 (zs M)) (hM : Hd w gm 24 #[.int .i64 N, .slice a xs.length c]) (hI : Hd w gi 37 #[.slice a1 L.length c1]) (hO : Hd w go 37 #[.slice a2 M.length c2]) : Calls Try.prog 93 #[.int .i64 (i : Int), .int .i64 (k : Int), .pointer (some ⟨gm, 0, none⟩), .pointer (some ⟨gi, 0, none⟩), .pointer (some ⟨go, 0, none⟩)] w fun e w' => e = .returned (nmV (ampF N xs L M i k)) ∧ Below w.heap.size w w' := by
  obtain ⟨b1, off1, rfl, hlt1, hcell1⟩ := AS.openI hA1 Ox
  obtain ⟨b2, off2, rfl, hlt2, hcell2⟩ := AS.openI hA2 Ox
  obtain ⟨r1, hr1⟩ : ∃ r : Nat, gI L i = r := ⟨(gI L i).toNat, by have := hb1 i hi; omega⟩
  obtain ⟨r2, hr2⟩ : ∃ r : Nat, gI M k = r := ⟨(gI M k).toNat, by have := hb2 k hk; omega⟩
  have hr1N : r1 < N := by have := hb1 i hi; omega
  have hr2N : r2 < N := by have := hb2 k hk; omega
  replace hr1 := Lib.hid hr1
  replace hr2 := Lib.hid hr2
  go_enter Try.func93, Try.ntmps93
  refine wk_start ?_
  refine wk_seq ?_
  refine wk_region [1] rfl Kx ?_
  simp only [qy]
  refine Rgn fun g1 => ?_
  simp only [qz]
  refine rg_nil (ek_next (wk_seq ?_))
  refine wk_draws_m (hz1 := (sk _ sn)) [(0, 0), (1, 0), (2, 0), (3, 0), (4, 0), (5, 0), (6, 0), (7, 0), (8, 0), (9, 0), (10, 1), (11, 2)] 11 Kx Kx (fun c d v a w h => by cases d <;> exact h) ?_
  simp only [List.map_cons, List.map_nil, List.getD_cons_zero, List.getD_cons_succ]
  refine rf_loadC (n := 2) (vs := [.int .i64 N, .slice a xs.length c]) rfl rfl rfl Try.underlying24 rfl Kx rfl (fun w hw => cells_range (Kn.hdB hw hM (by simp)) 0 2) ?_
  simp only [qz]
  refine rf_build (cs := fun a => #[cellAt (a.eval (.tmp 8)) 0, cellAt (a.eval (.tmp 8)) 1]) rfl rfl Kx ?_
  simp only [qz]
  refine rf_load (v := .slice (some ⟨b1, off1, none⟩) L.length c1) rfl rfl rfl Try.underlying37 rfl (fun w hw => (Kn.hdB hw hI (by simp)).at (i := 0) rfl) ?_
  simp only [qz]
  refine rg_move ?_
  simp only [qz]
  refine rf_indexS (n := i) (sz := 1) (j := off1 + i) rfl rfl rfl rfl Try.underlying37 Kx Ox Ox Ox ?_
  simp only [qz]
  refine rf_load (v := .int .i64 (r1 : Int)) rfl rfl rfl Try.underlying3 rfl (fun w hw => (Kn.cellB hw hlt1 (by simp) (off1 + i)).trans ((hcell1 i Ox).trans (by rw [hr1.out]))) ?_
  simp only [qz]
  refine rf_load (v := .slice (some ⟨b2, off2, none⟩) M.length c2) rfl rfl rfl Try.underlying37 rfl (fun w hw => (Kn.hdB hw hO (by simp)).at (i := 0) rfl) ?_
  simp only [qz]
  refine rg_move ?_
  simp only [qz]
  refine rf_indexS (n := k) (sz := 1) (j := off2 + k) rfl rfl rfl rfl Try.underlying37 Kx Ox Ox Ox ?_
  simp only [qz]
  refine rf_load (v := .int .i64 (r2 : Int)) rfl rfl rfl Try.underlying3 rfl (fun w hw => (Kn.cellB hw hlt2 (by simp) (off2 + k)).trans ((hcell2 k Ox).trans (by rw [hr2.out]))) ?_
  simp only [qz]
  apply rg_pure Rx Kx
  case hargs => exact Ax
  case h => exact fun w hw => at_any N r1 r2 xs a c hlx.out hN hr1N hr2N w (hA.kn0 hw)
  case hz => exact (fun _ h => by cases h; exact (sc _ sn))
  simp only [qz]
  refine rf_storeRM (n := 5) rfl rfl Kx rfl rfl (UpdR.here _ _ _ Nl) (sk _ sn) ?_
  simp only [qz, Nat.reduceAdd]
  refine rg_nil (ek_next (wk_ret ?_))
  refine ek_ret (fun w hw => ⟨rfl, _, run_results1 rfl rfl (Kn.hd0 hw) Try.underlying29 rfl Kx, ?_⟩)
  (try simp only [qz])
  exact ⟨by unfold ampF; rw [hr1.out, hr2.out, Int.toNat_natCast, Int.toNat_natCast], hw.below⟩

end Go.Proofs.Ytjeijnjaleldkaa
namespace Go.Proofs.Ytjeijnjaleldkaa
set_option linter.all false
open Go.RowKit

section
variable {n : Int} {xs : List Nm} {p r : List Int}
theorem ampR_20 (h : validB n xs = false) : ampR n xs p r = .error 20 := by unfold ampR; rw [h]; rfl
theorem ampR_21 (h : validB n xs = true) (hs : ¬ ((p.length : Int) = n ∧ (r.length : Int) = n)) : ampR n xs p r = .error 21 := by unfold ampR; rw [h, if_pos rfl, if_neg hs]
theorem ampR_2 (h : validB n xs = true) (hs : (p.length : Int) = n ∧ (r.length : Int) = n) (hb : ¬ (patB p = true ∧ patB r = true ∧ (modes p p.length).length = (modes r r.length).length)) : ampR n xs p r = .error 2 := by unfold ampR; rw [h, if_pos rfl, if_pos hs, if_neg hb]
theorem ampR_ok (h : validB n xs = true) (hs : (p.length : Int) = n ∧ (r.length : Int) = n) (hb : patB p = true ∧ patB r = true ∧ (modes p p.length).length = (modes r r.length).length) : ampR n xs p r = perF (modes p p.length).length (ampF n.toNat xs (modes r r.length) (modes p p.length)) := by unfold ampR; rw [h, if_pos rfl, if_pos hs, if_pos hb]
end
theorem nm_okQ {xs : List Nm} (h : allOk xs = true) (k : Nat) : (nm xs k).Ok := by
  by_cases hk : k < xs.length
  · exact ok_at h hk
  have e : nm xs k = Nm.zero := by
    show El.at NmE xs k = _
    unfold El.at
    rw [List.getD_eq_getElem?_getD, List.getElem?_eq_none Ox]
    rfl
  rw [e]; exact zero_ok
set_option maxRecDepth 100000 in
set_option maxHeartbeats 1000000 in
theorem mamplitude_any (n : Int) (xs : List Nm) (p r : List Int) (a a1 a2 : Option Addr) (c c1 c2 : Nat) (hl : xs.length ≤ 1000000) (hlp : p.length ≤ 1000000) (hlr : r.length ≤ 1000000) (w : World) (hA : AS w a (nms xs)) (hP : AS w a1 (zs p)) (hR : AS w a2 (zs r)) : Calls Try.prog 44 #[.agg #[.int .i64 n, .slice a xs.length c], .slice a1 p.length c1, .slice a2 r.length c2] w fun e w' => e = .returned (numV (ampR n xs p r)) ∧ Below w.heap.size w w' := by
  go_enter Try.func44, Try.ntmps44
  refine wk_start ?_
  refine wk_seq ?_
  refine wk_region [1, 1, 0] rfl Kx ?_
  simp only [qy]
  refine Rgn fun g1 => ?_
  simp only [qz]
  refine Rgn fun g2 => ?_
  simp only [qz]
  refine rg_assign ?_
  simp only [qz]
  refine rg_nil (ek_next (wk_seq (wk_block (wk_seq ?_))))
  refine wk_region [0, 1, 0, 0] rfl Kx ?_
  simp only [qy]
  refine rf_loadR (n := 2) rfl rfl rfl Try.underlying24 rfl Kx (fun w hw => Kn.hd0 (Kn.tl hw)) rfl rfl ?_
  simp only [qz]
  apply rg_pureb Rx Kx
  case hargs => exact Ax
  case h => exact fun w hw => mvalid_any n xs a c hl w (hA.kn0 hw)
  case hz => exact Nz
  intro x h1
  cases x
  · (try simp only [qd, ne_eq] at h1)
    simp only [qz]
    refine rf_not rfl rfl rfl ?_
    simp only [qz]
    refine rg_assign ?_
    simp only [qz]
    refine rg_nil (ek_next (wk_cond_t rfl (wk_seq ?_)))
    refine wk_region [0, 1, 0] rfl Kx ?_
    simp only [qy]
    refine rf_build (cs := fun a => #[.int .i64 0, .int .i64 0, .int .i64 0, .int .i64 0, .int .i64 0]) rfl rfl Kx ?_
    simp only [qz]
    refine rf_storeR (n := 5) rfl rfl Kx rfl rfl (UpdR.here _ _ _ Nl) Nz ?_
    simp only [qz, Nat.reduceAdd]
    refine rg_assign ?_
    simp only [qz]
    refine rg_nil (ek_next (wk_ret (ek_block_ret (ek_then_ret ?_))))
    refine ek_ret (fun w hw => ⟨rfl, _, run_results2 rfl rfl (Kn.hd0 hw) Try.underlying29 rfl Kx, ?_⟩)
    (try simp only [qz])
    exact ⟨by rw [ampR_20 h1]; rfl, hw.below⟩
  (try simp only [qd, ne_eq] at h1)
  simp only [qz]
  have hv := h1
  obtain ⟨N, rfl, hN1, hN, hlx, hlx36, hox⟩ := validB_N' hv
  replace hlx := Lib.hid hlx
  refine rf_not rfl rfl rfl ?_
  simp only [qz]
  refine rg_assign ?_
  simp only [qz]
  refine rg_nil (ek_next (wk_cond_f rfl (wk_seq ?_)))
  refine wk_region [0, 0, 0, 0, 0, 0, 0, 0, 0, 0, 0, 0, 0] rfl Kx ?_
  simp only [qy]
  refine rg_move ?_
  simp only [qz]
  refine rf_len rfl rfl rfl Try.underlying37 ?_
  simp only [qz]
  refine rf_field (n := 0) (j := 0) rfl rfl rfl Try.underlying24 rfl Kx rfl ?_
  simp only [qz]
  refine rf_load rfl rfl rfl Try.underlying3 rfl (fun w hw => (Kn.hd0 (Kn.tl hw)).at rfl) ?_
  simp only [qz]
  refine rfb_neq rfl rfl rfl rfl ?_
  intro x h2
  cases x
  · (try simp only [qd, ne_eq] at h2)
    simp only [qz]
    refine rg_move ?_
    simp only [qz]
    apply rg_soft_g
    case hg => rfl
    case hy => (intro w hw; go_simp; (try go_bits); exact Yld.mk _ _)
    simp only [qz]
    refine rf_len rfl rfl rfl Try.underlying37 ?_
    simp only [qz]
    refine rf_field (n := 0) (j := 0) rfl rfl rfl Try.underlying24 rfl Kx rfl ?_
    simp only [qz]
    refine rf_load rfl rfl rfl Try.underlying3 rfl (fun w hw => (Kn.hd0 (Kn.tl hw)).at rfl) ?_
    simp only [qz]
    refine rfb_neq rfl rfl rfl rfl ?_
    intro x h3
    cases x
    · (try simp only [qd, ne_eq] at h3)
      simp only [qz]
      have hsz : (p.length : Int) = N ∧ (r.length : Int) = N := ⟨by omega, by omega⟩
      refine rf_pick rfl rfl rfl ?_
      simp only [qz]
      refine rg_assign ?_
      simp only [qz]
      refine rg_nil (ek_next (wk_cond_f rfl (wk_skip (ek_block (ek_next (wk_seq ?_))))))
      refine wk_region [0, 1, 0, 0, 0, 1, 1, 0] rfl Kx ?_
      simp only [qy]
      refine rg_move ?_
      simp only [qz]
      apply rg_retP Rx Kx
      case hargs => exact Ax
      case h => exact fun w hw => pattern_any p a1 c1 hlp w (hP.kn0 hw)
      case hz => exact Nz
      intro vap vcp up hOp
      rcases hbp : patB p with _ | _
      · simp only [Act.put, Act.eval, qn, qv, Nat.reduceAdd]
        refine rg_move ?_
        simp only [qz]
        refine rf_extract rfl rfl rfl rfl ?_
        simp only [qz]
        refine rf_extract rfl rfl rfl rfl ?_
        simp only [qz]
        refine Rgn fun g4 => ?_
        simp only [qz]
        refine rf_store rfl rfl Kx rfl rfl (UpdR.here _ _ _ Nl) Nz ?_
        simp only [qz]
        refine rg_assign ?_
        simp only [qz]
        refine rg_nil (ek_next (wk_seq ?_))
        refine wk_region [0, 1, 0, 0, 0, 1, 1, 0] rfl Kx ?_
        simp only [qy]
        refine rg_move ?_
        simp only [qz]
        apply rg_retP Rx Kx
        case hargs => exact Ax
        case h => exact fun w hw => pattern_any r a2 c2 hlr w (hR.kn0 hw)
        case hz => exact Nz
        intro var vcr ur hOr
        rcases hbr : patB r with _ | _
        · simp only [Act.put, Act.eval, qn, qv, Nat.reduceAdd]
          refine rg_move ?_
          simp only [qz]
          refine rf_extract rfl rfl rfl rfl ?_
          simp only [qz]
          refine rf_extract rfl rfl rfl rfl ?_
          simp only [qz]
          refine Rgn fun g6 => ?_
          simp only [qz]
          refine rf_store rfl rfl Kx rfl rfl (UpdR.here _ _ _ Nl) Nz ?_
          simp only [qz]
          refine rg_assign ?_
          simp only [qz]
          refine rg_nil (ek_next (wk_seq (wk_seq ?_)))
          refine wk_region [0, 0, 0, 0, 0, 0, 0, 0, 0, 0, 0, 0, 0] rfl Kx ?_
          simp only [qy]
          refine rg_move ?_
          simp only [qz]
          refine rf_not rfl rfl rfl ?_
          simp only [qz]
          refine rg_move ?_
          simp only [qz]
          refine rg_skip Rx ?_
          simp only [qz]
          refine rg_skip Rx ?_
          simp only [qz]
          refine rf_pick rfl rfl rfl ?_
          simp only [qz]
          refine rg_move ?_
          simp only [qz]
          refine rg_skip Rx ?_
          simp only [qz]
          refine rg_skip Rx ?_
          simp only [qz]
          refine rg_skip Rx ?_
          simp only [qz]
          refine rg_skip Rx ?_
          simp only [qz]
          refine rg_skip Rx ?_
          simp only [qz]
          refine rf_pick rfl rfl rfl ?_
          simp only [qz]
          refine rg_nil (ek_next (wk_cond_t rfl (wk_seq ?_)))
          refine wk_region [0, 1, 0] rfl Kx ?_
          simp only [qy]
          refine rf_build (cs := fun a => #[.int .i64 0, .int .i64 0, .int .i64 0, .int .i64 0, .int .i64 0]) rfl rfl Kx ?_
          simp only [qz]
          refine rf_storeR (n := 5) rfl rfl Kx rfl rfl (UpdR.there _ (UpdR.app _ (UpdR.there _ (UpdR.app _ (UpdR.here _ _ _ Nl))))) Nz ?_
          simp only [qz, Nat.reduceAdd]
          refine rg_assign ?_
          simp only [qz]
          refine rg_nil (ek_next (wk_ret (ek_then_ret ?_)))
          refine ek_ret (fun w hw => ⟨rfl, _, run_results2 rfl rfl (Kn.hd0 (Kn.tlU (Kn.tl (Kn.tlU (Kn.tl hw))))) Try.underlying29 rfl Kx, ?_⟩)
          (try simp only [qz])
          exact ⟨by rw [ampR_2 hv hsz (fun h => by first | (rw [hbp] at h; exact absurd h.1 (by decide)) | (rw [hbr] at h; exact absurd h.2.1 (by decide)) | omega)]; rfl, hw.below⟩
        have hplr : patL r = modes r r.length := by (unfold patL; rw [hbr]; rfl)
        rw [hplr] at hOr ⊢
        simp only [qz]
        refine rg_move ?_
        simp only [qz]
        refine rf_extract rfl rfl rfl rfl ?_
        simp only [qz]
        refine rf_extract rfl rfl rfl rfl ?_
        simp only [qz]
        refine Rgn fun g7 => ?_
        simp only [qz]
        refine rf_store rfl rfl Kx rfl rfl (UpdR.here _ _ _ Nl) Nz ?_
        simp only [qz]
        refine rg_assign ?_
        simp only [qz]
        refine rg_nil (ek_next (wk_seq (wk_seq ?_)))
        refine wk_region [0, 0, 0, 0, 0, 0, 0, 0, 0, 0, 0, 0, 0] rfl Kx ?_
        simp only [qy]
        refine rg_move ?_
        simp only [qz]
        refine rf_not rfl rfl rfl ?_
        simp only [qz]
        refine rg_move ?_
        simp only [qz]
        refine rg_skip Rx ?_
        simp only [qz]
        refine rg_skip Rx ?_
        simp only [qz]
        refine rf_pick rfl rfl rfl ?_
        simp only [qz]
        refine rg_move ?_
        simp only [qz]
        refine rg_skip Rx ?_
        simp only [qz]
        refine rg_skip Rx ?_
        simp only [qz]
        refine rg_skip Rx ?_
        simp only [qz]
        refine rg_skip Rx ?_
        simp only [qz]
        refine rg_skip Rx ?_
        simp only [qz]
        refine rf_pick rfl rfl rfl ?_
        simp only [qz]
        refine rg_nil (ek_next (wk_cond_t rfl (wk_seq ?_)))
        refine wk_region [0, 1, 0] rfl Kx ?_
        simp only [qy]
        refine rf_build (cs := fun a => #[.int .i64 0, .int .i64 0, .int .i64 0, .int .i64 0, .int .i64 0]) rfl rfl Kx ?_
        simp only [qz]
        refine rf_storeR (n := 5) rfl rfl Kx rfl rfl (UpdR.there _ (UpdR.app _ (UpdR.there _ (UpdR.app _ (UpdR.here _ _ _ Nl))))) Nz ?_
        simp only [qz, Nat.reduceAdd]
        refine rg_assign ?_
        simp only [qz]
        refine rg_nil (ek_next (wk_ret (ek_then_ret ?_)))
        refine ek_ret (fun w hw => ⟨rfl, _, run_results2 rfl rfl (Kn.hd0 (Kn.tlU (Kn.tl (Kn.tlU (Kn.tl hw))))) Try.underlying29 rfl Kx, ?_⟩)
        (try simp only [qz])
        exact ⟨by rw [ampR_2 hv hsz (fun h => by first | (rw [hbp] at h; exact absurd h.1 (by decide)) | (rw [hbr] at h; exact absurd h.2.1 (by decide)) | omega)]; rfl, hw.below⟩
      have hplp : patL p = modes p p.length := by (unfold patL; rw [hbp]; rfl)
      rw [hplp] at hOp ⊢
      simp only [qz]
      refine rg_move ?_
      simp only [qz]
      refine rf_extract rfl rfl rfl rfl ?_
      simp only [qz]
      refine rf_extract rfl rfl rfl rfl ?_
      simp only [qz]
      refine Rgn fun g8 => ?_
      simp only [qz]
      refine rf_store rfl rfl Kx rfl rfl (UpdR.here _ _ _ Nl) Nz ?_
      simp only [qz]
      refine rg_assign ?_
      simp only [qz]
      refine rg_nil (ek_next (wk_seq ?_))
      refine wk_region [0, 1, 0, 0, 0, 1, 1, 0] rfl Kx ?_
      simp only [qy]
      refine rg_move ?_
      simp only [qz]
      apply rg_retP Rx Kx
      case hargs => exact Ax
      case h => exact fun w hw => pattern_any r a2 c2 hlr w (hR.kn0 hw)
      case hz => exact Nz
      intro var vcr ur hOr
      rcases hbr : patB r with _ | _
      · simp only [Act.put, Act.eval, qn, qv, Nat.reduceAdd]
        refine rg_move ?_
        simp only [qz]
        refine rf_extract rfl rfl rfl rfl ?_
        simp only [qz]
        refine rf_extract rfl rfl rfl rfl ?_
        simp only [qz]
        refine Rgn fun g10 => ?_
        simp only [qz]
        refine rf_store rfl rfl Kx rfl rfl (UpdR.here _ _ _ Nl) Nz ?_
        simp only [qz]
        refine rg_assign ?_
        simp only [qz]
        refine rg_nil (ek_next (wk_seq (wk_seq ?_)))
        refine wk_region [0, 0, 0, 0, 0, 0, 0, 0, 0, 0, 0, 0, 0] rfl Kx ?_
        simp only [qy]
        refine rg_move ?_
        simp only [qz]
        refine rf_not rfl rfl rfl ?_
        simp only [qz]
        refine rg_move ?_
        simp only [qz]
        apply rg_soft_g
        case hg => rfl
        case hy => (intro w hw; go_simp; (try go_bits); exact Yld.mk _ _)
        simp only [qz]
        refine rf_not rfl rfl rfl ?_
        simp only [qz]
        refine rf_pick rfl rfl rfl ?_
        simp only [qz]
        refine rg_move ?_
        simp only [qz]
        refine rg_skip Rx ?_
        simp only [qz]
        refine rg_skip Rx ?_
        simp only [qz]
        refine rg_skip Rx ?_
        simp only [qz]
        refine rg_skip Rx ?_
        simp only [qz]
        refine rg_skip Rx ?_
        simp only [qz]
        refine rf_pick rfl rfl rfl ?_
        simp only [qz]
        refine rg_nil (ek_next (wk_cond_t rfl (wk_seq ?_)))
        refine wk_region [0, 1, 0] rfl Kx ?_
        simp only [qy]
        refine rf_build (cs := fun a => #[.int .i64 0, .int .i64 0, .int .i64 0, .int .i64 0, .int .i64 0]) rfl rfl Kx ?_
        simp only [qz]
        refine rf_storeR (n := 5) rfl rfl Kx rfl rfl (UpdR.there _ (UpdR.app _ (UpdR.there _ (UpdR.app _ (UpdR.here _ _ _ Nl))))) Nz ?_
        simp only [qz, Nat.reduceAdd]
        refine rg_assign ?_
        simp only [qz]
        refine rg_nil (ek_next (wk_ret (ek_then_ret ?_)))
        refine ek_ret (fun w hw => ⟨rfl, _, run_results2 rfl rfl (Kn.hd0 (Kn.tlU (Kn.tl (Kn.tlU (Kn.tl hw))))) Try.underlying29 rfl Kx, ?_⟩)
        (try simp only [qz])
        exact ⟨by rw [ampR_2 hv hsz (fun h => by first | (rw [hbp] at h; exact absurd h.1 (by decide)) | (rw [hbr] at h; exact absurd h.2.1 (by decide)) | omega)]; rfl, hw.below⟩
      have hplr : patL r = modes r r.length := by (unfold patL; rw [hbr]; rfl)
      rw [hplr] at hOr ⊢
      simp only [qz]
      refine rg_move ?_
      simp only [qz]
      refine rf_extract rfl rfl rfl rfl ?_
      simp only [qz]
      refine rf_extract rfl rfl rfl rfl ?_
      simp only [qz]
      refine Rgn fun g11 => ?_
      simp only [qz]
      refine rf_store rfl rfl Kx rfl rfl (UpdR.here _ _ _ Nl) Nz ?_
      simp only [qz]
      refine rg_assign ?_
      simp only [qz]
      refine rg_nil (ek_next (wk_seq (wk_seq ?_)))
      refine wk_region [0, 0, 0, 0, 0, 0, 0, 0, 0, 0, 0, 0, 0] rfl Kx ?_
      simp only [qy]
      refine rg_move ?_
      simp only [qz]
      refine rf_not rfl rfl rfl ?_
      simp only [qz]
      refine rg_move ?_
      simp only [qz]
      apply rg_soft_g
      case hg => rfl
      case hy => (intro w hw; go_simp; (try go_bits); exact Yld.mk _ _)
      simp only [qz]
      refine rf_not rfl rfl rfl ?_
      simp only [qz]
      refine rf_pick rfl rfl rfl ?_
      simp only [qz]
      refine rg_move ?_
      simp only [qz]
      refine rf_load rfl rfl rfl Try.underlying37 rfl (fun w hw => (Kn.hd0 (Kn.tlU (Kn.tl hw))).at rfl) ?_
      simp only [qz]
      refine rf_len rfl rfl rfl Try.underlying37 ?_
      simp only [qz]
      refine rf_load rfl rfl rfl Try.underlying37 rfl (fun w hw => (Kn.hd0 hw).at rfl) ?_
      simp only [qz]
      refine rf_len rfl rfl rfl Try.underlying37 ?_
      simp only [qz]
      refine rfb_neq rfl rfl rfl rfl ?_
      intro x h4
      cases x
      · (try simp only [qd, ne_eq] at h4)
        simp only [qz]
        have hlen : (modes p p.length).length = (modes r r.length).length := by omega
        refine rf_pick rfl rfl rfl ?_
        simp only [qz]
        refine rg_nil (ek_next (wk_cond_f rfl (wk_skip (ek_next (wk_seq ?_)))))
        refine wk_region [0, 0, 0, 1, 0, 0, 1, 0] rfl Kx ?_
        simp only [qy]
        refine rf_load rfl rfl rfl Try.underlying37 rfl (fun w hw => (Kn.hd0 (Kn.tlU (Kn.tl hw))).at rfl) ?_
        simp only [qz]
        refine rf_len rfl rfl rfl Try.underlying37 ?_
        simp only [qz]
        apply rg_soft
        case hy => (intro w hw; go_simp; (try go_bits); exact Yld.mk _ _)
        simp only [qz]
        apply rg_pure Rx Kx
        case hargs => exact Ax
        case h => exact fun w hw => permanent_any (modes p p.length).length (by have := (pat_len hbp).2; omega) (ampF N xs (modes r r.length) (modes p p.length)) _ (fun i k _ _ => nm_okQ hox _) w ⟨_, _, _, rfl, by kernel_rfl, fun w' hb vs rr ⟨i, k, hi, hk, hv', hr'⟩ => by
            subst hv' hr'
            have h := amp1_any xs a c N hN hlx (modes r r.length) (modes p p.length) _ _ _ _ i k g1 g11 g8 Ox hk (fun j hj => by have := modes_at (xs := r) (i := r.length) j hj; omega) (fun j hj => by have := modes_at (xs := p) (i := p.length) j hj; omega) w' ((hA.kn0 hw).below hb) ((hOr.asI (hw.perm (perm_atU (l := [_]) (u := ur) (List.Perm.refl _)))).below hb) ((hOp.asI (hw.perm ((((((((List.Perm.refl _).cons _).trans (List.perm_middle (l₁ := up)).symm).append_left _).trans (List.perm_append_comm_assoc ur up _)).cons _).trans (List.perm_middle (l₁ := up)).symm).trans ((List.Perm.refl _).append_left _)))).below hb) ((Kn.hd0 (Kn.tl (Kn.tlU (Kn.tl (Kn.tlU (Kn.tl hw)))))).belowS hb) ((Kn.hd0 hw).belowS hb) ((Kn.hd0 (Kn.tlU (Kn.tl hw))).belowS hb)
            simpa using h⟩
        case hz => exact Nz
        simp only [qz]
        obtain ⟨zl, el, hve⟩ := numV_ve (perF (modes p p.length).length (ampF N xs (modes r r.length) (modes p p.length)))
        rw [hve]
        replace hve := Lib.hid hve
        refine rf_extract rfl rfl rfl rfl ?_
        simp only [qz]
        refine rf_extract rfl rfl rfl rfl ?_
        simp only [qz]
        refine rf_storeR (n := 5) rfl rfl Kx rfl rfl (UpdR.there _ (UpdR.app _ (UpdR.there _ (UpdR.app _ (UpdR.here _ _ _ Nl))))) Nz ?_
        simp only [qz, Nat.reduceAdd]
        refine rg_assign ?_
        simp only [qz]
        refine rg_nil (ek_next (wk_ret ?_))
        refine ek_ret (fun w hw => ⟨rfl, _, run_results2 rfl rfl (Kn.hd0 (Kn.tlU (Kn.tl (Kn.tlU (Kn.tl hw))))) Try.underlying29 rfl Kx, ?_⟩)
        (try simp only [qz])
        exact ⟨by rw [ampR_ok hv hsz ⟨hbp, hbr, hlen⟩, Int.toNat_natCast, hve.out]; rfl, hw.below⟩
      (try simp only [qd, ne_eq] at h4)
      simp only [qz]
      refine rf_pick rfl rfl rfl ?_
      simp only [qz]
      refine rg_nil (ek_next (wk_cond_t rfl (wk_seq ?_)))
      refine wk_region [0, 1, 0] rfl Kx ?_
      simp only [qy]
      refine rf_build (cs := fun a => #[.int .i64 0, .int .i64 0, .int .i64 0, .int .i64 0, .int .i64 0]) rfl rfl Kx ?_
      simp only [qz]
      refine rf_storeR (n := 5) rfl rfl Kx rfl rfl (UpdR.there _ (UpdR.app _ (UpdR.there _ (UpdR.app _ (UpdR.here _ _ _ Nl))))) Nz ?_
      simp only [qz, Nat.reduceAdd]
      refine rg_assign ?_
      simp only [qz]
      refine rg_nil (ek_next (wk_ret (ek_then_ret ?_)))
      refine ek_ret (fun w hw => ⟨rfl, _, run_results2 rfl rfl (Kn.hd0 (Kn.tlU (Kn.tl (Kn.tlU (Kn.tl hw))))) Try.underlying29 rfl Kx, ?_⟩)
      (try simp only [qz])
      exact ⟨by rw [ampR_2 hv hsz (fun h => by first | (rw [hbp] at h; exact absurd h.1 (by decide)) | (rw [hbr] at h; exact absurd h.2.1 (by decide)) | omega)]; rfl, hw.below⟩
    (try simp only [qd, ne_eq] at h3)
    simp only [qz]
    refine rf_pick rfl rfl rfl ?_
    simp only [qz]
    refine rg_assign ?_
    simp only [qz]
    refine rg_nil (ek_next (wk_cond_t rfl (wk_seq ?_)))
    refine wk_region [0, 1, 0] rfl Kx ?_
    simp only [qy]
    refine rf_build (cs := fun a => #[.int .i64 0, .int .i64 0, .int .i64 0, .int .i64 0, .int .i64 0]) rfl rfl Kx ?_
    simp only [qz]
    refine rf_storeR (n := 5) rfl rfl Kx rfl rfl (UpdR.here _ _ _ Nl) Nz ?_
    simp only [qz, Nat.reduceAdd]
    refine rg_assign ?_
    simp only [qz]
    refine rg_nil (ek_next (wk_ret (ek_block_ret (ek_then_ret ?_))))
    refine ek_ret (fun w hw => ⟨rfl, _, run_results2 rfl rfl (Kn.hd0 hw) Try.underlying29 rfl Kx, ?_⟩)
    (try simp only [qz])
    exact ⟨by rw [ampR_21 hv (fun h => by omega)]; rfl, hw.below⟩
  (try simp only [qd, ne_eq] at h2)
  simp only [qz]
  refine rg_move ?_
  simp only [qz]
  refine rg_skip Rx ?_
  simp only [qz]
  refine rg_skip Rx ?_
  simp only [qz]
  refine rg_skip Rx ?_
  simp only [qz]
  refine rg_skip Rx ?_
  simp only [qz]
  refine rg_skip Rx ?_
  simp only [qz]
  refine rf_pick rfl rfl rfl ?_
  simp only [qz]
  refine rg_assign ?_
  simp only [qz]
  refine rg_nil (ek_next (wk_cond_t rfl (wk_seq ?_)))
  refine wk_region [0, 1, 0] rfl Kx ?_
  simp only [qy]
  refine rf_build (cs := fun a => #[.int .i64 0, .int .i64 0, .int .i64 0, .int .i64 0, .int .i64 0]) rfl rfl Kx ?_
  simp only [qz]
  refine rf_storeR (n := 5) rfl rfl Kx rfl rfl (UpdR.here _ _ _ Nl) Nz ?_
  simp only [qz, Nat.reduceAdd]
  refine rg_assign ?_
  simp only [qz]
  refine rg_nil (ek_next (wk_ret (ek_block_ret (ek_then_ret ?_))))
  refine ek_ret (fun w hw => ⟨rfl, _, run_results2 rfl rfl (Kn.hd0 hw) Try.underlying29 rfl Kx, ?_⟩)
  (try simp only [qz])
  exact ⟨by rw [ampR_21 hv (fun h => by omega)]; rfl, hw.below⟩

end Go.Proofs.Ytjeijnjaleldkaa
namespace Go.Proofs.Ytjeijnjaleldkaa
set_option linter.all false

theorem nm_okP {xs : List Nm} (h : allOk xs = true) (k : Nat) : (nm xs k).Ok := by
  by_cases hk : k < xs.length
  · exact ok_at h hk
  · have e : nm xs k = Nm.zero := by
      show El.at NmE xs k = _
      unfold El.at
      rw [List.getD_eq_getElem?_getD, List.getElem?_eq_none Ox]
      rfl
    rw [e]; exact zero_ok
def minor (rows : List (List Nm)) (k : Nat) : List (List Nm) := rows.tail.map fun s => s.eraseIdx k
def restL (rows : List (List Nm)) (k : Nat) : Nat → List (List Nm)
  | 0 => []
  | j + 1 => restL rows k j ++ [(rows.getD (j + 1) []).eraseIdx k]
theorem restL_len (rows : List (List Nm)) (k : Nat) : ∀ j, (restL rows k j).length = j
  | 0 => rfl
  | j + 1 => by simp [restL, restL_len rows k j]
theorem restL_take (r : List Nm) (l : List (List Nm)) (k : Nat) : ∀ j, j ≤ l.length → restL (r :: l) k j = (l.take j).map fun s => s.eraseIdx k
  | 0, _ => by simp [restL]
  | j + 1, h => by
    have h1 : j < l.length := by omega
    rw [restL, restL_take r l k j Ox, List.take_succ, List.map_append, List.getElem?_eq_getElem h1]
    show _ ++ [((r :: l).getD (j + 1) []).eraseIdx k] = _
    rw [List.getD_cons_succ, List.getD_eq_getElem?_getD, List.getElem?_eq_getElem h1]
    rfl
theorem restL_all {rows : List (List Nm)} {N : Nat} (h : rows.length = N + 1) (k : Nat) : restL rows k N = minor rows k := by
  cases rows with
  | nil => simp at h
  | cons r l =>
    have hl : l.length = N := by simpa using h
    rw [restL_take r l k N Ox, ← hl, List.take_length]
    rfl
theorem minor_len {rows : List (List Nm)} {N : Nat} (h : rows.length = N + 1) (k : Nat) : (minor rows k).length = N := by
  simp [minor, h]
def prF (N : Nat) (rows : List (List Nm)) (k : Nat) : Nm := (nm (rows.headD []) k).mulR (pR N (minor rows k))
theorem pR_succ (N : Nat) (rows : List (List Nm)) : pR (N + 1) rows = sumN (N + 1) (prF N rows) := rfl
theorem row0 {rows : List (List Nm)} {N : Nat} (h : rows.length = N + 1) : rows.getD 0 [] = rows.headD [] := by
  cases rows with
  | nil => simp at h
  | cons r l => rfl
theorem Sq.get {n : Nat} {rows : List (List Nm)} (h : Sq n rows) {k : Nat} (hk : k < rows.length) : (rows.getD k []).length = n ∧ ∀ z ∈ rows.getD k [], z.Ok := by
  have : rows.getD k [] ∈ rows := by
    rw [List.getD_eq_getElem?_getD, List.getElem?_eq_getElem hk]
    exact List.getElem_mem hk
  exact h _ this
theorem Sq.minor {N : Nat} {rows : List (List Nm)} (h : Sq (N + 1) rows) {k : Nat} (hk : k < N + 1) : Sq N (minor rows k) := Sq.erase h.tail hk
theorem head_ok {N : Nat} {rows : List (List Nm)} (hl : rows.length = N + 1) (hS : Sq (N + 1) rows) {k : Nat} (hk : k < N + 1) : (nm (rows.headD []) k).Ok := by
  have h := hS.get (show 0 < rows.length by omega)
  rw [row0 hl] at h
  exact h.2 _ (NmE.at_mem Ox)
theorem minor_bd {N : Nat} {rows : List (List Nm)} (hN : N ≤ 4) (hl : rows.length = N + 1) (hS : Sq (N + 1) rows) {k : Nat} (hk : k < N + 1) : Bd N (Bc N) (pR N (minor rows k)) :=
  pR_bd N _ Ox (minor_len hl k) (hS.minor hk)
theorem prF_bd {N : Nat} {rows : List (List Nm)} (hN : N ≤ 4) (hl : rows.length = N + 1) (hS : Sq (N + 1) rows) {k : Nat} (hk : k < N + 1) : Bd (N + 1) (4503599627370496 * Bc N) (prF N rows k) :=
  Bd.mul (head_ok hl hS hk) (minor_bd hN hl hS hk)
theorem Bd.to {n : Nat} {M m : Int} {z : Nm} (h : Bd n M z) (h1 : z.k ≤ m) (h2 : m ≤ 40 * n) : (z.to m).Fit M :=
  up_down (40 * (n : Int) - m).toNat (by rw [up_to h1 h2]; exact h.fit)
theorem Bc_4 : Bc 4 = 1684996666696914987166688442938726917102321526408785780068975640576 := by decide
theorem pr_step {N : Nat} {rows : List (List Nm)} (hN : N ≤ 4) (hl : rows.length = N + 1) (hS : Sq (N + 1) rows) {k : Nat} (hk : k < N + 1) :
    ((sumN k (prF N rows)).to (max (sumN k (prF N rows)).k (prF N rows k).k)).Fit 9850501549098619803069760025035903451269934817616361666987073351061430442874302652853566563721228910201656997576704 ∧ ((prF N rows k).to (max (sumN k (prF N rows)).k (prF N rows k).k)).Fit 9850501549098619803069760025035903451269934817616361666987073351061430442874302652853566563721228910201656997576704 ∧
    0 ≤ (sumN k (prF N rows)).k ∧ (sumN k (prF N rows)).k ≤ 10000 ∧ 0 ≤ (prF N rows k).k ∧ (prF N rows k).k ≤ 10000 := by
  have h1 := prF_bd hN hl hS hk
  have hb := Bc_pos N
  have hb4 : Bc N ≤ Bc 4 := Bc_mono hN
  rw [Bc_4] at hb4
  have h2 := sumN_bd (prF N rows) (M := 4503599627370496 * Bc N) Ox k fun j hj => prF_bd hN hl hS Ox
  have k0 := h1.k0; have k1 := h1.k1; have k2 := h2.k0; have k3 := h2.k1
  have hkM : (k : Int) * (4503599627370496 * Bc N) ≤ 5 * (4503599627370496 * Bc N) := Int.mul_le_mul_of_nonneg_right Ox Ox
  have e2 : (40 : Int) * ((N + 1 : Nat) : Int) ≤ 200 := by omega
  exact ⟨Nm.fit_mono (h2.to Ox Ox) Ox, Nm.fit_mono (h1.to Ox Ox) Ox, k2, by omega, k0, by omega⟩
theorem pr_sum {N : Nat} {rows : List (List Nm)} (hN : N ≤ 5) (hl : rows.length = N) (hS : Sq N rows) : (pR N rows).Fit 9850501549098619803069760025035903451269934817616361666987073351061430442874302652853566563721228910201656997576704 ∧ 0 ≤ (pR N rows).k ∧ (pR N rows).k ≤ 10000 := by
  have h := pR_bd N rows Ox hl hS
  have hb5 : Bc N ≤ Bc 5 := Bc_mono hN
  rw [Bc_5] at hb5
  have k0 := h.k0; have k1 := h.k1
  exact ⟨Nm.fit_mono h.self Ox, k0, by omega⟩
theorem prodB_pr {x y : Nm} {n : Nat} (hx : x.Ok) (hn : n ≤ 4) (hy : Bd n (Bc n) y) : ProdB x y := by
  obtain ⟨a1, a2, a3, a4, a5, a6, a7, a8⟩ := hx.fit
  have hb4 : Bc n ≤ Bc 4 := Bc_mono hn
  rw [Bc_4] at hb4
  obtain ⟨b1, b2, b3, b4, b5, b6, b7, b8⟩ := Nm.fit_mono hy.self hb4
  have key : ∀ a b : Int, -1000000000 ≤ a → a ≤ 1000000000 → -1684996666696914987166688442938726917102321526408785780068975640576 ≤ b → b ≤ 1684996666696914987166688442938726917102321526408785780068975640576 → -1231312693637327475383720003129487931408741852202045208373384168882678805359287831606695820465153613775207124697088 ≤ a * b ∧ a * b ≤ 1231312693637327475383720003129487931408741852202045208373384168882678805359287831606695820465153613775207124697088 := fun a b h1 h2 h3 h4 => by
    have := mul_bd h1 h2 h3 h4
    omega
  intro i k hi hk
  rcases lt4 hi with rfl | rfl | rfl | rfl <;> rcases lt4 hk with rfl | rfl | rfl | rfl <;> exact key _ _ (by assumption) (by assumption) (by assumption) (by assumption)

end Go.Proofs.Ytjeijnjaleldkaa
namespace Go.Proofs.Ytjeijnjaleldkaa
set_option linter.all false

theorem li_iff {p : List Int} : (liB p = true ↔ patB p = true) ∧ (patB p = true → liN p = ((modes p p.length).length : Int)) := by
  refine ⟨Iff.rfl, fun h => ?_⟩
  have h1 := (pat_len h).1
  unfold patB at h
  rw [Bool.and_eq_true] at h
  unfold liN
  rw [if_pos h.1, h1]
/-- The error that is asked first. -/
def askE (n : Int) (xs : List Nm) (p r : List Int) : Int := if validB n xs then (if (p.length : Int) = n ∧ (r.length : Int) = n then (if liB p = true ∧ liB r = true ∧ liN p = liN r then 0 else 2) else 21) else 20
section
variable {n : Int} {xs : List Nm} {p r : List Int}
theorem askE_20 (h : validB n xs = false) : askE n xs p r = 20 := by unfold askE; rw [h]; rfl
theorem askE_21 (h : validB n xs = true) (hs : ¬ ((p.length : Int) = n ∧ (r.length : Int) = n)) : askE n xs p r = 21 := by unfold askE; rw [h, if_pos rfl, if_neg hs]
theorem askE_2 (h : validB n xs = true) (hs : (p.length : Int) = n ∧ (r.length : Int) = n) (hb : ¬ (liB p = true ∧ liB r = true ∧ liN p = liN r)) : askE n xs p r = 2 := by unfold askE; rw [h, if_pos rfl, if_pos hs, if_neg hb]
theorem askE_0 (h : validB n xs = true) (hs : (p.length : Int) = n ∧ (r.length : Int) = n) (hb : liB p = true ∧ liB r = true ∧ liN p = liN r) : askE n xs p r = 0 := by unfold askE; rw [h, if_pos rfl, if_pos hs, if_pos hb]
theorem ask_amp : (askE n xs p r ≠ 0 → ampR n xs p r = .error (askE n xs p r)) ∧ (askE n xs p r = 0 → validB n xs = true ∧ ((p.length : Int) = n ∧ (r.length : Int) = n) ∧ (patB p = true ∧ patB r = true ∧ (modes p p.length).length = (modes r r.length).length)) := by
  cases hv : validB n xs with
  | false => rw [askE_20 hv, ampR_20 hv]; exact ⟨fun _ => rfl, fun h => absurd h (by decide)⟩
  | true =>
  by_cases hs : (p.length : Int) = n ∧ (r.length : Int) = n
  · by_cases hb : liB p = true ∧ liB r = true ∧ liN p = liN r
    · rw [askE_0 hv hs hb]
      refine ⟨fun h => absurd rfl h, fun _ => ⟨rfl, hs, hb.1, hb.2.1, ?_⟩⟩
      have h1 := (li_iff (p := p)).2 hb.1
      have h2 := (li_iff (p := r)).2 hb.2.1
      have := hb.2.2
      omega
    · rw [askE_2 hv hs hb]
      refine ⟨fun _ => ?_, fun h => absurd h (by decide)⟩
      refine ampR_2 hv hs fun ⟨h1, h2, h3⟩ => hb ⟨h1, h2, ?_⟩
      have h4 := (li_iff (p := p)).2 h1
      have h5 := (li_iff (p := r)).2 h2
      omega
  · rw [askE_21 hv hs, ampR_21 hv hs]
    exact ⟨fun _ => rfl, fun h => absurd h (by decide)⟩
end
/-- The elements of row i at the modes of the first k numbers. -/
def rowA (N : Nat) (xs : List Nm) (p : List Int) (i k : Nat) : List Nm := (modes p k).map fun m => nm xs (i * N + m.toNat)
def rowsA (N : Nat) (xs : List Nm) (p : List Int) (L : List Int) : List (List Nm) := L.map fun m => rowA N xs p m.toNat p.length
theorem rowA_step (N : Nat) (xs : List Nm) (p : List Int) (i k : Nat) : rowA N xs p i (k + 1) = rowA N xs p i k ++ List.replicate (gI p k).toNat (nm xs (i * N + k)) := by
  show (modes p k ++ List.replicate _ _).map _ = _
  rw [List.map_append, List.map_replicate, Int.toNat_natCast]
  rfl
theorem rowsA_step (N : Nat) (xs : List Nm) (p r : List Int) (i : Nat) : rowsA N xs p (modes r (i + 1)) = rowsA N xs p (modes r i) ++ List.replicate (gI r i).toNat (rowA N xs p i p.length) := by
  show (modes r i ++ List.replicate _ _).map _ = _
  rw [List.map_append, List.map_replicate, Int.toNat_natCast]
  rfl
theorem rep_snoc {α : Type} (l : List α) (n : Nat) (x : α) : l ++ List.replicate n x ++ [x] = l ++ List.replicate (n + 1) x := by
  rw [List.append_assoc, List.replicate_succ']
theorem rowsA_sq {N : Nat} {xs : List Nm} {p L : List Int} (hok : allOk xs = true) : Sq (modes p p.length).length (rowsA N xs p L) := by
  intro s hs
  obtain ⟨m, -, rfl⟩ := List.mem_map.1 hs
  refine ⟨by simp [rowA], fun z hz => ?_⟩
  obtain ⟨k, -, rfl⟩ := List.mem_map.1 hz
  exact nm_okQ hok _
theorem range_gI (L : List Int) : (List.range L.length).map (gI L) = L := by
  refine List.ext_getElem (by simp) fun i h1 h2 => ?_
  simp only [List.getElem_map, List.getElem_range]
  unfold gI
  rw [List.getD_eq_getElem?_getD, List.getElem?_eq_getElem h2]
  rfl
theorem amp_doc {N : Nat} {xs : List Nm} {p r : List Int} (hok : allOk xs = true) (h5 : (modes p p.length).length ≤ 6) (hlen : (modes p p.length).length = (modes r r.length).length) :
    perF (modes p p.length).length (ampF N xs (modes r r.length) (modes p p.length)) = (pR (modes p p.length).length (rowsA N xs p (modes r r.length))).mk' := by
  generalize hM : modes p p.length = M at *
  generalize hL : modes r r.length = L at *
  have hrows : rowsA N xs p L = tbl (fun i k => nm xs (i.toNat * N + k.toNat)) L M := by
    unfold rowsA rowA tbl
    rw [hM]
  rw [hrows]
  unfold perF
  have hf : ∀ i k, i < M.length → k < M.length → (ampF N xs L M i k).Ok := fun i k _ _ => nm_okQ hok _
  obtain ⟨e0, e1, e2⟩ := expF_ok (f := ampF N xs L M) hf
  have hv1 : (perN M.length (ampF N xs L M)).val = pm (fun i k => (ampF N xs L M i k).val) (List.range M.length) (List.range M.length) := by
    rw [← wyQ_full _ h5]
    exact wyS_val h5 e0 (fun i k hi hk => ⟨(hf i k hi hk).k0, e2 i k hi hk⟩) M.length (2 ^ M.length - 1) (Nat.le_refl _)
  have hv2 : (pR M.length (tbl (fun (i k : Int) => nm xs (i.toNat * N + k.toNat)) L M)).val = pm (fun (i k : Int) => (nm xs (i.toNat * N + k.toNat)).val) L M :=
    pR_val (fun (i k : Int) => nm xs (i.toNat * N + k.toNat)) (fun i k => (nm_okQ hok _).k0) M.length _ _ hlen.symm rfl
  have hv3 : pm (fun (i k : Int) => (nm xs (i.toNat * N + k.toNat)).val) L M = pm (fun i k => (ampF N xs L M i k).val) (List.range M.length) (List.range M.length) := by
    have h1 := range_gI L
    have h2 := range_gI M
    rw [← hlen] at h1
    have := pm_map (fun (i k : Int) => (nm xs (i.toNat * N + k.toNat)).val) (gI L) (gI M) (List.range M.length) (List.range M.length)
    rw [h1, h2] at this
    exact this
  have hk1 := (perN_fit h5 hf).2.1
  have hk2 : 0 ≤ (pR M.length (tbl (fun (i k : Int) => nm xs (i.toNat * N + k.toNat)) L M)).k := pR_k (fun (i k : Int) => nm xs (i.toNat * N + k.toNat)) (fun i k => (nm_okQ hok _).k0) M.length _ _ hlen.symm rfl
  have := nf_eq hk1 hk2 (eqv_val hk1 hk2 (hv1.trans (hv2.trans hv3).symm))
  unfold Nm.mk'
  rw [this]
theorem ampR_code {n : Int} {xs : List Nm} {p r : List Int} {c : Int} (h : ampR n xs p r = .error c) : c ≠ 0 := by
  unfold ampR at h
  split at h
  · split at h
    · split at h
      · have := mk_err h; omega
      · cases h; decide
    · cases h; decide
  · cases h; decide
theorem ampR_yes {n : Int} {xs : List Nm} {p r : List Int} {z : Nm} (h : ampR n xs p r = .ok z) : z.Ok ∧ patB p = true ∧ patB r = true := by
  unfold ampR at h
  split at h
  · next hv =>
    split at h
    · split at h
      · next hb =>
        obtain ⟨N, rfl, h1, h6, hl, -, hok⟩ := validB_N' hv
        have h5 := (pat_len hb.1).2
        have hf : ∀ i k, i < (modes p p.length).length → k < (modes p p.length).length → (ampF (N : Int).toNat xs (modes r r.length) (modes p p.length) i k).Ok := fun i k _ _ => nm_okQ hok _
        exact ⟨(mk_ok (perN_fit (by omega) hf).2.1 h).1, hb.1, hb.2.1⟩
      · cases h
    · cases h
  · cases h
end Go.Proofs.Ytjeijnjaleldkaa
namespace Go.Proofs.Ytjeijnjaleldkaa
set_option linter.all false
open Go.RowKit

set_option maxRecDepth 100000 in
set_option maxHeartbeats 1000000 in
theorem rAt_any (N i k : Nat) (xs : List Nm) (a : Option Addr) (c : Nat) (hl : xs.length = N * N) (hN : N ≤ 6) (hi : i < N) (hk : k < N) (w : World) (hA : AS w a (nms xs)) : Calls Try.prog 41 #[.agg #[.int .i64 N, .slice a xs.length c], .int .i64 i, .int .i64 k] w fun e w' => e = .returned (nmV (nm xs (i * N + k))) ∧ Below w.heap.size w w' := by
  have hm := ix_small hi hN
  have hc0 : ((i * N : Nat) : Int) = (i : Int) * N := Int.natCast_mul i N
  obtain ⟨b, off, rfl, hlt, hcell⟩ := AS.openN hA Ox
  go_enter Try.func41, Try.ntmps41
  refine wk_start ?_
  refine wk_seq ?_
  refine wk_region [1, 1] rfl Kx ?_
  simp only [qy]
  refine Rgn fun g1 => ?_
  simp only [qz]
  refine Rgn fun g2 => ?_
  simp only [qz]
  refine rg_nil (ek_next (wk_seq ?_))
  refine wk_region [0, 0, 0, 0, 0, 0, 0, 0, 0, 0, 1] rfl Kx ?_
  simp only [qy]
  refine rf_field (n := 0) (j := 1) rfl rfl rfl Try.underlying24 rfl Kx rfl ?_
  simp only [qz]
  refine rf_load rfl rfl rfl Try.underlying22 rfl (fun w hw => (Kn.hd0 (Kn.tl hw)).at rfl) ?_
  simp only [qz]
  refine rg_move ?_
  simp only [qz]
  refine rf_field (n := 0) (j := 0) rfl rfl rfl Try.underlying24 rfl Kx rfl ?_
  simp only [qz]
  refine rf_load rfl rfl rfl Try.underlying3 rfl (fun w hw => (Kn.hd0 (Kn.tl hw)).at rfl) ?_
  simp only [qz]
  refine rf_mul rfl rfl rfl rfl (wrap_ok Ox Ox) ?_
  simp only [qz]
  refine rg_move ?_
  simp only [qz]
  refine rf_add rfl rfl rfl rfl (wrap_ok Ox Ox) ?_
  simp only [qz]
  refine rf_indexS (n := i * N + k) (sz := 5) (j := off + (i * N + k) * 5) rfl rfl rfl rfl Try.underlying22 Kx (by rw [Int.natCast_add, Int.natCast_mul]) Ox rfl ?_
  simp only [qz]
  refine rf_loadC (n := 5) (vs := nmC (nm xs (i * N + k))) rfl rfl rfl Try.underlying29 rfl Kx rfl (fun w hw => atN_range ((hcell _ Ox).kn hw hlt (by simp))) ?_
  simp only [qz]
  refine rf_storeR (n := 5) rfl rfl Kx rfl rfl (UpdR.here _ _ _ Nl) Nz ?_
  simp only [qz, Nat.reduceAdd]
  refine rg_nil (ek_next (wk_ret ?_))
  refine ek_ret (fun w hw => ⟨rfl, _, run_results1 rfl rfl (Kn.hd0 hw) Try.underlying29 rfl Kx, ?_⟩)
  (try simp only [qz])
  first | exact ⟨rfl, hw.below⟩ | exact ⟨trivial, hw.below⟩ | exact hw.below

set_option maxRecDepth 100000 in
set_option maxHeartbeats 1000000 in
theorem rOne_any  (w : World) : Calls Try.prog 61 #[] w fun e w' => e = .returned (nmV Nm.one) ∧ Below w.heap.size w w' := by
  go_enter Try.func61, Try.ntmps61
  refine wk_start ?_
  refine wk_seq ?_
  refine wk_region [1] rfl Kx ?_
  simp only [qy]
  refine Rgn fun g1 => ?_
  simp only [qz]
  refine rg_nil (ek_next (wk_seq ?_))
  refine wk_region [0, 0, 1] rfl Kx ?_
  simp only [qy]
  refine rf_build (cs := fun a => #[a.eval (.const (.int .i64 1)), .int .i64 0, .int .i64 0, .int .i64 0]) rfl rfl Kx ?_
  simp only [qz]
  refine rf_build (cs := fun a => #[cellAt (a.eval (.tmp 1)) 0, cellAt (a.eval (.tmp 1)) 1, cellAt (a.eval (.tmp 1)) 2, cellAt (a.eval (.tmp 1)) 3, .int .i64 0]) rfl rfl Kx ?_
  simp only [qz]
  refine rf_storeR (n := 5) rfl rfl Kx rfl rfl (UpdR.here _ _ _ Nl) Nz ?_
  simp only [qz, Nat.reduceAdd]
  refine rg_nil (ek_next (wk_ret ?_))
  refine ek_ret (fun w hw => ⟨rfl, _, run_results1 rfl rfl (Kn.hd0 hw) Try.underlying29 rfl Kx, ?_⟩)
  (try simp only [qz])
  first | exact ⟨rfl, hw.below⟩ | exact ⟨trivial, hw.below⟩ | exact hw.below

end Go.Proofs.Ytjeijnjaleldkaa
namespace Go.Proofs.Ytjeijnjaleldkaa
set_option linter.all false
open Go.RowKit

theorem wd_zeroP : (#[.bool false, .slice none 0 0, .bool false, .slice none 0 0, .bool false, .slice none 0 0, .bool false, .slice none 0 0, .int .i64 0] : Array Value) = #[.bool (decide (Nm.zero.a < 0)), .slice none (digs Nm.zero.a.natAbs).length 0, .bool (decide (Nm.zero.b < 0)), .slice none (digs Nm.zero.b.natAbs).length 0, .bool (decide (Nm.zero.c < 0)), .slice none (digs Nm.zero.c.natAbs).length 0, .bool (decide (Nm.zero.d < 0)), .slice none (digs Nm.zero.d.natAbs).length 0, .int .i64 Nm.zero.k] := by
  simp only [Nm.zero, Int.natAbs_zero, digs_zero]
  rfl
theorem su4_zero : SU4 [] Nm.zero (.slice none (digs Nm.zero.a.natAbs).length 0) (.slice none (digs Nm.zero.b.natAbs).length 0) (.slice none (digs Nm.zero.c.natAbs).length 0) (.slice none (digs Nm.zero.d.natAbs).length 0) := by
  have h : SU [] (.slice none (digs (0 : Int).natAbs).length 0) (0 : Int).natAbs := by
    simp only [Int.natAbs_zero, digs_zero]
    exact SU.nil
  exact ⟨h, h, h, h⟩
theorem Own.as1 {e n c : Nat} {u s : List Blk} {a : Option Addr} {xs : List Value} {B w : World} {F : List Nat} (h : Own e 1 u (.slice a n c) n xs) (K : Kn B F (u ++ s) w) : AS w a xs := by
  obtain ⟨a', c', e, h'⟩ := Own.as h K
  cases e
  exact h'
set_option maxRecDepth 100000 in
set_option maxHeartbeats 1000000 in
theorem rperm_zero (a : Option Addr) (c : Nat) (w : World) : Calls Try.prog 67 #[.slice a 0 c] w fun e w' => RetW w Nm.one e w' := by
  go_enter Try.func67, Try.ntmps67
  refine wk_start ?_
  refine wk_seq ?_
  refine wk_region [1] rfl Kx ?_
  simp only [qy]
  refine Rgn fun g1 => ?_
  simp only [qz]
  refine rg_nil (ek_next (wk_seq (wk_seq ?_)))
  refine wk_region [0, 0, 0] rfl Kx ?_
  simp only [qy]
  refine rg_move ?_
  simp only [qz]
  refine rf_len rfl rfl rfl Try.underlying84 ?_
  simp only [qz]
  refine rfb_eql rfl rfl rfl rfl ?_
  intro x h1
  obtain rfl : x = true := by (refine h1.symm.trans ?_; exact decide_eq_true Ox)
  clear h1
  simp only [qz]
  refine rg_nil (ek_next (wk_cond_t rfl (wk_seq ?_)))
  refine wk_region [1, 1, 1] rfl Kx ?_
  simp only [qy]
  apply rg_pure Rx Kx
  case hargs => exact Ax
  case h => exact fun w hw => rOne_any w
  case hz => exact Nz
  simp only [qz]
  apply (rg_made (T := fun v u => ∃ s0 s1 s2 s3, v = wdV (Nm.one) s0 s1 s2 s3 ∧ SU4 u (Nm.one) s0 s1 s2 s3)) Rx Kx
  case hargs => exact Ax
  case h => exact fun w hw => wideOf_any Nm.one (Nm.fit_mono one_ok.fit (by decide)) w
  case hz => exact Nz
  rintro _ u2 ⟨t0, t1, t2, t3, rfl, hS2⟩
  obtain ⟨⟨ta2_0, tc2_0, rfl⟩, -⟩ := id hS2.a
  obtain ⟨⟨ta2_1, tc2_1, rfl⟩, -⟩ := id hS2.b
  obtain ⟨⟨ta2_2, tc2_2, rfl⟩, -⟩ := id hS2.c
  obtain ⟨⟨ta2_3, tc2_3, rfl⟩, -⟩ := id hS2.d
  simp only [qz]
  refine rf_storeR (n := 9) rfl rfl Kx rfl rfl (UpdR.app _ (UpdR.here _ _ _ Nl)) Nz ?_
  simp only [qz, Nat.reduceAdd]
  refine rg_nil (ek_next (wk_ret (ek_then_ret ?_)))
  refine ek_ret (fun w hw => ⟨rfl, _, run_results1 rfl rfl (Kn.hd0 (Kn.tlU hw)) Try.underlying73 rfl Kx, ?_⟩)
  (try simp only [qz])
  exact ⟨_, u2, rfl, ⟨_, _, _, _, rfl, hS2⟩, hw.made (List.sublist_append_left _ _)⟩

set_option maxRecDepth 100000 in
set_option maxHeartbeats 1000000 in
theorem rperm_step (N : Nat) (rows : List (List Nm)) (rv : List Value) (a : Option Addr) (c : Nat) (hN : N ≤ 4) (hl : Hid (rows.length = N + 1)) (hS : Sq (N + 1) rows) (ih : ∀ (rows' : List (List Nm)) (rv' : List Value) (a' : Option Addr) (c' : Nat) (w' : World), rows'.length = N → Sq N rows' → AS w' a' rv' → RowsA w' rv' rows' → Calls Try.prog 67 #[.slice a' N c'] w' fun e w'' => RetW w' (pR N rows') e w'') (w : World) (hA : AS w a rv) (hR : RowsA w rv rows) : Calls Try.prog 67 #[.slice a (N + 1) c] w fun e w' => RetW w (pR (N + 1) rows) e w' := by
  have hrv : rv.length = N + 1 := hR.1.trans hl.out
  obtain ⟨b, off, rfl, hlt, hcell⟩ := hA (fun e => by rw [e] at hrv; simp at hrv)
  replace hrv := Lib.hid hrv
  go_enter Try.func67, Try.ntmps67
  refine wk_start ?_
  refine wk_seq ?_
  refine wk_region [1] rfl Kx ?_
  simp only [qy]
  refine Rgn fun g1 => ?_
  simp only [qz]
  refine rg_nil (ek_next (wk_seq (wk_seq ?_)))
  refine wk_region [0, 0, 0] rfl Kx ?_
  simp only [qy]
  refine rg_move ?_
  simp only [qz]
  refine rf_len rfl rfl rfl Try.underlying84 ?_
  simp only [qz]
  refine rfb_eql rfl rfl rfl rfl ?_
  intro x h1
  obtain rfl : x = false := by (refine h1.symm.trans ?_; exact decide_eq_false Ox)
  clear h1
  simp only [qz]
  refine rg_nil (ek_next (wk_cond_f rfl (wk_skip (ek_next (wk_seq ?_)))))
  refine wk_region [1] rfl Kx ?_
  simp only [qy]
  refine Rgn fun g2 => ?_
  simp only [qz]
  refine rg_nil (ek_next (wk_seq (wk_seq ?_)))
  rw [wd_zeroP]
  refine wk_region [0] rfl Kx ?_
  simp only [qy]
  refine rg_assign ?_
  simp only [qz]
  refine rg_nil (ek_next (wk_block ?_))
  refine wk_loopF [4, 5, 6, 7, 13, 14, 15, 16, 17, 18, 19, 20, 21, 22, 23, 24, 25, 26, 27, 28, 29, 30, 31, 32, 33, 34, 35, 36, 37, 38, 39, 40, 41, 42, 43, 44, 45, 46, 47, 48, 49, 50, 51, 52, 53, 54, 55, 56, 57] (fun mz f s => ∃ (k : Nat) (y : Nm) (ta0 ta1 ta2 ta3 : Option Addr) (tc0 tc1 tc2 tc3 : Nat) (u : List Blk), f 4 = .int .i64 k ∧ s = (u ++ ((g2, .cells #[.bool (decide (y.a < 0)), .slice ta0 (digs y.a.natAbs).length tc0, .bool (decide (y.b < 0)), .slice ta1 (digs y.b.natAbs).length tc1, .bool (decide (y.c < 0)), .slice ta2 (digs y.c.natAbs).length tc2, .bool (decide (y.d < 0)), .slice ta3 (digs y.d.natAbs).length tc3, .int .i64 y.k] 73) :: ((g1, .cells #[.bool (decide (Nm.zero.a < 0)), .slice none (digs Nm.zero.a.natAbs).length 0, .bool (decide (Nm.zero.b < 0)), .slice none (digs Nm.zero.b.natAbs).length 0, .bool (decide (Nm.zero.c < 0)), .slice none (digs Nm.zero.c.natAbs).length 0, .bool (decide (Nm.zero.d < 0)), .slice none (digs Nm.zero.d.natAbs).length 0, .int .i64 Nm.zero.k] 73) :: []))) ∧ mz = (N + 1) - k ∧ k ≤ N + 1 ∧ Hid (sumN k (prF N rows) = y) ∧ SU4 u y (.slice ta0 (digs y.a.natAbs).length tc0) (.slice ta1 (digs y.b.natAbs).length tc1) (.slice ta2 (digs y.c.natAbs).length tc2) (.slice ta3 (digs y.d.natAbs).length tc3)) ((fun (k : Nat) (y : Nm) (ta0 ta1 ta2 ta3 : Option Addr) (tc0 tc1 tc2 tc3 : Nat) (u : List Blk) => (N + 1) - k) (0) (Nm.zero) (none) (none) (none) (none) (0) (0) (0) (0) ([])) ?_ Kx ?_
  · exact ⟨0, Nm.zero, none, none, none, none, 0, 0, 0, 0, [], rfl, rfl, rfl, by omega, Lib.hid rfl, su4_zero⟩
  rintro mz f1 s ⟨k, y, ta0, ta1, ta2, ta3, tc0, tc1, tc2, tc3, u, hs1_4, rfl, hn, hd1, hd2, hd3⟩
  simp only [Act.putF, List.foldl_cons, List.foldl_nil, hs1_4, Act.put, Act.eval, q1, q2, q3, q4, q5, q6, q7, q8, q9, q10, q11, q12, q13, q14, q15, q16, q17, q18, Nat.reduceAdd, Bool.not_true, Bool.not_false]
  clear hs1_4
  have hy := hd2
  have hsu := hd3
  clear hd2 hd3
  refine wk_seq (wk_seq ?_)
  refine wk_region [0, 0, 0, 0] rfl Kx ?_
  simp only [qy]
  refine rg_move ?_
  simp only [qz]
  refine rg_move ?_
  simp only [qz]
  refine rf_len rfl rfl rfl Try.underlying84 ?_
  simp only [qz]
  refine rfb_lss rfl rfl rfl rfl ?_
  intro x h2
  cases x
  · (try simp only [qd, ne_eq] at h2)
    simp only [qz]
    refine rg_nil (ek_next (wk_cond_f rfl (wk_exit (ek_then_exit (ek_then_exit (ek_block_exit (ek_next (wk_seq ?_))))))))
    refine wk_region [0, 1] rfl Kx ?_
    simp only [qy]
    refine rf_loadR (n := 9) rfl rfl rfl Try.underlying73 rfl Kx (fun w hw => Kn.hd0 (Kn.tlU hw)) rfl rfl ?_
    simp only [qz]
    refine rf_storeR (n := 9) rfl rfl Kx rfl rfl (UpdR.app _ (UpdR.there _ (UpdR.here _ _ _ Nl))) Nz ?_
    simp only [qz, Nat.reduceAdd]
    refine rg_nil (ek_next (wk_ret ?_))
    refine ek_ret (fun w hw => ⟨rfl, _, run_results1 rfl rfl (Kn.hd0 (Kn.tl (Kn.tlU hw))) Try.underlying73 rfl Kx, ?_⟩)
    (try simp only [qz])
    obtain rfl : k = N + 1 := by omega
    show RetW _ (pR (N + 1) rows) _ _
    rw [pR_succ, hy.out]
    exact ⟨_, u, rfl, ⟨_, _, _, _, rfl, hsu⟩, hw.made (List.sublist_append_left _ _)⟩
  (try simp only [qd, ne_eq] at h2)
  simp only [qz]
  refine rg_nil (ek_next (wk_cond_t rfl (wk_skip (ek_next (wk_seq (wk_block (wk_seq ?_)))))))
  refine wk_region [0] rfl Kx ?_
  simp only [qy]
  refine rg_assign ?_
  simp only [qz]
  refine rg_nil (ek_next (wk_seq (wk_seq ?_)))
  refine wk_region [0] rfl Kx ?_
  simp only [qy]
  refine rg_assign ?_
  simp only [qz]
  refine rg_nil (ek_next (wk_block ?_))
  refine wk_loopF [5, 6, 7, 19, 20, 21, 22, 23, 24, 25, 26, 27, 28, 29, 30, 31, 32, 33, 34, 35, 36, 37, 38, 39, 40, 41, 42, 43, 44, 45] (fun mz f s => ∃ (j : Nat) (rs : List Value) (va : Option Addr) (vc : Nat) (uo uv : List Blk), f 5 = .slice va j vc ∧ f 6 = .int .i64 ((j : Int) + 1) ∧ s = (uo ++ (uv ++ (u ++ ((g2, .cells #[.bool (decide (y.a < 0)), .slice ta0 (digs y.a.natAbs).length tc0, .bool (decide (y.b < 0)), .slice ta1 (digs y.b.natAbs).length tc1, .bool (decide (y.c < 0)), .slice ta2 (digs y.c.natAbs).length tc2, .bool (decide (y.d < 0)), .slice ta3 (digs y.d.natAbs).length tc3, .int .i64 y.k] 73) :: ((g1, .cells #[.bool (decide (Nm.zero.a < 0)), .slice none (digs Nm.zero.a.natAbs).length 0, .bool (decide (Nm.zero.b < 0)), .slice none (digs Nm.zero.b.natAbs).length 0, .bool (decide (Nm.zero.c < 0)), .slice none (digs Nm.zero.c.natAbs).length 0, .bool (decide (Nm.zero.d < 0)), .slice none (digs Nm.zero.d.natAbs).length 0, .int .i64 Nm.zero.k] 73) :: []))))) ∧ mz = N - j ∧ j ≤ N ∧ Own 22 1 uo (.slice va j vc) j rs ∧ RowsN uv rs (restL rows k j)) ((fun (j : Nat) (rs : List Value) (va : Option Addr) (vc : Nat) (uo uv : List Blk) => N - j) (0) ([]) (none) (0) ([]) ([])) ?_ Kx ?_
  · exact ⟨0, [], none, 0, [], [], rfl, rfl, rfl, rfl, by omega, Own.nil _ _, RowsN.nil⟩
  rintro mz f2 s ⟨j, rs, va, vc, uo, uv, hs2_5, hs2_6, rfl, hn, he1, he2, he3⟩
  simp only [Act.putF, List.foldl_cons, List.foldl_nil, hs2_5, hs2_6, Act.put, Act.eval, q1, q2, q3, q4, q5, q6, q7, q8, q9, q10, q11, q12, q13, q14, q15, q16, q17, q18, Nat.reduceAdd, Bool.not_true, Bool.not_false]
  clear hs2_5 hs2_6
  refine wk_seq (wk_seq ?_)
  refine wk_region [0, 0, 0, 0] rfl Kx ?_
  simp only [qy]
  refine rg_move ?_
  simp only [qz]
  refine rg_move ?_
  simp only [qz]
  refine rf_len rfl rfl rfl Try.underlying84 ?_
  simp only [qz]
  refine rfb_lss rfl rfl rfl rfl ?_
  intro x h3
  cases x
  · (try simp only [qd, ne_eq] at h3)
    simp only [qz]
    refine rg_nil (ek_next (wk_cond_f rfl (wk_exit (ek_then_exit (ek_then_exit (ek_block_exit (ek_next ?_)))))))
    obtain rfl : N = j := by omega
    obtain ⟨br, ofr, cr, hrk, hrc, hrA⟩ := hR.2 (0) (by have := hl.out; omega)
    have hrl := (hS.get (k := 0) (by have := hl.out; omega)).1
    rw [hrl] at hrk hrc
    rw [row0 hl.out] at hrA hrl
    obtain ⟨br2, ofr2, hae, hltr, hcellr⟩ := AS.openN hrA Ox
    cases hae
    have hst := pr_step hN hl.out hS (show k < N + 1 by omega)
    rw [hy.out] at hst
    have hx := head_ok hl.out hS (show k < N + 1 by omega)
    have hmb := minor_bd hN hl.out hS (show k < N + 1 by omega)
    have hmf : (pR N (minor rows k)).Fit 9850501549098619803069760025035903451269934817616361666987073351061430442874302652853566563721228910201656997576704 := (pr_sum (show N ≤ 5 by omega) (minor_len hl.out k) (hS.minor Ox)).1
    have hmk := (pr_sum (show N ≤ 5 by omega) (minor_len hl.out k) (hS.minor (show k < N + 1 by omega))).2
    refine wk_draws_m (hz1 := (List.Sublist.append_left (List.Sublist.append_left (List.Sublist.append_left (sk _ (sc _ sn)) _) _) _)) [(0, 0), (1, 0), (2, 0), (3, 0), (4, 0), (5, 0), (6, 0), (8, 0), (7, 1), (9, 1), (10, 1), (11, 1), (12, 2)] 12 Kx Kx (fun c d v a w h => by cases d <;> exact h) ?_
    simp only [List.map_cons, List.map_nil, List.getD_cons_zero, List.getD_cons_succ]
    refine rf_loadR (n := 9) rfl rfl rfl Try.underlying73 rfl Kx (fun w hw => Kn.hd0 (Kn.tlU (Kn.tlU (Kn.tlU hw)))) rfl rfl ?_
    simp only [qz]
    refine rg_move ?_
    simp only [qz]
    refine rf_indexS (n := 0) (sz := 1) (j := off + (0)) rfl rfl rfl rfl Try.underlying84 Kx Ox Ox Ox ?_
    simp only [qz]
    refine rf_load (v := .slice (some ⟨br, ofr, none⟩) (N + 1) cr) rfl rfl rfl Try.underlying22 rfl (fun w hw => (Kn.cellB hw hlt (by simp) (off + (0))).trans ((hcell (0) (by have := hrv.out; omega)).trans hrk)) ?_
    simp only [qz]
    refine rg_move ?_
    simp only [qz]
    refine rf_indexS (n := k) (sz := 5) (j := ofr + k * 5) rfl rfl rfl rfl Try.underlying22 Kx Ox Ox rfl ?_
    simp only [qz]
    refine rf_loadC (n := 5) (vs := [.int .i64 (nm (rows.headD []) k).a, .int .i64 (nm (rows.headD []) k).b, .int .i64 (nm (rows.headD []) k).c, .int .i64 (nm (rows.headD []) k).d, .int .i64 (nm (rows.headD []) k).k]) rfl rfl rfl Try.underlying29 rfl Kx rfl (fun w hw => atN_range ((hcellr k Ox).kn hw hltr (by simp))) ?_
    simp only [qz]
    refine rg_move ?_
    simp only [qz]
    apply (rg_made (T := fun v u => ∃ s0 s1 s2 s3, v = wdV (nm (rows.headD []) k) s0 s1 s2 s3 ∧ SU4 u (nm (rows.headD []) k) s0 s1 s2 s3)) Rx Kx
    case hargs => exact Ax
    case h => exact fun w hw => wideOf_any (nm (rows.headD []) k) (Nm.fit_mono hx.fit (by decide)) w
    case hz => exact (fun _ h => by cases h; exact (List.Sublist.append_left (List.Sublist.append_left (List.Sublist.append_left (sc _ (sc _ sn)) _) _) _))
    rintro _ u3 ⟨t0, t1, t2, t3, rfl, hS3⟩
    obtain ⟨⟨ta3_0, tc3_0, rfl⟩, -⟩ := id hS3.a
    obtain ⟨⟨ta3_1, tc3_1, rfl⟩, -⟩ := id hS3.b
    obtain ⟨⟨ta3_2, tc3_2, rfl⟩, -⟩ := id hS3.c
    obtain ⟨⟨ta3_3, tc3_3, rfl⟩, -⟩ := id hS3.d
    simp only [qz]
    apply (rg_made (T := fun v u => ∃ s0 s1 s2 s3, v = wdV (pR N (minor rows k)) s0 s1 s2 s3 ∧ SU4 u (pR N (minor rows k)) s0 s1 s2 s3)) Rx Kx
    case hargs => exact Ax
    case h => exact fun w hw => ih (minor rows k) rs va vc w (minor_len hl.out k) (hS.minor Ox) (Own.as1 he2 (hw.perm ((((List.Perm.refl _).append_left _).trans (List.perm_append_comm_assoc u3 uo _)).trans ((List.Perm.refl _).append_left _)))) (by have := he3.asA hw (((List.sublist_append_left _ _).trans (List.sublist_append_right _ _)).trans (List.sublist_append_right _ _)); rw [restL_all hl.out] at this; exact this)
    case hz => exact (fun _ h => by cases h; exact ((List.Sublist.append_left (List.Sublist.append_left (List.Sublist.append_left (sc _ (sc _ sn)) _) _) _).trans (List.sublist_append_right _ _)))
    rintro _ u4 ⟨t0, t1, t2, t3, rfl, hS4⟩
    obtain ⟨⟨ta4_0, tc4_0, rfl⟩, -⟩ := id hS4.a
    obtain ⟨⟨ta4_1, tc4_1, rfl⟩, -⟩ := id hS4.b
    obtain ⟨⟨ta4_2, tc4_2, rfl⟩, -⟩ := id hS4.c
    obtain ⟨⟨ta4_3, tc4_3, rfl⟩, -⟩ := id hS4.d
    simp only [qz]
    apply (rg_made (T := fun v u => ∃ s0 s1 s2 s3, v = wdV (prF N rows k) s0 s1 s2 s3 ∧ SU4 u (prF N rows k) s0 s1 s2 s3)) Rx Kx
    case hargs => exact Ax
    case h => exact fun w hw => wtimes_any (nm (rows.headD []) k) (pR N (minor rows k)) _ _ _ _ _ _ _ _ (fit382 hx.fit) hmf (prodB_pr hx hN hmb) hx.k0 (by have := hx.k1; omega) hmk.1 hmk.2 w (hS3.at hw ((List.sublist_append_left _ _).trans (List.sublist_append_right _ _))) (hS4.at hw (List.sublist_append_left _ _))
    case hz => exact (fun _ h => by cases h; exact (((List.Sublist.append_left (List.Sublist.append_left (List.Sublist.append_left (sc _ (sc _ sn)) _) _) _).trans (List.sublist_append_right _ _)).trans (List.sublist_append_right _ _)))
    rintro _ u5 ⟨t0, t1, t2, t3, rfl, hS5⟩
    obtain ⟨⟨ta5_0, tc5_0, rfl⟩, -⟩ := id hS5.a
    obtain ⟨⟨ta5_1, tc5_1, rfl⟩, -⟩ := id hS5.b
    obtain ⟨⟨ta5_2, tc5_2, rfl⟩, -⟩ := id hS5.c
    obtain ⟨⟨ta5_3, tc5_3, rfl⟩, -⟩ := id hS5.d
    simp only [qz]
    apply (rg_made (T := fun v u => ∃ s0 s1 s2 s3, v = wdV (y.addR (prF N rows k)) s0 s1 s2 s3 ∧ SU4 u (y.addR (prF N rows k)) s0 s1 s2 s3)) Rx Kx
    case hargs => exact Ax
    case h => exact fun w hw => wplus_any y (prF N rows k) _ _ _ _ _ _ _ _ hst.1 hst.2.1 hst.2.2.1 hst.2.2.2.1 hst.2.2.2.2.1 hst.2.2.2.2.2 w (hsu.at hw ((((((List.sublist_append_left _ _).trans (List.sublist_append_right _ _)).trans (List.sublist_append_right _ _)).trans (List.sublist_append_right _ _)).trans (List.sublist_append_right _ _)).trans (List.sublist_append_right _ _))) (hS5.at hw (List.sublist_append_left _ _))
    case hz => exact (fun _ h => by cases h; exact ((((List.Sublist.append_left (List.Sublist.append_left (List.Sublist.append_left (sc _ (sc _ sn)) _) _) _).trans (List.sublist_append_right _ _)).trans (List.sublist_append_right _ _)).trans (List.sublist_append_right _ _)))
    rintro _ u6 ⟨t0, t1, t2, t3, rfl, hS6⟩
    obtain ⟨⟨ta6_0, tc6_0, rfl⟩, -⟩ := id hS6.a
    obtain ⟨⟨ta6_1, tc6_1, rfl⟩, -⟩ := id hS6.b
    obtain ⟨⟨ta6_2, tc6_2, rfl⟩, -⟩ := id hS6.c
    obtain ⟨⟨ta6_3, tc6_3, rfl⟩, -⟩ := id hS6.d
    simp only [qz]
    refine rf_storeRM (n := 9) rfl rfl Kx rfl rfl (UpdR.app _ (UpdR.app _ (UpdR.app _ (UpdR.app _ (UpdR.app _ (UpdR.app _ (UpdR.app _ (UpdR.here _ _ _ Nl)))))))) (((((List.Sublist.append_left (List.Sublist.append_left (List.Sublist.append_left (sk _ (sc _ sn)) _) _) _).trans (List.sublist_append_right _ _)).trans (List.sublist_append_right _ _)).trans (List.sublist_append_right _ _)).trans (List.sublist_append_right _ _)) ?_
    simp only [qz, Nat.reduceAdd]
    refine rg_nil (ek_block (ek_next ?_))
    refine wk_region [0, 0, 0] rfl Kx ?_
    simp only [qy]
    refine rg_move ?_
    simp only [qz]
    refine rf_add rfl rfl rfl rfl (wrap_ok Ox Ox) ?_
    simp only [qz]
    refine rg_assign ?_
    simp only [qz]
    refine rg_nil ?_
    refine ek_sub (List.Sublist.append_left (((((((sc _ (sc _ sn)).trans (List.sublist_append_right _ _)).trans (List.sublist_append_right _ _)).trans (List.sublist_append_right _ _)).trans (List.sublist_append_right _ _)).trans (List.sublist_append_right _ _)).trans (List.sublist_append_right _ _)) _) ?_
    refine ek_roundF ((N + 1) - (k + 1)) Ox Kx ?_
    exact ⟨k + 1, y.addR (prF N rows k), ta6_0, ta6_1, ta6_2, ta6_3, tc6_0, tc6_1, tc6_2, tc6_3, u6, rfl, by rfl, by rfl, Ox, (Lib.hid (by rw [sumN, hy.out])), hS6⟩
  (try simp only [qd, ne_eq] at h3)
  simp only [qz]
  refine rg_nil (ek_next (wk_cond_t rfl (wk_skip (ek_next (wk_seq (wk_block (wk_seq ?_)))))))
  refine wk_region [0] rfl Kx ?_
  simp only [qy]
  refine rg_assign ?_
  simp only [qz]
  refine rg_nil (ek_next (wk_seq ?_))
  obtain ⟨br, ofr, cr, hrk, hrc, hrA⟩ := hR.2 (j + 1) (by have := hl.out; omega)
  have hrl := (hS.get (k := j + 1) (by have := hl.out; omega)).1
  rw [hrl] at hrk hrc
  replace hrl := Lib.hid hrl
  refine wk_region [0, 0, 0, 0, 0, 0, 0, 1, 0] rfl Kx ?_
  simp only [qy]
  refine rg_move ?_
  simp only [qz]
  refine rg_move ?_
  simp only [qz]
  refine rg_move ?_
  simp only [qz]
  refine rf_indexS (n := j + 1) (sz := 1) (j := off + (j + 1)) rfl rfl rfl rfl Try.underlying84 Kx Ox Ox Ox ?_
  simp only [qz]
  refine rf_load (v := .slice (some ⟨br, ofr, none⟩) (N + 1) cr) rfl rfl rfl Try.underlying22 rfl (fun w hw => (Kn.cellB hw hlt (by simp) (off + (j + 1))).trans ((hcell (j + 1) (by have := hrv.out; omega)).trans hrk)) ?_
  simp only [qz]
  refine rg_move ?_
  simp only [qz]
  refine rf_sliceTo (n := k) (sz := 5) rfl rfl rfl rfl Try.underlying22 Kx Ox Ox ?_
  simp only [qz]
  refine rg_appN0 (u := []) (xs := []) (ys := (rows.getD (j + 1) []).take k) (r := k) Rx rfl OwnG.nil rfl (by rw [List.length_take, hrl.out]; omega) (by simp only [List.length_nil, List.length_take, hrl.out]; omega) Ox (List.Perm.refl _) (fun w hw => (hrA.kn0 hw).takeN (by rw [hrl.out]; omega)) Nz (fun uQ aQ cQ hOQ => ?_)
  simp only [qz]
  refine rg_assign ?_
  simp only [qz]
  refine rg_nil (ek_next (wk_seq ?_))
  refine wk_region [0, 0, 0, 0, 0, 0, 0, 0, 1, 0] rfl Kx ?_
  simp only [qy]
  refine rg_move ?_
  simp only [qz]
  refine rg_move ?_
  simp only [qz]
  refine rg_move ?_
  simp only [qz]
  refine rf_indexS (n := j + 1) (sz := 1) (j := off + (j + 1)) rfl rfl rfl rfl Try.underlying84 Kx Ox Ox Ox ?_
  simp only [qz]
  refine rf_load (v := .slice (some ⟨br, ofr, none⟩) (N + 1) cr) rfl rfl rfl Try.underlying22 rfl (fun w hw => (Kn.cellB hw hlt (by simp) (off + (j + 1))).trans ((hcell (j + 1) (by have := hrv.out; omega)).trans hrk)) ?_
  simp only [qz]
  refine rg_move ?_
  simp only [qz]
  refine rf_add rfl rfl rfl rfl (wrap_ok Ox Ox) ?_
  simp only [qz]
  refine rf_from (lo := k + 1) (sz := 5) rfl rfl rfl rfl Try.underlying22 Kx Ox Ox (fun ad had => ?_)
  simp only [qz]
  refine rg_appN0 (xs := [] ++ (rows.getD (j + 1) []).take k) (ys := (rows.getD (j + 1) []).drop (k + 1)) (r := N) Rx rfl hOQ rfl (by rw [List.length_drop, hrl.out]) (by simp only [List.nil_append, List.length_take, List.length_drop, hrl.out]; omega) Ox (List.Perm.refl _) (fun w hw => (hrA.kn0 hw).dropN (by rw [hrl.out]; omega) (fun h => had (by rw [hrl.out] at h; omega))) Nz (fun uT aT cT hOT => ?_)
  rw [List.nil_append, take_drop_erase] at hOT
  simp only [qz]
  refine rg_assign ?_
  simp only [qz]
  refine rg_nil (ek_next ?_)
  refine wk_region [0, 0, 1, 1, 0] rfl Kx ?_
  simp only [qy]
  refine rg_move ?_
  simp only [qz]
  refine rg_move ?_
  simp only [qz]
  refine rg_newS (cs := ?_) (ty := ?_) (n := 1) (c := 1) Rx (fun w => ?_) Nz (fun g7 => ?_); rotate_left 2
  focus (go_simp; rfl)
  simp only [qz]
  refine rg_appLN (h := .slice aT N cT) Rx rfl he2 rfl Ox rfl ((((((List.Perm.refl _).append_left _).trans (List.perm_append_comm_assoc uT uo _)).cons _).trans (List.perm_middle (l₁ := uo)).symm).trans ((List.Perm.refl _).append_left _)) (fun w hw => Kn.hd0 hw) Nz (fun uP aP cP hOP => ?_)
  simp only [qz]
  refine rg_assign ?_
  simp only [qz]
  refine rg_nil (ek_block (ek_next ?_))
  refine wk_region [0, 0, 0] rfl Kx ?_
  simp only [qy]
  refine rg_move ?_
  simp only [qz]
  refine rf_add rfl rfl rfl rfl (wrap_ok Ox Ox) ?_
  simp only [qz]
  refine rg_assign ?_
  simp only [qz]
  refine rg_nil ?_
  refine ek_sub (List.Sublist.append_left (sk _ (List.Sublist.append_left (List.Sublist.append_left (List.Sublist.append_left (sc _ (sc _ sn)) _) _) _)) _) ?_
  refine ek_roundF (N - (j + 1)) Ox Kx ?_
  exact ⟨j + 1, rs ++ [.slice aT N cT], aP, cP, uP, uT ++ uv, rfl, rfl, by simp only [List.append_assoc], by rfl, Ox, hOP, (RowsN.snoc he3 hOT (by have h1 := erase_len (rows.getD (j + 1) []) k (by rw [hrl.out]; omega); rw [hrl.out] at h1; omega))⟩

theorem rperm_any : ∀ (N : Nat) (rows : List (List Nm)) (rv : List Value) (a : Option Addr) (c : Nat) (w : World), N ≤ 5 → rows.length = N → Sq N rows → AS w a rv → RowsA w rv rows → Calls Try.prog 67 #[.slice a N c] w fun e w' => RetW w (pR N rows) e w'
  | 0, rows, rv, a, c, w, _, _, _, _, _ => rperm_zero a c w
  | N + 1, rows, rv, a, c, w, hN, hl, hS, hA, hR => rperm_step N rows rv a c Ox (Lib.hid hl) hS (fun rows' rv' a' c' w' h1 h2 h3 h4 => rperm_any N rows' rv' a' c' w' Ox h1 h2 h3 h4) w hA hR
end Go.Proofs.Ytjeijnjaleldkaa
namespace Go.Proofs.Ytjeijnjaleldkaa
set_option linter.all false
open Go.RowKit

set_option maxRecDepth 100000 in
set_option maxHeartbeats 1000000 in
theorem rnumber_any (z : Nm) (s0 s1 s2 s3 : Value) (hz : z.Fit 9850501549098619803069760025035903451269934817616361666987073351061430442874302652853566563721228910201656997576704) (hk : 0 ≤ z.k) (hk1 : z.k ≤ 10000) (w : World) (hs : SA4 w z s0 s1 s2 s3) : Calls Try.prog 66 #[wdV z s0 s1 s2 s3] w fun e w' => e = .returned (numV z.mk') ∧ Below w.heap.size w w' := by
  have cn := wnum_any z s0 s1 s2 s3 hz hk hk1
  have hr := wnum_numV (z := z)
  obtain ⟨⟨v, b⟩, hv⟩ : ∃ r, wnum z = r := ⟨_, rfl⟩
  rw [hv] at cn hr
  replace hr := Lib.hid hr
  replace cn := Lib.hid cn
  clear hv
  go_enter Try.func66, Try.ntmps66
  refine wk_start ?_
  refine wk_seq ?_
  refine wk_region [1, 1, 0] rfl Kx ?_
  simp only [qy]
  refine Rgn fun g1 => ?_
  simp only [qz]
  refine Rgn fun g2 => ?_
  simp only [qz]
  refine rg_assign ?_
  simp only [qz]
  refine rg_nil (ek_next (wk_seq ?_))
  refine wk_region [0, 1, 0, 0, 0, 1, 1, 0] rfl Kx ?_
  simp only [qy]
  refine rf_loadR (n := 9) rfl rfl rfl Try.underlying73 rfl Kx (fun w hw => Kn.hd0 (Kn.tl hw)) rfl rfl ?_
  simp only [qz]
  apply rg_pure Rx Kx
  case hargs => exact Ax
  case h => exact fun w hw => cn.out w (hs.kn hw)
  case hz => exact Nz
  simp only [qz]
  refine rg_move ?_
  simp only [qz]
  refine rf_extract rfl rfl rfl rfl ?_
  simp only [qz]
  refine rf_extract rfl rfl rfl rfl ?_
  simp only [qz]
  refine Rgn fun g3 => ?_
  simp only [qz]
  refine rf_storeR (n := 5) rfl rfl Kx rfl rfl (UpdR.here _ _ _ Nl) Nz ?_
  simp only [qz, Nat.reduceAdd]
  refine rg_assign ?_
  simp only [qz]
  refine rg_nil (ek_next (wk_seq (wk_seq ?_)))
  refine wk_region [0, 0] rfl Kx ?_
  simp only [qy]
  refine rg_move ?_
  simp only [qz]
  apply rg_softb
  case hy => (intro w hw; go_simp; (try go_bits); exact Yld.mk _ _)
  intro x h1
  cases x
  · (try simp only [qd, ne_eq] at h1)
    simp only [qz]
    refine rg_nil (ek_next (wk_cond_f rfl (wk_skip (ek_next (wk_seq ?_)))))
    refine wk_region [0, 1, 0] rfl Kx ?_
    simp only [qy]
    refine rf_loadR (n := 5) rfl rfl rfl Try.underlying29 rfl Kx (fun w hw => Kn.hd0 hw) rfl rfl ?_
    simp only [qz]
    refine rf_storeR (n := 5) rfl rfl Kx rfl rfl (UpdR.there _ (UpdR.here _ _ _ Nl)) Nz ?_
    simp only [qz, Nat.reduceAdd]
    refine rg_assign ?_
    simp only [qz]
    refine rg_nil (ek_next (wk_ret ?_))
    refine ek_ret (fun w hw => ⟨rfl, _, run_results2 rfl rfl (Kn.hd0 (Kn.tl hw)) Try.underlying29 rfl Kx, ?_⟩)
    (try simp only [qz])
    exact ⟨by rw [hr.out]; simp [*, Nm.zero], hw.below⟩
  (try simp only [qd, ne_eq] at h1)
  simp only [qz]
  refine rg_nil (ek_next (wk_cond_t rfl (wk_seq ?_)))
  refine wk_region [0, 1, 0] rfl Kx ?_
  simp only [qy]
  refine rf_build (cs := fun a => #[.int .i64 0, .int .i64 0, .int .i64 0, .int .i64 0, .int .i64 0]) rfl rfl Kx ?_
  simp only [qz]
  refine rf_storeR (n := 5) rfl rfl Kx rfl rfl (UpdR.there _ (UpdR.here _ _ _ Nl)) Nz ?_
  simp only [qz, Nat.reduceAdd]
  refine rg_assign ?_
  simp only [qz]
  refine rg_nil (ek_next (wk_ret (ek_then_ret ?_)))
  refine ek_ret (fun w hw => ⟨rfl, _, run_results2 rfl rfl (Kn.hd0 (Kn.tl hw)) Try.underlying29 rfl Kx, ?_⟩)
  (try simp only [qz])
  exact ⟨by rw [hr.out]; simp [*, Nm.zero], hw.below⟩

theorem numV_two (r : NR) : ∃ (v : Nm) (c : Int), numV r = .tuple #[nmV v, .int .i64 c] := by cases r <;> exact ⟨_, _, rfl⟩
set_option maxRecDepth 100000 in
set_option maxHeartbeats 1000000 in
theorem rPlus_ok (x y : Nm) (hx : x.Ok) (hy : y.Ok) (w : World) : Calls Try.prog 106 #[nmV x, nmV y] w fun e w' => e = .returned (numV (x.add y)) ∧ Below w.heap.size w w' := by
  go_enter Try.func106, Try.ntmps106
  refine wk_start ?_
  refine wk_seq ?_
  refine wk_region [1, 1, 1, 0] rfl Kx ?_
  simp only [qy]
  refine Rgn fun g1 => ?_
  simp only [qz]
  refine Rgn fun g2 => ?_
  simp only [qz]
  refine Rgn fun g3 => ?_
  simp only [qz]
  refine rg_assign ?_
  simp only [qz]
  refine rg_nil (ek_next (wk_seq ?_))
  refine wk_draws_m (hz1 := (sk _ (sc _ (sc _ sn)))) [(0, 0), (2, 0), (1, 1), (3, 1), (4, 1), (5, 1), (6, 0), (7, 0), (8, 2), (9, 0)] 8 Kx Kx (fun c d v a w h => by cases d <;> exact h) ?_
  simp only [List.map_cons, List.map_nil, List.getD_cons_zero, List.getD_cons_succ]
  refine rf_loadR (n := 5) rfl rfl rfl Try.underlying29 rfl Kx (fun w hw => Kn.hd0 (Kn.tl (Kn.tl hw))) rfl rfl ?_
  simp only [qz]
  refine rf_loadR (n := 5) rfl rfl rfl Try.underlying29 rfl Kx (fun w hw => Kn.hd0 (Kn.tl hw)) rfl rfl ?_
  simp only [qz]
  apply (rg_made (T := fun v u => ∃ s0 s1 s2 s3, v = wdV (x) s0 s1 s2 s3 ∧ SU4 u (x) s0 s1 s2 s3)) Rx Kx
  case hargs => exact Ax
  case h => exact fun w hw => wideOf_any x (Nm.fit_mono hx.fit (by decide)) w
  case hz => exact (fun _ h => by cases h; exact (sc _ (sc _ (sc _ sn))))
  rintro _ u4 ⟨t0, t1, t2, t3, rfl, hS4⟩
  obtain ⟨⟨ta4_0, tc4_0, rfl⟩, -⟩ := id hS4.a
  obtain ⟨⟨ta4_1, tc4_1, rfl⟩, -⟩ := id hS4.b
  obtain ⟨⟨ta4_2, tc4_2, rfl⟩, -⟩ := id hS4.c
  obtain ⟨⟨ta4_3, tc4_3, rfl⟩, -⟩ := id hS4.d
  simp only [qz]
  apply (rg_made (T := fun v u => ∃ s0 s1 s2 s3, v = wdV (y) s0 s1 s2 s3 ∧ SU4 u (y) s0 s1 s2 s3)) Rx Kx
  case hargs => exact Ax
  case h => exact fun w hw => wideOf_any y (Nm.fit_mono hy.fit (by decide)) w
  case hz => exact (fun _ h => by cases h; exact ((sc _ (sc _ (sc _ sn))).trans (List.sublist_append_right _ _)))
  rintro _ u5 ⟨t0, t1, t2, t3, rfl, hS5⟩
  obtain ⟨⟨ta5_0, tc5_0, rfl⟩, -⟩ := id hS5.a
  obtain ⟨⟨ta5_1, tc5_1, rfl⟩, -⟩ := id hS5.b
  obtain ⟨⟨ta5_2, tc5_2, rfl⟩, -⟩ := id hS5.c
  obtain ⟨⟨ta5_3, tc5_3, rfl⟩, -⟩ := id hS5.d
  simp only [qz]
  apply (rg_made (T := fun v u => ∃ s0 s1 s2 s3, v = wdV (x.addR y) s0 s1 s2 s3 ∧ SU4 u (x.addR y) s0 s1 s2 s3)) Rx Kx
  case hargs => exact Ax
  case h => exact fun w hw => wplus_any x y _ _ _ _ _ _ _ _ (to_fit hx.fit Ox (by have := hx.k0; have := hx.k1; have := hy.k1; omega)) (to_fit hy.fit Ox (by have := hy.k0; have := hx.k1; have := hy.k1; omega)) hx.k0 (by have := hx.k1; omega) hy.k0 (by have := hy.k1; omega) w (hS4.at hw ((List.sublist_append_left _ _).trans (List.sublist_append_right _ _))) (hS5.at hw (List.sublist_append_left _ _))
  case hz => exact (fun _ h => by cases h; exact (((sc _ (sc _ (sc _ sn))).trans (List.sublist_append_right _ _)).trans (List.sublist_append_right _ _)))
  rintro _ u6 ⟨t0, t1, t2, t3, rfl, hS6⟩
  obtain ⟨⟨ta6_0, tc6_0, rfl⟩, -⟩ := id hS6.a
  obtain ⟨⟨ta6_1, tc6_1, rfl⟩, -⟩ := id hS6.b
  obtain ⟨⟨ta6_2, tc6_2, rfl⟩, -⟩ := id hS6.c
  obtain ⟨⟨ta6_3, tc6_3, rfl⟩, -⟩ := id hS6.d
  simp only [qz]
  apply rg_pure Rx Kx
  case hargs => exact Ax
  case h => exact fun w hw => rnumber_any (x.addR y) _ _ _ _ (addR_fitW hx hy) (by have := hx.k0; have := hy.k0; simp only [Nm.addR]; omega) (by have := hx.k1; have := hy.k1; simp only [Nm.addR]; omega) w (hS6.at hw (List.sublist_append_left _ _))
  case hz => exact (fun _ h => by cases h; exact ((((sc _ (sc _ (sc _ sn))).trans (List.sublist_append_right _ _)).trans (List.sublist_append_right _ _)).trans (List.sublist_append_right _ _)))
  simp only [qz]
  obtain ⟨v, c, hv⟩ := numV_two (x.addR y).mk'
  rw [hv]
  refine rf_extract rfl rfl rfl rfl ?_
  simp only [qz]
  refine rf_extract rfl rfl rfl rfl ?_
  simp only [qz]
  refine rf_storeRM (n := 5) rfl rfl Kx rfl rfl (UpdR.app _ (UpdR.app _ (UpdR.app _ (UpdR.here _ _ _ Nl)))) ((((sk _ (sc _ (sc _ sn))).trans (List.sublist_append_right _ _)).trans (List.sublist_append_right _ _)).trans (List.sublist_append_right _ _)) ?_
  simp only [qz, Nat.reduceAdd]
  refine rg_assign ?_
  simp only [qz]
  refine rg_nil (ek_next (wk_ret ?_))
  refine ek_ret (fun w hw => ⟨rfl, _, run_results2 rfl rfl (Kn.hd0 (Kn.tlU (Kn.tlU (Kn.tlU hw)))) Try.underlying29 rfl Kx, ?_⟩)
  (try simp only [qz])
  exact ⟨congrArg Ending.returned hv.symm, hw.below⟩

set_option maxRecDepth 100000 in
set_option maxHeartbeats 1000000 in
theorem rTimes_ok (x y : Nm) (hx : x.Ok) (hy : y.Ok) (w : World) : Calls Try.prog 128 #[nmV x, nmV y] w fun e w' => e = .returned (numV (x.mul y)) ∧ Below w.heap.size w w' := by
  go_enter Try.func128, Try.ntmps128
  refine wk_start ?_
  refine wk_seq ?_
  refine wk_region [1, 1, 1, 0] rfl Kx ?_
  simp only [qy]
  refine Rgn fun g1 => ?_
  simp only [qz]
  refine Rgn fun g2 => ?_
  simp only [qz]
  refine Rgn fun g3 => ?_
  simp only [qz]
  refine rg_assign ?_
  simp only [qz]
  refine rg_nil (ek_next (wk_seq ?_))
  refine wk_draws_m (hz1 := (sk _ (sc _ (sc _ sn)))) [(0, 0), (2, 0), (1, 1), (3, 1), (4, 1), (5, 1), (6, 0), (7, 0), (8, 2), (9, 0)] 8 Kx Kx (fun c d v a w h => by cases d <;> exact h) ?_
  simp only [List.map_cons, List.map_nil, List.getD_cons_zero, List.getD_cons_succ]
  refine rf_loadR (n := 5) rfl rfl rfl Try.underlying29 rfl Kx (fun w hw => Kn.hd0 (Kn.tl (Kn.tl hw))) rfl rfl ?_
  simp only [qz]
  refine rf_loadR (n := 5) rfl rfl rfl Try.underlying29 rfl Kx (fun w hw => Kn.hd0 (Kn.tl hw)) rfl rfl ?_
  simp only [qz]
  apply (rg_made (T := fun v u => ∃ s0 s1 s2 s3, v = wdV (x) s0 s1 s2 s3 ∧ SU4 u (x) s0 s1 s2 s3)) Rx Kx
  case hargs => exact Ax
  case h => exact fun w hw => wideOf_any x (Nm.fit_mono hx.fit (by decide)) w
  case hz => exact (fun _ h => by cases h; exact (sc _ (sc _ (sc _ sn))))
  rintro _ u4 ⟨t0, t1, t2, t3, rfl, hS4⟩
  obtain ⟨⟨ta4_0, tc4_0, rfl⟩, -⟩ := id hS4.a
  obtain ⟨⟨ta4_1, tc4_1, rfl⟩, -⟩ := id hS4.b
  obtain ⟨⟨ta4_2, tc4_2, rfl⟩, -⟩ := id hS4.c
  obtain ⟨⟨ta4_3, tc4_3, rfl⟩, -⟩ := id hS4.d
  simp only [qz]
  apply (rg_made (T := fun v u => ∃ s0 s1 s2 s3, v = wdV (y) s0 s1 s2 s3 ∧ SU4 u (y) s0 s1 s2 s3)) Rx Kx
  case hargs => exact Ax
  case h => exact fun w hw => wideOf_any y (Nm.fit_mono hy.fit (by decide)) w
  case hz => exact (fun _ h => by cases h; exact ((sc _ (sc _ (sc _ sn))).trans (List.sublist_append_right _ _)))
  rintro _ u5 ⟨t0, t1, t2, t3, rfl, hS5⟩
  obtain ⟨⟨ta5_0, tc5_0, rfl⟩, -⟩ := id hS5.a
  obtain ⟨⟨ta5_1, tc5_1, rfl⟩, -⟩ := id hS5.b
  obtain ⟨⟨ta5_2, tc5_2, rfl⟩, -⟩ := id hS5.c
  obtain ⟨⟨ta5_3, tc5_3, rfl⟩, -⟩ := id hS5.d
  simp only [qz]
  apply (rg_made (T := fun v u => ∃ s0 s1 s2 s3, v = wdV (x.mulR y) s0 s1 s2 s3 ∧ SU4 u (x.mulR y) s0 s1 s2 s3)) Rx Kx
  case hargs => exact Ax
  case h => exact fun w hw => wtimes_any x y _ _ _ _ _ _ _ _ (fit382 hx.fit) (fit382 hy.fit) (prodB_ok hx.fit hy.fit) hx.k0 (by have := hx.k1; omega) hy.k0 (by have := hy.k1; omega) w (hS4.at hw ((List.sublist_append_left _ _).trans (List.sublist_append_right _ _))) (hS5.at hw (List.sublist_append_left _ _))
  case hz => exact (fun _ h => by cases h; exact (((sc _ (sc _ (sc _ sn))).trans (List.sublist_append_right _ _)).trans (List.sublist_append_right _ _)))
  rintro _ u6 ⟨t0, t1, t2, t3, rfl, hS6⟩
  obtain ⟨⟨ta6_0, tc6_0, rfl⟩, -⟩ := id hS6.a
  obtain ⟨⟨ta6_1, tc6_1, rfl⟩, -⟩ := id hS6.b
  obtain ⟨⟨ta6_2, tc6_2, rfl⟩, -⟩ := id hS6.c
  obtain ⟨⟨ta6_3, tc6_3, rfl⟩, -⟩ := id hS6.d
  simp only [qz]
  apply rg_pure Rx Kx
  case hargs => exact Ax
  case h => exact fun w hw => rnumber_any (x.mulR y) _ _ _ _ (mulR_fitW hx hy) (by have := hx.k0; have := hy.k0; simp only [Nm.mulR]; omega) (by have := hx.k1; have := hy.k1; simp only [Nm.mulR]; omega) w (hS6.at hw (List.sublist_append_left _ _))
  case hz => exact (fun _ h => by cases h; exact ((((sc _ (sc _ (sc _ sn))).trans (List.sublist_append_right _ _)).trans (List.sublist_append_right _ _)).trans (List.sublist_append_right _ _)))
  simp only [qz]
  obtain ⟨v, c, hv⟩ := numV_two (x.mulR y).mk'
  rw [hv]
  refine rf_extract rfl rfl rfl rfl ?_
  simp only [qz]
  refine rf_extract rfl rfl rfl rfl ?_
  simp only [qz]
  refine rf_storeRM (n := 5) rfl rfl Kx rfl rfl (UpdR.app _ (UpdR.app _ (UpdR.app _ (UpdR.here _ _ _ Nl)))) ((((sk _ (sc _ (sc _ sn))).trans (List.sublist_append_right _ _)).trans (List.sublist_append_right _ _)).trans (List.sublist_append_right _ _)) ?_
  simp only [qz, Nat.reduceAdd]
  refine rg_assign ?_
  simp only [qz]
  refine rg_nil (ek_next (wk_ret ?_))
  refine ek_ret (fun w hw => ⟨rfl, _, run_results2 rfl rfl (Kn.hd0 (Kn.tlU (Kn.tlU (Kn.tlU hw)))) Try.underlying29 rfl Kx, ?_⟩)
  (try simp only [qz])
  exact ⟨congrArg Ending.returned hv.symm, hw.below⟩

set_option maxRecDepth 100000 in
set_option maxHeartbeats 1000000 in
theorem rConj_any (z : Nm) (h : z.Fit 4611686018427387903) (w : World) : Calls Try.prog 79 #[nmV z] w fun e w' => e = .returned (nmV z.conj) ∧ Below w.heap.size w w' := by
  obtain ⟨fa0, fa1, fb0, fb1, fc0, fc1, fd0, fd1⟩ := h
  go_enter Try.func79, Try.ntmps79
  refine wk_start ?_
  refine wk_seq ?_
  refine wk_region [1, 1] rfl Kx ?_
  simp only [qy]
  refine Rgn fun g1 => ?_
  simp only [qz]
  refine Rgn fun g2 => ?_
  simp only [qz]
  refine rg_nil (ek_next (wk_seq ?_))
  refine wk_region [0, 0, 0, 0, 0, 0, 0, 0, 0, 0, 0, 0, 0, 0, 0, 0, 0, 0, 0, 1] rfl Kx ?_
  simp only [qy]
  refine rf_field (n := 3) (j := 0) rfl rfl rfl Try.underlying29 rfl Kx rfl ?_
  simp only [qz]
  refine rf_indexA (n := 0) (sz := 1) (j := 0) rfl rfl rfl rfl Try.underlying27 Kx (by decide) rfl ?_
  simp only [qz]
  refine rf_load rfl rfl rfl Try.underlying3 rfl (fun w hw => (Kn.hd0 (Kn.tl hw)).at rfl) ?_
  simp only [qz]
  refine rf_field (n := 3) (j := 0) rfl rfl rfl Try.underlying29 rfl Kx rfl ?_
  simp only [qz]
  refine rf_indexA (n := 3) (sz := 1) (j := 3) rfl rfl rfl rfl Try.underlying27 Kx (by decide) rfl ?_
  simp only [qz]
  refine rf_load rfl rfl rfl Try.underlying3 rfl (fun w hw => (Kn.hd0 (Kn.tl hw)).at rfl) ?_
  simp only [qz]
  refine rf_neg rfl rfl rfl (wrap_ok Ox Ox) ?_
  simp only [qz]
  refine rf_field (n := 3) (j := 0) rfl rfl rfl Try.underlying29 rfl Kx rfl ?_
  simp only [qz]
  refine rf_indexA (n := 2) (sz := 1) (j := 2) rfl rfl rfl rfl Try.underlying27 Kx (by decide) rfl ?_
  simp only [qz]
  refine rf_load rfl rfl rfl Try.underlying3 rfl (fun w hw => (Kn.hd0 (Kn.tl hw)).at rfl) ?_
  simp only [qz]
  refine rf_neg rfl rfl rfl (wrap_ok Ox Ox) ?_
  simp only [qz]
  refine rf_field (n := 3) (j := 0) rfl rfl rfl Try.underlying29 rfl Kx rfl ?_
  simp only [qz]
  refine rf_indexA (n := 1) (sz := 1) (j := 1) rfl rfl rfl rfl Try.underlying27 Kx (by decide) rfl ?_
  simp only [qz]
  refine rf_load rfl rfl rfl Try.underlying3 rfl (fun w hw => (Kn.hd0 (Kn.tl hw)).at rfl) ?_
  simp only [qz]
  refine rf_neg rfl rfl rfl (wrap_ok Ox Ox) ?_
  simp only [qz]
  refine rf_build (cs := fun a => #[a.eval (.tmp 5), a.eval (.tmp 9), a.eval (.tmp 13), a.eval (.tmp 17)]) rfl rfl Kx ?_
  simp only [qz]
  refine rf_field (n := 0) (j := 4) rfl rfl rfl Try.underlying29 rfl Kx rfl ?_
  simp only [qz]
  refine rf_load rfl rfl rfl Try.underlying3 rfl (fun w hw => (Kn.hd0 (Kn.tl hw)).at rfl) ?_
  simp only [qz]
  refine rf_build (cs := fun a => #[cellAt (a.eval (.tmp 18)) 0, cellAt (a.eval (.tmp 18)) 1, cellAt (a.eval (.tmp 18)) 2, cellAt (a.eval (.tmp 18)) 3, a.eval (.tmp 20)]) rfl rfl Kx ?_
  simp only [qz]
  refine rf_storeR (n := 5) rfl rfl Kx rfl rfl (UpdR.here _ _ _ Nl) Nz ?_
  simp only [qz, Nat.reduceAdd]
  refine rg_nil (ek_next (wk_ret ?_))
  refine ek_ret (fun w hw => ⟨rfl, _, run_results1 rfl rfl (Kn.hd0 hw) Try.underlying29 rfl Kx, ?_⟩)
  (try simp only [qz])
  first | exact ⟨rfl, hw.below⟩ | exact ⟨trivial, hw.below⟩ | exact hw.below

end Go.Proofs.Ytjeijnjaleldkaa
namespace Go.Proofs.Ytjeijnjaleldkaa
set_option linter.all false
open Go.RowKit

theorem patB_ok {p : List Int} (h : patB p = true) : okP p = true ∧ sT p p.length ≤ 5 := by
  unfold patB at h
  rw [Bool.and_eq_true, decide_eq_true_eq] at h
  exact h
theorem mode_le {p : List Int} (h : patB p = true) {k : Nat} (hk : k < p.length) : (modes p k).length + (gI p k).toNat ≤ 5 ∧ 0 ≤ gI p k ∧ gI p k ≤ 5 ∧ (gI p k).toNat ≤ (modes p p.length).length := by
  obtain ⟨h1, h2⟩ := patB_ok h
  have hok : ∀ j, j < p.length → 0 ≤ gI p j ∧ gI p j ≤ 5 := fun j hj => okP_at h1 hj
  have h3 := modes_len hok k Ox
  have h4 := sT_mono hok p.length (show k + 1 ≤ p.length by omega) (Nat.le_refl _)
  have h5 : sT p (k + 1) = sT p k + gI p k := rfl
  have h6 := hok k hk
  have h7 := modes_len hok p.length (Nat.le_refl _)
  have h8 := sT_bd hok k Ox
  omega
theorem Own.as1c {e n c : Nat} {u s : List Blk} {a : Option Addr} {xs : List Value} {B w : World} {F : List Nat} (h : Own e 1 u (.slice a n c) n xs) (K : Kn B F (u ++ s) w) : AS w a xs := by
  obtain ⟨a', c', e, h'⟩ := Own.as h K
  cases e
  exact h'
set_option maxRecDepth 100000 in
set_option maxHeartbeats 1000000 in
theorem asked_any (n : Int) (xs : List Nm) (p r : List Int) (a a1 a2 : Option Addr) (c c1 c2 : Nat) (hl : xs.length ≤ 1000000) (hlp : p.length ≤ 1000000) (hlr : r.length ≤ 1000000) (w : World) (hA : AS w a (nms xs)) (hP : AS w a1 (zs p)) (hR : AS w a2 (zs r)) : Calls Try.prog 94 #[.agg #[.int .i64 n, .slice a xs.length c], .slice a1 p.length c1, .slice a2 r.length c2] w fun e w' => e = .returned (.int .i64 (askE n xs p r)) ∧ Below w.heap.size w w' := by
  go_enter Try.func94, Try.ntmps94
  refine wk_start ?_
  refine wk_seq ?_
  refine wk_region [1, 0] rfl Kx ?_
  simp only [qy]
  refine Rgn fun g1 => ?_
  simp only [qz]
  refine rg_assign ?_
  simp only [qz]
  refine rg_nil (ek_next (wk_seq (wk_seq ?_)))
  refine wk_region [0, 1, 0] rfl Kx ?_
  simp only [qy]
  refine rf_loadR (n := 2) rfl rfl rfl Try.underlying24 rfl Kx (fun w hw => Kn.hd0 hw) rfl rfl ?_
  simp only [qz]
  apply rg_pureb Rx Kx
  case hargs => exact Ax
  case h => exact fun w hw => rmvalid_any n xs a c hl w (hA.kn0 hw)
  case hz => exact Nz
  intro x h1
  cases x
  · (try simp only [qd, ne_eq] at h1)
    simp only [qz]
    refine rf_not rfl rfl rfl ?_
    simp only [qz]
    refine rg_nil (ek_next (wk_cond_t rfl (wk_seq ?_)))
    refine wk_region [0] rfl Kx ?_
    simp only [qy]
    refine rg_assign ?_
    simp only [qz]
    refine rg_nil (ek_next (wk_ret (ek_then_ret ?_)))
    refine ek_ret (fun w hw => ⟨rfl, _, res_t _ rfl, ?_⟩)
    (try simp only [qz])
    exact ⟨by rw [askE_20 h1], hw.below⟩
  (try simp only [qd, ne_eq] at h1)
  simp only [qz]
  refine rf_not rfl rfl rfl ?_
  simp only [qz]
  refine rg_nil (ek_next (wk_cond_f rfl (wk_skip (ek_next (wk_seq (wk_seq ?_))))))
  refine wk_region [0, 0, 0, 0, 0, 0, 0, 0, 0, 0, 0, 0] rfl Kx ?_
  simp only [qy]
  refine rg_move ?_
  simp only [qz]
  refine rf_len rfl rfl rfl Try.underlying37 ?_
  simp only [qz]
  refine rf_field (n := 0) (j := 0) rfl rfl rfl Try.underlying24 rfl Kx rfl ?_
  simp only [qz]
  refine rf_load rfl rfl rfl Try.underlying3 rfl (fun w hw => (Kn.hd0 hw).at rfl) ?_
  simp only [qz]
  refine rfb_neq rfl rfl rfl rfl ?_
  intro x h2
  cases x
  · (try simp only [qd, ne_eq] at h2)
    simp only [qz]
    refine rg_move ?_
    simp only [qz]
    apply rg_soft_g
    case hg => rfl
    case hy => (intro w hw; go_simp; (try go_bits); exact Yld.mk _ _)
    simp only [qz]
    refine rf_len rfl rfl rfl Try.underlying37 ?_
    simp only [qz]
    refine rf_field (n := 0) (j := 0) rfl rfl rfl Try.underlying24 rfl Kx rfl ?_
    simp only [qz]
    refine rf_load rfl rfl rfl Try.underlying3 rfl (fun w hw => (Kn.hd0 hw).at rfl) ?_
    simp only [qz]
    refine rfb_neq rfl rfl rfl rfl ?_
    intro x h3
    cases x
    · (try simp only [qd, ne_eq] at h3)
      simp only [qz]
      have hsz : (p.length : Int) = n ∧ (r.length : Int) = n := ⟨by omega, by omega⟩
      refine rf_pick rfl rfl rfl ?_
      simp only [qz]
      refine rg_nil (ek_next (wk_cond_f rfl (wk_skip (ek_next (wk_seq ?_)))))
      refine wk_region [0, 1, 0, 0, 0, 0, 0] rfl Kx ?_
      simp only [qy]
      refine rg_move ?_
      simp only [qz]
      apply rg_pure Rx Kx
      case hargs => exact Ax
      case h => exact fun w hw => light_any p a1 c1 hlp w (hP.kn0 hw)
      case hz => exact Nz
      rcases hbp : liB p with _ | _
      · simp only [Act.put, Act.eval, qn, qv, Nat.reduceAdd]
        refine rg_move ?_
        simp only [qz]
        refine rf_extract rfl rfl rfl rfl ?_
        simp only [qz]
        refine rf_extract rfl rfl rfl rfl ?_
        simp only [qz]
        refine rg_assign ?_
        simp only [qz]
        refine rg_assign ?_
        simp only [qz]
        refine rg_nil (ek_next (wk_seq ?_))
        refine wk_region [0, 1, 0, 0, 0, 0, 0] rfl Kx ?_
        simp only [qy]
        refine rg_move ?_
        simp only [qz]
        apply rg_pure Rx Kx
        case hargs => exact Ax
        case h => exact fun w hw => light_any r a2 c2 hlr w (hR.kn0 hw)
        case hz => exact Nz
        rcases hbr : liB r with _ | _
        · simp only [Act.put, Act.eval, qn, qv, Nat.reduceAdd]
          refine rg_move ?_
          simp only [qz]
          refine rf_extract rfl rfl rfl rfl ?_
          simp only [qz]
          refine rf_extract rfl rfl rfl rfl ?_
          simp only [qz]
          refine rg_assign ?_
          simp only [qz]
          refine rg_assign ?_
          simp only [qz]
          refine rg_nil (ek_next (wk_seq (wk_seq ?_)))
          refine wk_region [0, 0, 0, 0, 0, 0, 0, 0, 0, 0, 0] rfl Kx ?_
          simp only [qy]
          refine rg_move ?_
          simp only [qz]
          refine rf_not rfl rfl rfl ?_
          simp only [qz]
          refine rg_move ?_
          simp only [qz]
          refine rg_skip Rx ?_
          simp only [qz]
          refine rg_skip Rx ?_
          simp only [qz]
          refine rf_pick rfl rfl rfl ?_
          simp only [qz]
          refine rg_move ?_
          simp only [qz]
          refine rg_skip Rx ?_
          simp only [qz]
          refine rg_skip Rx ?_
          simp only [qz]
          refine rg_skip Rx ?_
          simp only [qz]
          refine rf_pick rfl rfl rfl ?_
          simp only [qz]
          refine rg_nil (ek_next (wk_cond_t rfl (wk_seq ?_)))
          refine wk_region [0] rfl Kx ?_
          simp only [qy]
          refine rg_assign ?_
          simp only [qz]
          refine rg_nil (ek_next (wk_ret (ek_then_ret ?_)))
          refine ek_ret (fun w hw => ⟨rfl, _, res_t _ rfl, ?_⟩)
          (try simp only [qz])
          exact ⟨by rw [askE_2 h1 hsz (fun h => by first | (rw [hbp] at h; exact absurd h.1 (by decide)) | (rw [hbr] at h; exact absurd h.2.1 (by decide)) | omega)], hw.below⟩
        simp only [Act.put, Act.eval, qn, qv, Nat.reduceAdd]
        refine rg_move ?_
        simp only [qz]
        refine rf_extract rfl rfl rfl rfl ?_
        simp only [qz]
        refine rf_extract rfl rfl rfl rfl ?_
        simp only [qz]
        refine rg_assign ?_
        simp only [qz]
        refine rg_assign ?_
        simp only [qz]
        refine rg_nil (ek_next (wk_seq (wk_seq ?_)))
        refine wk_region [0, 0, 0, 0, 0, 0, 0, 0, 0, 0, 0] rfl Kx ?_
        simp only [qy]
        refine rg_move ?_
        simp only [qz]
        refine rf_not rfl rfl rfl ?_
        simp only [qz]
        refine rg_move ?_
        simp only [qz]
        refine rg_skip Rx ?_
        simp only [qz]
        refine rg_skip Rx ?_
        simp only [qz]
        refine rf_pick rfl rfl rfl ?_
        simp only [qz]
        refine rg_move ?_
        simp only [qz]
        refine rg_skip Rx ?_
        simp only [qz]
        refine rg_skip Rx ?_
        simp only [qz]
        refine rg_skip Rx ?_
        simp only [qz]
        refine rf_pick rfl rfl rfl ?_
        simp only [qz]
        refine rg_nil (ek_next (wk_cond_t rfl (wk_seq ?_)))
        refine wk_region [0] rfl Kx ?_
        simp only [qy]
        refine rg_assign ?_
        simp only [qz]
        refine rg_nil (ek_next (wk_ret (ek_then_ret ?_)))
        refine ek_ret (fun w hw => ⟨rfl, _, res_t _ rfl, ?_⟩)
        (try simp only [qz])
        exact ⟨by rw [askE_2 h1 hsz (fun h => by first | (rw [hbp] at h; exact absurd h.1 (by decide)) | (rw [hbr] at h; exact absurd h.2.1 (by decide)) | omega)], hw.below⟩
      simp only [Act.put, Act.eval, qn, qv, Nat.reduceAdd]
      refine rg_move ?_
      simp only [qz]
      refine rf_extract rfl rfl rfl rfl ?_
      simp only [qz]
      refine rf_extract rfl rfl rfl rfl ?_
      simp only [qz]
      refine rg_assign ?_
      simp only [qz]
      refine rg_assign ?_
      simp only [qz]
      refine rg_nil (ek_next (wk_seq ?_))
      refine wk_region [0, 1, 0, 0, 0, 0, 0] rfl Kx ?_
      simp only [qy]
      refine rg_move ?_
      simp only [qz]
      apply rg_pure Rx Kx
      case hargs => exact Ax
      case h => exact fun w hw => light_any r a2 c2 hlr w (hR.kn0 hw)
      case hz => exact Nz
      rcases hbr : liB r with _ | _
      · simp only [Act.put, Act.eval, qn, qv, Nat.reduceAdd]
        refine rg_move ?_
        simp only [qz]
        refine rf_extract rfl rfl rfl rfl ?_
        simp only [qz]
        refine rf_extract rfl rfl rfl rfl ?_
        simp only [qz]
        refine rg_assign ?_
        simp only [qz]
        refine rg_assign ?_
        simp only [qz]
        refine rg_nil (ek_next (wk_seq (wk_seq ?_)))
        refine wk_region [0, 0, 0, 0, 0, 0, 0, 0, 0, 0, 0] rfl Kx ?_
        simp only [qy]
        refine rg_move ?_
        simp only [qz]
        refine rf_not rfl rfl rfl ?_
        simp only [qz]
        refine rg_move ?_
        simp only [qz]
        apply rg_soft_g
        case hg => rfl
        case hy => (intro w hw; go_simp; (try go_bits); exact Yld.mk _ _)
        simp only [qz]
        refine rf_not rfl rfl rfl ?_
        simp only [qz]
        refine rf_pick rfl rfl rfl ?_
        simp only [qz]
        refine rg_move ?_
        simp only [qz]
        refine rg_skip Rx ?_
        simp only [qz]
        refine rg_skip Rx ?_
        simp only [qz]
        refine rg_skip Rx ?_
        simp only [qz]
        refine rf_pick rfl rfl rfl ?_
        simp only [qz]
        refine rg_nil (ek_next (wk_cond_t rfl (wk_seq ?_)))
        refine wk_region [0] rfl Kx ?_
        simp only [qy]
        refine rg_assign ?_
        simp only [qz]
        refine rg_nil (ek_next (wk_ret (ek_then_ret ?_)))
        refine ek_ret (fun w hw => ⟨rfl, _, res_t _ rfl, ?_⟩)
        (try simp only [qz])
        exact ⟨by rw [askE_2 h1 hsz (fun h => by first | (rw [hbp] at h; exact absurd h.1 (by decide)) | (rw [hbr] at h; exact absurd h.2.1 (by decide)) | omega)], hw.below⟩
      simp only [Act.put, Act.eval, qn, qv, Nat.reduceAdd]
      refine rg_move ?_
      simp only [qz]
      refine rf_extract rfl rfl rfl rfl ?_
      simp only [qz]
      refine rf_extract rfl rfl rfl rfl ?_
      simp only [qz]
      refine rg_assign ?_
      simp only [qz]
      refine rg_assign ?_
      simp only [qz]
      refine rg_nil (ek_next (wk_seq (wk_seq ?_)))
      refine wk_region [0, 0, 0, 0, 0, 0, 0, 0, 0, 0, 0] rfl Kx ?_
      simp only [qy]
      refine rg_move ?_
      simp only [qz]
      refine rf_not rfl rfl rfl ?_
      simp only [qz]
      refine rg_move ?_
      simp only [qz]
      apply rg_soft_g
      case hg => rfl
      case hy => (intro w hw; go_simp; (try go_bits); exact Yld.mk _ _)
      simp only [qz]
      refine rf_not rfl rfl rfl ?_
      simp only [qz]
      refine rf_pick rfl rfl rfl ?_
      simp only [qz]
      refine rg_move ?_
      simp only [qz]
      apply rg_soft_g
      case hg => rfl
      case hy => (intro w hw; go_simp; (try go_bits); exact Yld.mk _ _)
      simp only [qz]
      apply rg_soft_g
      case hg => rfl
      case hy => (intro w hw; go_simp; (try go_bits); exact Yld.mk _ _)
      simp only [qz]
      refine rfb_neq rfl rfl rfl rfl ?_
      intro x h4
      cases x
      · (try simp only [qd, ne_eq] at h4)
        simp only [qz]
        refine rf_pick rfl rfl rfl ?_
        simp only [qz]
        refine rg_nil (ek_next (wk_cond_f rfl (wk_skip (ek_next (wk_seq ?_)))))
        refine wk_region [0] rfl Kx ?_
        simp only [qy]
        refine rg_assign ?_
        simp only [qz]
        refine rg_nil (ek_next (wk_ret ?_))
        refine ek_ret (fun w hw => ⟨rfl, _, res_t _ rfl, ?_⟩)
        (try simp only [qz])
        exact ⟨by rw [askE_0 h1 hsz ⟨hbp, hbr, by omega⟩], hw.below⟩
      (try simp only [qd, ne_eq] at h4)
      simp only [qz]
      refine rf_pick rfl rfl rfl ?_
      simp only [qz]
      refine rg_nil (ek_next (wk_cond_t rfl (wk_seq ?_)))
      refine wk_region [0] rfl Kx ?_
      simp only [qy]
      refine rg_assign ?_
      simp only [qz]
      refine rg_nil (ek_next (wk_ret (ek_then_ret ?_)))
      refine ek_ret (fun w hw => ⟨rfl, _, res_t _ rfl, ?_⟩)
      (try simp only [qz])
      exact ⟨by rw [askE_2 h1 hsz (fun h => by first | (rw [hbp] at h; exact absurd h.1 (by decide)) | (rw [hbr] at h; exact absurd h.2.1 (by decide)) | omega)], hw.below⟩
    (try simp only [qd, ne_eq] at h3)
    simp only [qz]
    refine rf_pick rfl rfl rfl ?_
    simp only [qz]
    refine rg_nil (ek_next (wk_cond_t rfl (wk_seq ?_)))
    refine wk_region [0] rfl Kx ?_
    simp only [qy]
    refine rg_assign ?_
    simp only [qz]
    refine rg_nil (ek_next (wk_ret (ek_then_ret ?_)))
    refine ek_ret (fun w hw => ⟨rfl, _, res_t _ rfl, ?_⟩)
    (try simp only [qz])
    exact ⟨by rw [askE_21 h1 (fun h => by omega)], hw.below⟩
  (try simp only [qd, ne_eq] at h2)
  simp only [qz]
  refine rg_move ?_
  simp only [qz]
  refine rg_skip Rx ?_
  simp only [qz]
  refine rg_skip Rx ?_
  simp only [qz]
  refine rg_skip Rx ?_
  simp only [qz]
  refine rg_skip Rx ?_
  simp only [qz]
  refine rg_skip Rx ?_
  simp only [qz]
  refine rf_pick rfl rfl rfl ?_
  simp only [qz]
  refine rg_nil (ek_next (wk_cond_t rfl (wk_seq ?_)))
  refine wk_region [0] rfl Kx ?_
  simp only [qy]
  refine rg_assign ?_
  simp only [qz]
  refine rg_nil (ek_next (wk_ret (ek_then_ret ?_)))
  refine ek_ret (fun w hw => ⟨rfl, _, res_t _ rfl, ?_⟩)
  (try simp only [qz])
  exact ⟨by rw [askE_21 h1 (fun h => by omega)], hw.below⟩

set_option maxRecDepth 100000 in
set_option maxHeartbeats 1000000 in
theorem ramplitude_any (n : Int) (xs : List Nm) (p r : List Int) (a a1 a2 : Option Addr) (c c1 c2 : Nat) (hl : xs.length ≤ 1000000) (hlp : p.length ≤ 1000000) (hlr : r.length ≤ 1000000) (w : World) (hA : AS w a (nms xs)) (hP : AS w a1 (zs p)) (hR : AS w a2 (zs r)) : Calls Try.prog 45 #[.agg #[.int .i64 n, .slice a xs.length c], .slice a1 p.length c1, .slice a2 r.length c2] w fun e w' => e = .returned (numV (ampR n xs p r)) ∧ Below w.heap.size w w' := by
  go_enter Try.func45, Try.ntmps45
  refine wk_start ?_
  refine wk_seq ?_
  refine wk_region [1, 1, 0] rfl Kx ?_
  simp only [qy]
  refine Rgn fun g1 => ?_
  simp only [qz]
  refine Rgn fun g2 => ?_
  simp only [qz]
  refine rg_assign ?_
  simp only [qz]
  refine rg_nil (ek_next (wk_seq ?_))
  refine wk_region [0, 0, 0, 1, 0] rfl Kx ?_
  simp only [qy]
  refine rf_loadR (n := 2) rfl rfl rfl Try.underlying24 rfl Kx (fun w hw => Kn.hd0 (Kn.tl hw)) rfl rfl ?_
  simp only [qz]
  refine rg_move ?_
  simp only [qz]
  refine rg_move ?_
  simp only [qz]
  apply rg_pure Rx Kx
  case hargs => exact Ax
  case h => exact fun w hw => asked_any n xs p r a a1 a2 c c1 c2 hl hlp hlr w (hA.kn0 hw) (hP.kn0 hw) (hR.kn0 hw)
  case hz => exact Nz
  simp only [qz]
  refine rg_assign ?_
  simp only [qz]
  refine rg_nil (ek_next (wk_seq (wk_seq ?_)))
  refine wk_region [0, 0] rfl Kx ?_
  simp only [qy]
  refine rg_move ?_
  simp only [qz]
  refine rfb_neq rfl rfl rfl rfl ?_
  intro x h1
  cases x
  · (try simp only [qd, ne_eq] at h1)
    simp only [qz]
    obtain ⟨hv, hsz, hbp, hbr, hlen⟩ := ask_amp.2 (by simpa using h1)
    obtain ⟨N, rfl, hN1, hN, hlx, hlx36, hox⟩ := validB_N' hv
    obtain ⟨b1, off1, rfl, hlt1, hcell1⟩ := AS.openI hP Ox
    obtain ⟨b2, off2, rfl, hlt2, hcell2⟩ := AS.openI hR Ox
    have hpN : Hid (p.length = N) := Lib.hid Ox
    have hrN : Hid (r.length = N) := Lib.hid Ox
    replace hlx := Lib.hid hlx
    replace hlen := Lib.hid hlen
    refine rg_nil (ek_next (wk_cond_f rfl (wk_skip (ek_next (wk_seq ?_)))))
    refine wk_region [0] rfl Kx ?_
    simp only [qy]
    refine rg_assign ?_
    simp only [qz]
    refine rg_nil (ek_next (wk_seq (wk_seq ?_)))
    refine wk_region [0] rfl Kx ?_
    simp only [qy]
    refine rg_assign ?_
    simp only [qz]
    refine rg_nil (ek_next (wk_block ?_))
    refine wk_loopF [9, 10, 11, 12, 13, 14, 23, 24, 25, 26, 27, 28, 29, 30, 31, 32, 33, 34, 35, 36, 37, 38, 39, 40, 41, 42, 43, 44, 45, 46, 47, 48, 49, 50, 51, 52, 53, 54, 55, 56, 57, 58, 59, 60, 61] (fun mz f s => ∃ (i : Nat) (vl : Option Addr) (nn vk : Nat) (rs : List Value) (uo uv : List Blk), f 9 = .slice vl nn vk ∧ f 10 = .int .i64 i ∧ s = (uo ++ (uv ++ ((g2, .cells #[.int .i64 0, .int .i64 0, .int .i64 0, .int .i64 0, .int .i64 0] 29) :: ((g1, .cells #[.int .i64 N, .slice a xs.length c] 24) :: [])))) ∧ mz = N - i ∧ i ≤ N ∧ Own 22 1 uo (.slice vl nn vk) nn rs ∧ RowsN uv rs (rowsA N xs p (modes r i)) ∧ Hid (nn = (modes r i).length)) ((fun (i : Nat) (vl : Option Addr) (nn vk : Nat) (rs : List Value) (uo uv : List Blk) => N - i) (0) (none) (0) (0) ([]) ([]) ([])) ?_ Kx ?_
    · exact ⟨0, none, 0, 0, [], [], [], rfl, rfl, rfl, rfl, by omega, Own.nil _ _, RowsN.nil, Lib.hid rfl⟩
    rintro mz f1 s ⟨i, vl, nn, vk, rs, uo, uv, hs1_9, hs1_10, rfl, hn, hd1, hd2, hd3, hd4⟩
    simp only [Act.putF, List.foldl_cons, List.foldl_nil, hs1_9, hs1_10, Act.put, Act.eval, q1, q2, q3, q4, q5, q6, q7, q8, q9, q10, q11, q12, q13, q14, q15, q16, q17, q18, Nat.reduceAdd, Bool.not_true, Bool.not_false]
    clear hs1_9 hs1_10
    refine wk_seq (wk_seq ?_)
    refine wk_region [0, 0, 0, 0] rfl Kx ?_
    simp only [qy]
    refine rg_move ?_
    simp only [qz]
    refine rf_field (n := 0) (j := 0) rfl rfl rfl Try.underlying24 rfl Kx rfl ?_
    simp only [qz]
    refine rf_load rfl rfl rfl Try.underlying3 rfl (fun w hw => (Kn.hd0 (Kn.tl (Kn.tlU (Kn.tlU hw)))).at rfl) ?_
    simp only [qz]
    refine rfb_lss rfl rfl rfl rfl ?_
    intro x h2
    cases x
    · (try simp only [qd, ne_eq] at h2)
      simp only [qz]
      refine rg_nil (ek_next (wk_cond_f rfl (wk_exit (ek_then_exit (ek_then_exit (ek_block_exit (ek_next (wk_seq ?_))))))))
      obtain rfl : N = i := by omega
      have hnn5 : nn ≤ 5 := by (have h1 := (pat_len hbr).2; have h2 := hd4.out; have h3 := hrN.out; rw [h3] at h1; omega)
      have hnp : (modes p p.length).length = nn := by (have h2 := hd4.out; have h3 := hrN.out; have h4 := hlen.out; rw [h3] at h4; omega)
      have hsq : Sq nn (rowsA N xs p (modes r N)) := by (have := rowsA_sq (N := N) (p := p) (L := modes r N) hox; rw [hnp] at this; exact this)
      have hps := pr_sum hnn5 (by rw [hd4.out]; simp [rowsA]) hsq
      replace hnp := Lib.hid hnp
      refine wk_region [0, 1, 1, 0, 0, 1, 0] rfl Kx ?_
      simp only [qy]
      refine rg_move ?_
      simp only [qz]
      apply (rg_made (T := fun v u => ∃ s0 s1 s2 s3, v = wdV (pR nn (rowsA N xs p (modes r N))) s0 s1 s2 s3 ∧ SU4 u (pR nn (rowsA N xs p (modes r N))) s0 s1 s2 s3)) Rx Kx
      case hargs => exact Ax
      case h => exact fun w hw => rperm_any nn (rowsA N xs p (modes r N)) rs vl vk w hnn5 (by rw [hd4.out]; simp [rowsA]) hsq (Own.as1c hd2 (hw.perm (List.Perm.refl _))) (hd3.asA hw ((List.sublist_append_left _ _).trans (List.sublist_append_right _ _)))
      case hz => exact Nz
      rintro _ u3 ⟨t0, t1, t2, t3, rfl, hS3⟩
      obtain ⟨⟨ta3_0, tc3_0, rfl⟩, -⟩ := id hS3.a
      obtain ⟨⟨ta3_1, tc3_1, rfl⟩, -⟩ := id hS3.b
      obtain ⟨⟨ta3_2, tc3_2, rfl⟩, -⟩ := id hS3.c
      obtain ⟨⟨ta3_3, tc3_3, rfl⟩, -⟩ := id hS3.d
      simp only [qz]
      apply rg_pure Rx Kx
      case hargs => exact Ax
      case h => exact fun w hw => rnumber_any (pR nn (rowsA N xs p (modes r N))) _ _ _ _ hps.1 hps.2.1 hps.2.2 w (hS3.at hw (List.sublist_append_left _ _))
      case hz => exact Nz
      simp only [qz]
      obtain ⟨zl, el, hve⟩ := numV_ve (pR nn (rowsA N xs p (modes r N))).mk'
      rw [hve]
      replace hve := Lib.hid hve
      refine rf_extract rfl rfl rfl rfl ?_
      simp only [qz]
      refine rf_extract rfl rfl rfl rfl ?_
      simp only [qz]
      refine rf_storeR (n := 5) rfl rfl Kx rfl rfl (UpdR.app _ (UpdR.app _ (UpdR.app _ (UpdR.here _ _ _ Nl)))) Nz ?_
      simp only [qz, Nat.reduceAdd]
      refine rg_assign ?_
      simp only [qz]
      refine rg_nil (ek_next (wk_ret ?_))
      refine ek_ret (fun w hw => ⟨rfl, _, run_results2 rfl rfl (Kn.hd0 (Kn.tlU (Kn.tlU (Kn.tlU hw)))) Try.underlying29 rfl Kx, ?_⟩)
      (try simp only [qz])
      have hdoc := amp_doc (N := N) (xs := xs) (p := p) (r := r) hox (by have := (pat_len hbp).2; omega) hlen.out
      rw [hnp.out, hrN.out] at hdoc
      exact ⟨by rw [ampR_ok hv hsz ⟨hbp, hbr, hlen.out⟩, Int.toNat_natCast, hnp.out, hrN.out, hdoc, hve.out]; rfl, hw.below⟩
    (try simp only [qd, ne_eq] at h2)
    simp only [qz]
    refine rg_nil (ek_next (wk_cond_t rfl (wk_skip (ek_next (wk_seq (wk_block (wk_seq ?_)))))))
    have hmr := mode_le hbr (k := i) Ox
    have hlen1 := hlen.out
    have hmm : (gI r i).toNat ≤ (modes p p.length).length := by omega
    have hdn := hd4.out
    refine wk_region [0] rfl Kx ?_
    simp only [qy]
    refine rg_assign ?_
    simp only [qz]
    refine rg_nil (ek_next (wk_block ?_))
    refine wk_loopF [9, 11, 12, 13, 14, 29, 30, 31, 32, 33, 34, 35, 36, 37, 38, 39, 40, 41, 42, 43, 44, 45, 46, 47, 48, 49, 50, 51, 52, 53, 54, 55, 56, 57, 58, 59, 60, 61] (fun mz f s => ∃ (aa : Nat) (vl2 : Option Addr) (nn2 vk2 : Nat) (rs2 : List Value) (uo2 uv2 : List Blk), f 9 = .slice vl2 nn2 vk2 ∧ f 11 = .int .i64 aa ∧ s = (uo2 ++ (uv2 ++ ((g2, .cells #[.int .i64 0, .int .i64 0, .int .i64 0, .int .i64 0, .int .i64 0] 29) :: ((g1, .cells #[.int .i64 N, .slice a xs.length c] 24) :: [])))) ∧ mz = (gI r i).toNat - aa ∧ aa ≤ (gI r i).toNat ∧ Own 22 1 uo2 (.slice vl2 nn2 vk2) nn2 rs2 ∧ RowsN uv2 rs2 (rowsA N xs p (modes r i) ++ List.replicate aa (rowA N xs p i p.length)) ∧ Hid (nn2 = (modes r i).length + aa)) ((fun (aa : Nat) (vl2 : Option Addr) (nn2 vk2 : Nat) (rs2 : List Value) (uo2 uv2 : List Blk) => (gI r i).toNat - aa) (0) (vl) (nn) (vk) (rs) (uo) (uv)) ?_ Kx ?_
    · exact ⟨0, vl, nn, vk, rs, uo, uv, rfl, rfl, rfl, rfl, by omega, hd2, by rw [List.replicate_zero, List.append_nil]; exact hd3, Lib.hid hd4.out⟩
    rintro mz f2 s ⟨aa, vl2, nn2, vk2, rs2, uo2, uv2, hs2_9, hs2_11, rfl, hn, he1, he2, he3, he4⟩
    simp only [Act.putF, List.foldl_cons, List.foldl_nil, hs2_9, hs2_11, Act.put, Act.eval, q1, q2, q3, q4, q5, q6, q7, q8, q9, q10, q11, q12, q13, q14, q15, q16, q17, q18, Nat.reduceAdd, Bool.not_true, Bool.not_false]
    clear hs2_9 hs2_11
    refine wk_seq (wk_seq ?_)
    refine wk_region [0, 0, 0, 0, 0, 0] rfl Kx ?_
    simp only [qy]
    refine rg_move ?_
    simp only [qz]
    refine rg_move ?_
    simp only [qz]
    refine rg_move ?_
    simp only [qz]
    refine rf_indexS (n := i) (sz := 1) (j := off2 + i) rfl rfl rfl rfl Try.underlying37 Kx Ox Ox Ox ?_
    simp only [qz]
    refine rf_load (v := .int .i64 (gI r i)) rfl rfl rfl Try.underlying3 rfl (fun w hw => (Kn.cellB hw hlt2 (by simp) (off2 + i)).trans (hcell2 i Ox)) ?_
    simp only [qz]
    refine rfb_lss rfl rfl rfl rfl ?_
    intro x h3
    cases x
    · (try simp only [qd, ne_eq] at h3)
      simp only [qz]
      refine rg_nil (ek_next (wk_cond_f rfl (wk_exit (ek_then_exit (ek_then_exit (ek_block_exit (ek_block (ek_next ?_))))))))
      refine wk_region [0, 0, 0] rfl Kx ?_
      simp only [qy]
      refine rg_move ?_
      simp only [qz]
      refine rf_add rfl rfl rfl rfl (wrap_ok Ox Ox) ?_
      simp only [qz]
      refine rg_assign ?_
      simp only [qz]
      refine rg_nil ?_
      obtain rfl : aa = (gI r i).toNat := by omega
      refine ek_roundF (N - (i + 1)) Ox Kx ?_
      exact ⟨i + 1, vl2, nn2, vk2, rs2, uo2, uv2, rfl, rfl, by rfl, by rfl, Ox, he2, (by rw [rowsA_step]; exact he3), (Lib.hid (by rw [he4.out]; show _ = (modes r i ++ List.replicate _ _).length; rw [List.length_append, List.length_replicate]))⟩
    (try simp only [qd, ne_eq] at h3)
    simp only [qz]
    refine rg_nil (ek_next (wk_cond_t rfl (wk_skip (ek_next (wk_seq (wk_block (wk_seq ?_)))))))
    refine wk_region [0] rfl Kx ?_
    simp only [qy]
    refine rg_assign ?_
    simp only [qz]
    refine rg_nil (ek_next (wk_seq (wk_seq ?_)))
    refine wk_region [0] rfl Kx ?_
    simp only [qy]
    refine rg_assign ?_
    simp only [qz]
    refine rg_nil (ek_next (wk_block ?_))
    refine wk_loopF [12, 13, 14, 37, 38, 39, 40, 41, 42, 43, 44, 45, 46, 47, 48, 49, 50, 51, 52, 53, 54, 55, 56, 57] (fun mz f s => ∃ (k : Nat) (va : Option Addr) (m vc : Nat) (u : List Blk), f 12 = .slice va m vc ∧ f 13 = .int .i64 k ∧ s = (u ++ (uo2 ++ (uv2 ++ ((g2, .cells #[.int .i64 0, .int .i64 0, .int .i64 0, .int .i64 0, .int .i64 0] 29) :: ((g1, .cells #[.int .i64 N, .slice a xs.length c] 24) :: []))))) ∧ mz = N - k ∧ k ≤ N ∧ OwnN u (.slice va m vc) (rowA N xs p i k) ∧ Hid (m = (modes p k).length)) ((fun (k : Nat) (va : Option Addr) (m vc : Nat) (u : List Blk) => N - k) (0) (none) (0) (0) ([])) ?_ Kx ?_
    · exact ⟨0, none, 0, 0, [], rfl, rfl, rfl, rfl, by omega, OwnG.nil, Lib.hid rfl⟩
    rintro mz f3 s ⟨k, va, m, vc, u, hs3_12, hs3_13, rfl, hn, hf1, hf2, hf3⟩
    simp only [Act.putF, List.foldl_cons, List.foldl_nil, hs3_12, hs3_13, Act.put, Act.eval, q1, q2, q3, q4, q5, q6, q7, q8, q9, q10, q11, q12, q13, q14, q15, q16, q17, q18, Nat.reduceAdd, Bool.not_true, Bool.not_false]
    clear hs3_12 hs3_13
    refine wk_seq (wk_seq ?_)
    refine wk_region [0, 0, 0, 0] rfl Kx ?_
    simp only [qy]
    refine rg_move ?_
    simp only [qz]
    refine rf_field (n := 0) (j := 0) rfl rfl rfl Try.underlying24 rfl Kx rfl ?_
    simp only [qz]
    refine rf_load rfl rfl rfl Try.underlying3 rfl (fun w hw => (Kn.hd0 (Kn.tl (Kn.tlU (Kn.tlU (Kn.tlU hw))))).at rfl) ?_
    simp only [qz]
    refine rfb_lss rfl rfl rfl rfl ?_
    intro x h4
    cases x
    · (try simp only [qd, ne_eq] at h4)
      simp only [qz]
      refine rg_nil (ek_next (wk_cond_f rfl (wk_exit (ek_then_exit (ek_then_exit (ek_block_exit (ek_next ?_)))))))
      obtain rfl : N = k := by omega
      refine wk_region [0, 0, 1, 1, 0] rfl Kx ?_
      simp only [qy]
      refine rg_move ?_
      simp only [qz]
      refine rg_move ?_
      simp only [qz]
      refine rg_newS (cs := ?_) (ty := ?_) (n := 1) (c := 1) Rx (fun w => ?_) Nz (fun g4 => ?_); rotate_left 2
      focus (go_simp; rfl)
      simp only [qz]
      refine rg_appLN (h := .slice va m vc) Rx rfl he2 rfl (by have := he4.out; omega) rfl ((((((List.Perm.refl _).append_left _).trans (List.perm_append_comm_assoc u uo2 _)).cons _).trans (List.perm_middle (l₁ := uo2)).symm).trans ((List.Perm.refl _).append_left _)) (fun w hw => Kn.hd0 hw) Nz (fun uP aP cP hOP => ?_)
      simp only [qz]
      refine rg_assign ?_
      simp only [qz]
      refine rg_nil (ek_block (ek_next ?_))
      refine wk_region [0, 0, 0] rfl Kx ?_
      simp only [qy]
      refine rg_move ?_
      simp only [qz]
      refine rf_add rfl rfl rfl rfl (wrap_ok Ox Ox) ?_
      simp only [qz]
      refine rg_assign ?_
      simp only [qz]
      refine rg_nil ?_
      refine ek_sub (List.Sublist.append_left (sk _ (List.Sublist.append_left (List.Sublist.append_left (sc _ (sc _ sn)) _) _)) _) ?_
      refine ek_roundF ((gI r i).toNat - (aa + 1)) Ox Kx ?_
      exact ⟨aa + 1, aP, nn2 + 1, cP, rs2 ++ [.slice va m vc], uP, u ++ uv2, rfl, rfl, by simp only [List.append_assoc], by rfl, Ox, hOP, (by rw [← rep_snoc]; exact RowsN.snoc he3 (by rw [hpN.out]; exact hf2) (by show 0 < (List.map _ _).length; rw [List.length_map]; omega)), (Lib.hid (by rw [he4.out]; omega))⟩
    (try simp only [qd, ne_eq] at h4)
    simp only [qz]
    refine rg_nil (ek_next (wk_cond_t rfl (wk_skip (ek_next (wk_seq (wk_block (wk_seq ?_)))))))
    have hmp := mode_le hbp (k := k) Ox
    refine wk_region [0] rfl Kx ?_
    simp only [qy]
    refine rg_assign ?_
    simp only [qz]
    refine rg_nil (ek_next (wk_block ?_))
    refine wk_loopF [12, 14, 43, 44, 45, 46, 47, 48, 49, 50, 51, 52, 53, 54, 55, 56, 57] (fun mz f s => ∃ (bb : Nat) (vb : Option Addr) (m2 vd : Nat) (u2 : List Blk), f 12 = .slice vb m2 vd ∧ f 14 = .int .i64 bb ∧ s = (u2 ++ (uo2 ++ (uv2 ++ ((g2, .cells #[.int .i64 0, .int .i64 0, .int .i64 0, .int .i64 0, .int .i64 0] 29) :: ((g1, .cells #[.int .i64 N, .slice a xs.length c] 24) :: []))))) ∧ mz = (gI p k).toNat - bb ∧ bb ≤ (gI p k).toNat ∧ OwnN u2 (.slice vb m2 vd) (rowA N xs p i k ++ List.replicate bb (nm xs (i * N + k))) ∧ Hid (m2 = (modes p k).length + bb)) ((fun (bb : Nat) (vb : Option Addr) (m2 vd : Nat) (u2 : List Blk) => (gI p k).toNat - bb) (0) (va) (m) (vc) (u)) ?_ Kx ?_
    · exact ⟨0, va, m, vc, u, rfl, rfl, rfl, rfl, by omega, by rw [List.replicate_zero, List.append_nil]; exact hf2, Lib.hid hf3.out⟩
    rintro mz f4 s ⟨bb, vb, m2, vd, u2, hs4_12, hs4_14, rfl, hn, hg1, hg2, hg3⟩
    simp only [Act.putF, List.foldl_cons, List.foldl_nil, hs4_12, hs4_14, Act.put, Act.eval, q1, q2, q3, q4, q5, q6, q7, q8, q9, q10, q11, q12, q13, q14, q15, q16, q17, q18, Nat.reduceAdd, Bool.not_true, Bool.not_false]
    clear hs4_12 hs4_14
    refine wk_seq (wk_seq ?_)
    refine wk_region [0, 0, 0, 0, 0, 0] rfl Kx ?_
    simp only [qy]
    refine rg_move ?_
    simp only [qz]
    refine rg_move ?_
    simp only [qz]
    refine rg_move ?_
    simp only [qz]
    refine rf_indexS (n := k) (sz := 1) (j := off1 + k) rfl rfl rfl rfl Try.underlying37 Kx Ox Ox Ox ?_
    simp only [qz]
    refine rf_load (v := .int .i64 (gI p k)) rfl rfl rfl Try.underlying3 rfl (fun w hw => (Kn.cellB hw hlt1 (by simp) (off1 + k)).trans (hcell1 k Ox)) ?_
    simp only [qz]
    refine rfb_lss rfl rfl rfl rfl ?_
    intro x h5
    cases x
    · (try simp only [qd, ne_eq] at h5)
      simp only [qz]
      refine rg_nil (ek_next (wk_cond_f rfl (wk_exit (ek_then_exit (ek_then_exit (ek_block_exit (ek_block (ek_next ?_))))))))
      refine wk_region [0, 0, 0] rfl Kx ?_
      simp only [qy]
      refine rg_move ?_
      simp only [qz]
      refine rf_add rfl rfl rfl rfl (wrap_ok Ox Ox) ?_
      simp only [qz]
      refine rg_assign ?_
      simp only [qz]
      refine rg_nil ?_
      obtain rfl : bb = (gI p k).toNat := by omega
      refine ek_roundF (N - (k + 1)) Ox Kx ?_
      exact ⟨k + 1, vb, m2, vd, u2, rfl, rfl, by rfl, by rfl, Ox, (by rw [rowA_step]; exact hg2), (Lib.hid (by rw [hg3.out]; show _ = (modes p k ++ List.replicate _ _).length; rw [List.length_append, List.length_replicate]))⟩
    (try simp only [qd, ne_eq] at h5)
    simp only [qz]
    refine rg_nil (ek_next (wk_cond_t rfl (wk_skip (ek_next (wk_seq (wk_block ?_))))))
    refine wk_region [0, 0, 0, 0, 1, 1, 1, 0] rfl Kx ?_
    simp only [qy]
    refine rg_move ?_
    simp only [qz]
    refine rf_loadR (n := 2) rfl rfl rfl Try.underlying24 rfl Kx (fun w hw => Kn.hd0 (Kn.tl (Kn.tlU (Kn.tlU (Kn.tlU hw))))) rfl rfl ?_
    simp only [qz]
    refine rg_move ?_
    simp only [qz]
    refine rg_move ?_
    simp only [qz]
    apply rg_pure Rx Kx
    case hargs => exact Ax
    case h => exact fun w hw => rAt_any N i k xs a c hlx.out hN Ox Ox w (hA.kn0 hw)
    case hz => exact Nz
    simp only [qz]
    refine rg_newS (cs := ?_) (ty := ?_) (n := 1) (c := 1) Rx (fun w => ?_) Nz (fun g5 => ?_); rotate_left 2
    focus (go_simp; rfl)
    simp only [qz]
    refine rg_appN' (xs := rowA N xs p i k ++ List.replicate bb (nm xs (i * N + k))) (x := nm xs (i * N + k)) (m := m2) Rx rfl hg2 (by rw [List.length_append, List.length_replicate, hg3.out]; simp [rowA]) rfl (by have := hg3.out; omega) (perm_atU (l := [_]) (u := u2) (List.Perm.refl _)) (fun w hw => Kn.hd0 hw) Nz (fun uQ aQ cQ hOQ => ?_)
    simp only [qz]
    refine rg_assign ?_
    simp only [qz]
    refine rg_nil (ek_block (ek_next ?_))
    refine wk_region [0, 0, 0] rfl Kx ?_
    simp only [qy]
    refine rg_move ?_
    simp only [qz]
    refine rf_add rfl rfl rfl rfl (wrap_ok Ox Ox) ?_
    simp only [qz]
    refine rg_assign ?_
    simp only [qz]
    refine rg_nil ?_
    refine ek_sub (List.Sublist.append_left (sk _ (List.Sublist.append_left (List.Sublist.append_left (sc _ (sc _ sn)) _) _)) _) ?_
    refine ek_roundF ((gI p k).toNat - (bb + 1)) Ox Kx ?_
    exact ⟨bb + 1, aQ, m2 + 1, cQ, uQ, rfl, rfl, by rfl, by rfl, Ox, (by rw [← rep_snoc]; exact hOQ), (Lib.hid (by rw [hg3.out]; omega))⟩
  (try simp only [qd, ne_eq] at h1)
  simp only [qz]
  refine rg_nil (ek_next (wk_cond_t rfl (wk_seq ?_)))
  refine wk_region [0, 0, 1, 0] rfl Kx ?_
  simp only [qy]
  refine rf_build (cs := fun a => #[.int .i64 0, .int .i64 0, .int .i64 0, .int .i64 0, .int .i64 0]) rfl rfl Kx ?_
  simp only [qz]
  refine rg_move ?_
  simp only [qz]
  refine rf_storeR (n := 5) rfl rfl Kx rfl rfl (UpdR.here _ _ _ Nl) Nz ?_
  simp only [qz, Nat.reduceAdd]
  refine rg_assign ?_
  simp only [qz]
  refine rg_nil (ek_next (wk_ret (ek_then_ret ?_)))
  refine ek_ret (fun w hw => ⟨rfl, _, run_results2 rfl rfl (Kn.hd0 hw) Try.underlying29 rfl Kx, ?_⟩)
  (try simp only [qz])
  have hae := (ask_amp (n := n) (xs := xs) (p := p) (r := r)).1 (by simpa using h1)
  exact ⟨by rw [hae]; rfl, hw.below⟩

end Go.Proofs.Ytjeijnjaleldkaa
