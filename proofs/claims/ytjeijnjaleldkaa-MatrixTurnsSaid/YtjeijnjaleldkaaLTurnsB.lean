/- Texts in one: AkPl, MpE, NmPl, Sg, Am2, Eq, Am3, Am4, CallV, Am6, Xt. -/
import Derived.Test.YtjeijnjaleldkaaLTurnsA
import Derived.WideKeyRuns
import Derived.Laws.BitsAllLaws
import Derived.DeepKeys
import Derived.Laws.Externs
import Derived.Laws.Bits64b
namespace Go.Proofs.Ytjeijnjaleldkaa
set_option linter.all false
set_option maxRecDepth 100000
set_option maxHeartbeats 1000000
abbrev Ed := Nat → Nat → Option (Option Nat)
def SolA (N : Nat) (E : Ed) (c : Nat → Int) : Prop := ∀ i k, i < N → k < N → ∀ e, E i k = some e → ∃ t : Nat, e = some t ∧ (c i + c (N + k) - t) % 8 = 0
noncomputable def alikeA (N : Nat) (E : Ed) : Bool := @decide (∃ c, SolA N E c) (Classical.propDecidable _)
theorem alikeA_yes {N : Nat} {E : Ed} {c : Nat → Int} (h : SolA N E c) : alikeA N E = true := by
 unfold alikeA
 exact @decide_eq_true _ (Classical.propDecidable _) ⟨c, h⟩
theorem alikeA_no {N : Nat} {E : Ed} (h : ∀ c, ¬ SolA N E c) : alikeA N E = false := by
 unfold alikeA
 exact @decide_eq_false _ (Classical.propDecidable _) fun ⟨c, hc⟩ => h c hc
def ExtA (N : Nat) (T c : Nat → Int) : Prop := ∀ v, v < 2 * N → 0 ≤ T v → (c v - T v) % 8 = 0
def OkE (N : Nat) (T : Nat → Int) (i k : Nat) (e : Option Nat) : Prop := 0 ≤ T i ∧ 0 ≤ T (N + k) ∧ ∃ t : Nat, e = some t ∧ (T i + T (N + k) - t) % 8 = 0
def CloA (N : Nat) (E : Ed) (T : Nat → Int) : Prop := ∀ i k, i < N → k < N → ∀ e, E i k = some e → (T i < 0 ∧ T (N + k) < 0) ∨ OkE N T i k e
def RngA (N : Nat) (T : Nat → Int) : Prop := ∀ v, v < 2 * N → -1 ≤ T v ∧ T v ≤ 7
def updA (T : Nat → Int) (v : Nat) (x : Int) : Nat → Int := fun u => if u = v then x else T u
theorem updA_same (T : Nat → Int) (v : Nat) (x : Int) : updA T v x v = x := if_pos rfl
theorem updA_other (T : Nat → Int) {v u : Nat} (x : Int) (h : u ≠ v) : updA T v x u = T u := if_neg h
theorem updA_rng {N : Nat} {T : Nat → Int} (h : RngA N T) {v : Nat} {x : Int} (h0 : -1 ≤ x) (h1 : x ≤ 7) : RngA N (updA T v x) := by
 intro u hu
 unfold updA
 split
 ·exact ⟨h0, h1⟩
 ·exact h u hu
theorem clo_shift {N : Nat} {E : Ed} {T c : Nat → Int} (hC : CloA N E T) (hS : SolA N E c) {v : Nat} (hv : v < 2 * N) (hT : T v < 0) : ∃ c', SolA N E c' ∧ ExtA N T c' ∧ c' v = 0 := by
 refine ⟨fun u => if 0 ≤ T u then T u else if u < N ↔ v < N then c u - c v else c u + c v, ?_, ?_, ?_⟩
 ·intro i k hi hk e he
  obtain ⟨t, rfl, ht⟩ := hS i k hi hk e he
  refine ⟨t, rfl, ?_⟩
  rcases hC i k hi hk _ he with ⟨h1, h2⟩ | ⟨h1, h2, t', e', h3⟩
  ·dsimp only
   have n1 : ¬ 0 ≤ T i := by omega
   have n2 : ¬ 0 ≤ T (N + k) := by omega
   have n3 : ¬ N + k < N := by omega
   rw [if_neg n1, if_neg n2]
   by_cases hvN : v < N
   ·have b1 : (i < N ↔ v < N) := ⟨fun _ => hvN, fun _ => hi⟩
    have b2 : ¬ (N + k < N ↔ v < N) := fun h => n3 (h.2 hvN)
    rw [if_pos b1, if_neg b2]; omega
   ·have b1 : ¬ (i < N ↔ v < N) := fun h => hvN (h.1 hi)
    have b2 : (N + k < N ↔ v < N) := ⟨fun h => absurd h n3, fun h => absurd h hvN⟩
    rw [if_neg b1, if_pos b2]; omega
  ·cases e'
   dsimp only
   rw [if_pos h1, if_pos h2]
   exact h3
 ·intro u hu h0
  dsimp only
  rw [if_pos h0]
  omega
 ·dsimp only
  have n1 : ¬ 0 ≤ T v := by omega
  rw [if_neg n1, if_pos Iff.rfl]
  omega
theorem clo_all {N : Nat} {E : Ed} {T : Nat → Int} (hC : CloA N E T) (h : ∀ v, v < N → 0 ≤ T v) : SolA N E T := by
 intro i k hi hk e he
 rcases hC i k hi hk e he with ⟨h1, -⟩ | ⟨-, -, h3⟩
 ·have := h i hi; omega
 ·exact h3
def FulA (N : Nat) (E : Ed) (T : Nat → Int) (v : Nat) : Prop := ∀ i k, i < N → k < N → (v = i ∨ v = N + k) → ∀ e, E i k = some e → OkE N T i k e
structure SpT (N : Nat) (E : Ed) (T : Nat → Int) (at_ : Nat) (tu : Int) (T' : Nat → Int) : Prop where
  mono : ∀ v, v < 2 * N → 0 ≤ T v → T' v = T v
  rng : RngA N T'
  at' : T' at_ = tu
  ful : ∀ v, v < 2 * N → T v < 0 → 0 ≤ T' v → FulA N E T' v
  ext : ∀ c, SolA N E c → ExtA N T c → (c at_ - tu) % 8 = 0 → ExtA N T' c
def SpF (N : Nat) (E : Ed) (T : Nat → Int) (at_ : Nat) (tu : Int) : Prop := ∀ c, SolA N E c → ExtA N T c → (c at_ - tu) % 8 ≠ 0
theorem spT_known {N : Nat} {E : Ed} {T : Nat → Int} {v : Nat} {tu : Int} (hr : RngA N T) (h : T v = tu) (h0 : 0 ≤ tu) : SpT N E T v tu T :=
  ⟨fun _ _ _ => rfl, hr, h, fun u _ h1 h2 => by omega, fun _ _ h _ => h⟩
theorem spF_known {N : Nat} {E : Ed} {T : Nat → Int} {v : Nat} {tu : Int} (hv : v < 2 * N) (hr : RngA N T) (h : T v ≠ tu) (h0 : 0 ≤ T v) (h1 : 0 ≤ tu) (h2 : tu ≤ 7) : SpF N E T v tu := by
 intro c hS hE h3
 have := hE v hv h0
 have := (hr v hv).2
 omega
theorem OkE.mono {N : Nat} {T T' : Nat → Int} (hm : ∀ v, v < 2 * N → 0 ≤ T v → T' v = T v) {i k : Nat} (hi : i < N) (hk : k < N) {e : Option Nat} (h : OkE N T i k e) : OkE N T' i k e := by
 obtain ⟨h1, h2, h3⟩ := h
 unfold OkE
 rw [hm i (by omega) h1, hm (N + k) (by omega) h2]
 exact ⟨h1, h2, h3⟩
structure SpI (N : Nat) (E : Ed) (L : List (Nat × Nat × Nat)) (T : Nat → Int) (at_ : Nat) (tu : Int) (T' : Nat → Int) (dn : Nat → Bool) : Prop where
  sp : ∀ v, v < 2 * N → 0 ≤ updA T at_ tu v → T' v = updA T at_ tu v
  rng : RngA N T'
  ful : ∀ v, v < 2 * N → updA T at_ tu v < 0 → 0 ≤ T' v → FulA N E T' v
  ext : ∀ c, SolA N E c → ExtA N (updA T at_ tu) c → ExtA N T' c
  seen : ∀ j i k t, dn j = true → L[j]? = some (i, k, t) → (at_ = i ∨ at_ = N + k) → OkE N T' i k (some t)
structure LisA (N : Nat) (E : Ed) (L : List (Nat × Nat × Nat)) : Prop where
  old : ∀ (j i k t : Nat), L[j]? = some (i, k, t) → i < N ∧ k < N ∧ t < 8 ∧ E i k = some (some t)
  all : ∀ i k, i < N → k < N → ∀ e, E i k = some e → ∃ j t : Nat, L[j]? = some (i, k, t)
section
variable {N : Nat} {E : Ed} {L : List (Nat × Nat × Nat)} {T T' T'' : Nat → Int} {at_ : Nat} {tu : Int} {dn dn' : Nat → Bool}
theorem SpI.at' (h : SpI N E L T at_ tu T' dn) (hv : at_ < 2 * N) (h0 : 0 ≤ tu) : T' at_ = tu := by
 have := h.sp at_ hv (by rw [updA_same]; exact h0)
 rw [this, updA_same]
theorem spI_start (hr : RngA N T) (h0 : 0 ≤ tu) (h1 : tu ≤ 7) (hd : ∀ j, dn j = false) : SpI N E L T at_ tu (updA T at_ tu) dn :=
  ⟨fun _ _ _ => rfl, updA_rng hr (by omega) h1, fun u _ h2 h3 => by omega, fun _ _ h => h, fun j i k t h => by rw [hd j] at h; cases h⟩
theorem SpI.skip (h : SpI N E L T at_ tu T' dn) {j i k t : Nat} (hj : L[j]? = some (i, k, t)) (hn : at_ ≠ i ∧ at_ ≠ N + k) (hd : ∀ m, dn' m = true → dn m = true ∨ m = j) : SpI N E L T at_ tu T' dn' := by
 refine ⟨h.sp, h.rng, h.ful, h.ext, fun m i' k' t' hm hl ho => ?_⟩
 rcases hd m hm with h1 | rfl
 ·exact h.seen m i' k' t' h1 hl ho
 ·rw [hj] at hl; cases hl; omega
theorem other_eq {i k t : Nat} {c : Nat → Int} (hx : at_ = i ∨ at_ = N + k) {u : Nat} (hu : (u : Int) = i + (N + k) - at_) : (u = i ∧ at_ = N + k) ∨ (u = N + k ∧ at_ = i) := by omega
theorem SpI.other (h : SpI N E L T at_ tu T' dn) (hL : LisA N E L) (hv : at_ < 2 * N) (h0 : 0 ≤ tu) {j i k t : Nat} (hj : L[j]? = some (i, k, t)) (hx : at_ = i ∨ at_ = N + k) {u : Nat} (hu : (u : Int) = i + (N + k) - at_) {tw : Int} (htw : tw = (t - tu + 8) % 8)
    {c : Nat → Int} (hS : SolA N E c) (hE : ExtA N (updA T at_ tu) c) : (c u - tw) % 8 = 0 := by
  obtain ⟨hi, hk, ht, he⟩ := hL.old j i k t hj
  obtain ⟨t', e', h3⟩ := hS i k hi hk _ he
  cases e'
  have h4 := hE at_ hv (by rw [updA_same]; exact h0)
  rw [updA_same] at h4
  rcases other_eq (c := c) (t := t) hx hu with ⟨rfl, rfl⟩ | ⟨rfl, rfl⟩ <;> omega
theorem SpI.step (h : SpI N E L T at_ tu T' dn) (hL : LisA N E L) (hv : at_ < 2 * N) (h0 : 0 ≤ tu) (h1 : tu ≤ 7) {j i k t : Nat} (hj : L[j]? = some (i, k, t)) (hx : at_ = i ∨ at_ = N + k) {u : Nat} (hu : (u : Int) = i + (N + k) - at_) {tw : Int} (htw : tw = (t - tu + 8) % 8)
    (hs : SpT N E T' u tw T'') (hd : ∀ m, dn' m = true → dn m = true ∨ m = j) : SpI N E L T at_ tu T'' dn' := by
  obtain ⟨hi, hk, ht, he⟩ := hL.old j i k t hj
  refine ⟨fun v hv' h2 => ?_, hs.rng, fun v hv' h2 h3 => ?_, fun c hS hE => hs.ext c hS (h.ext c hS hE) (h.other hL hv h0 hj hx hu htw hS hE), fun m i' k' t' hm hl ho => ?_⟩
  · rw [hs.mono v hv' (by rw [h.sp v hv' h2]; exact h2), h.sp v hv' h2]
  · by_cases h4 : 0 ≤ T' v
    · intro i' k' hi' hk' ho e' he'
      exact (h.ful v hv' h2 h4 i' k' hi' hk' ho e' he').mono hs.mono hi' hk'
    · exact hs.ful v hv' (by omega) h3
  · rcases hd m hm with h2 | rfl
    · obtain ⟨hi', hk', -, -⟩ := hL.old m i' k' t' hl
      exact (h.seen m i' k' t' h2 hl ho).mono hs.mono hi' hk'
    · rw [hj] at hl
      cases hl
      have ha : T'' at_ = tu := by rw [hs.mono at_ hv (by rw [h.at' hv h0]; exact h0), h.at' hv h0]
      have hb := hs.at'
      have h5 : 0 ≤ tw := by omega
      unfold OkE
      rcases other_eq (c := T) (t := t) hx hu with ⟨rfl, rfl⟩ | ⟨rfl, rfl⟩
      · exact ⟨by omega, by omega, t, rfl, by omega⟩
      · exact ⟨by omega, by omega, t, rfl, by omega⟩
theorem SpI.no (h : SpI N E L T at_ tu T' dn) (hL : LisA N E L) (hv : at_ < 2 * N) (h0 : 0 ≤ tu) (hT : T at_ < 0) {j i k t : Nat} (hj : L[j]? = some (i, k, t)) (hx : at_ = i ∨ at_ = N + k) {u : Nat} (hu : (u : Int) = i + (N + k) - at_) {tw : Int} (htw : tw = (t - tu + 8) % 8)
    (hs : SpF N E T' u tw) : SpF N E T at_ tu := by
  intro c hS hE h2
  have hE' : ExtA N (updA T at_ tu) c := by
    intro v hv' h3
    unfold updA at h3 ⊢
    split
    · next e => subst e; exact h2
    · next e => rw [if_neg e] at h3; exact hE v hv' h3
  exact hs c hS (h.ext c hS hE') (h.other hL hv h0 hj hx hu htw hS hE')
theorem SpI.done (h : SpI N E L T at_ tu T' dn) (hL : LisA N E L) (hv : at_ < 2 * N) (h0 : 0 ≤ tu) (hT : T at_ < 0) (hd : ∀ j, j < L.length → dn j = true) : SpT N E T at_ tu T' := by
 refine ⟨fun v hv' h1 => ?_, h.rng, h.at' hv h0, fun v hv' h1 h2 => ?_, fun c hS hE h2 => h.ext c hS fun v hv' h3 => ?_⟩
 ·have : v ≠ at_ := fun e => by subst e; omega
  rw [h.sp v hv' (by rw [updA_other _ _ this]; exact h1), updA_other _ _ this]
 ·by_cases e : v = at_
  ·subst e
   intro i k hi hk ho e' he'
   obtain ⟨j, t, hj⟩ := hL.all i k hi hk e' he'
   have h4 := hL.old j i k t hj
   have h5 := h.seen j i k t (hd j (by
    rcases Nat.lt_or_ge j L.length with h | h
    ·exact h
    ·rw [List.getElem?_eq_none h] at hj; cases hj)) hj ho
   rw [he'] at h4
   have h6 := h4.2.2.2
   cases h6
   exact h5
  ·exact h.ful v hv' (by rw [updA_other _ _ e]; exact h1) h2
 ·unfold updA at h3 ⊢
  split
  ·next e => subst e; exact h2
  ·next e => rw [if_neg e] at h3; exact hE v hv' h3
theorem SpT.clo (h : SpT N E T at_ tu T') (hC : CloA N E T) : CloA N E T' := by
 intro i k hi hk e he
 by_cases h1 : 0 ≤ T i
 ·rcases hC i k hi hk e he with ⟨h2, -⟩ | h2
  ·omega
  ·exact .inr (h2.mono h.mono hi hk)
 by_cases h2 : 0 ≤ T (N + k)
 ·rcases hC i k hi hk e he with ⟨-, h3⟩ | h3
  ·omega
  ·exact .inr (h3.mono h.mono hi hk)
 by_cases h3 : 0 ≤ T' i
 ·exact .inr (h.ful i (by omega) (by omega) h3 i k hi hk (.inl rfl) e he)
 by_cases h4 : 0 ≤ T' (N + k)
 ·exact .inr (h.ful (N + k) (by omega) (by omega) h4 i k hi hk (.inr rfl) e he)
 exact .inl ⟨by omega, by omega⟩
theorem SpF.no (h : SpF N E T at_ 0) (hC : CloA N E T) (hv : at_ < 2 * N) (hT : T at_ < 0) : alikeA N E = false :=
  alikeA_no fun c hc => by
    obtain ⟨c', h1, h2, h3⟩ := clo_shift hC hc hv hT
    exact h c' h1 h2 (by omega)
end
def FoA (N : Nat) (E : Ed) (T : Nat → Int) : Prop := ∀ c, SolA N E c → ∃ c', SolA N E c' ∧ ExtA N T c'
section
variable {N : Nat} {E : Ed} {T : Nat → Int} {i k : Nat}
theorem cloA_start (h : ∀ v, v < 2 * N → T v < 0) : CloA N E T := fun i k hi hk e he => .inl ⟨h i (by omega), h (N + k) (by omega)⟩
theorem ext_upd {c : Nat → Int} (h : ExtA N T c) {v : Nat} {x : Int} (hx : (c v - x) % 8 = 0) : ExtA N (updA T v x) c := by
 intro u hu h0
 unfold updA at h0 ⊢
 split
 ·next e => subst e; exact hx
 ·next e => rw [if_neg e] at h0; exact h u hu h0
theorem FoA.zero (h : FoA N E T) (hC : CloA N E T) (hv : i < N) (hT : T i < 0) : FoA N E (updA T i 0) := fun c hc => by
  obtain ⟨c', h1, h2, h3⟩ := clo_shift hC hc (v := i) (by omega) hT
  exact ⟨c', h1, ext_upd h2 (by omega)⟩
theorem FoA.row (h : FoA N E T) (hi : i < N) (hk : k < N) {t : Nat} (he : E i k = some (some t)) (hT : 0 ≤ T (N + k)) {x : Int} (hx : x = (t - T (N + k) + 8) % 8) : FoA N E (updA T i x) := fun c hc => by
  obtain ⟨c', h1, h2⟩ := h c hc
  obtain ⟨t', e', h3⟩ := h1 i k hi hk _ he
  cases e'
  have h4 := h2 (N + k) (by omega) hT
  exact ⟨c', h1, ext_upd h2 (by omega)⟩
theorem FoA.no (h : FoA N E T) (hi : i < N) (hk : k < N) {t : Nat} (he : E i k = some (some t)) (hT : 0 ≤ T i) (hT' : 0 ≤ T (N + k)) (hx : (T i + T (N + k) - t) % 8 ≠ 0) : alikeA N E = false :=
  alikeA_no fun c hc => by
    obtain ⟨c', h1, h2⟩ := h c hc
    obtain ⟨t', e', h3⟩ := h1 i k hi hk _ he
    cases e'
    have h4 := h2 i (by omega) hT
    have h5 := h2 (N + k) (by omega) hT'
    omega
theorem none_no (hi : i < N) (hk : k < N) (he : E i k = some none) : alikeA N E = false :=
  alikeA_no fun c hc => by
    obtain ⟨t', e', h3⟩ := hc i k hi hk _ he
    cases e'
def unkA (N : Nat) (T : Nat → Int) : Nat → Nat
  | 0 => 0
  | v + 1 => unkA N T v + if T v < 0 then 1 else 0
theorem unk_same {T' : Nat → Int} : ∀ n, (∀ v, v < n → T' v = T v) → unkA N T' n = unkA N T n
  | 0, _ => rfl
  | n + 1, h => by
    unfold unkA
    rw [unk_same n fun v hv => h v (by omega), h n (by omega)]
theorem unk_less {v : Nat} {x : Int} (hT : T v < 0) (h0 : 0 ≤ x) : ∀ n, v < n → unkA N (updA T v x) n < unkA N T n
  | 0, h => by omega
  | n + 1, h => by
    unfold unkA
    by_cases e : n = v
    · subst e
      have e1 : unkA N (updA T n x) n = unkA N T n := unk_same n fun u hu => updA_other _ _ (by omega)
      rw [updA_same, if_neg (by omega), if_pos hT, e1]
      omega
    · have := unk_less hT h0 n (by omega)
      rw [updA_other _ _ e]
      omega
theorem unk_mono {T' : Nat → Int} : ∀ n, (∀ v, v < n → 0 ≤ T v → 0 ≤ T' v) → unkA N T' n ≤ unkA N T n
  | 0, _ => Nat.le_refl _
  | n + 1, h => by
    have h1 := unk_mono n fun v hv => h v (by omega)
    have h2 := h n (by omega)
    unfold unkA
    split <;> split <;> omega
theorem SpI.unk {L : List (Nat × Nat × Nat)} {T' : Nat → Int} {at_ : Nat} {tu : Int} {dn : Nat → Bool} (h : SpI N E L T at_ tu T' dn) (hv : at_ < 2 * N) (h0 : 0 ≤ tu) (hT : T at_ < 0) : unkA N T' (2 * N) < unkA N T (2 * N) := by
 have h1 : unkA N T' (2 * N) ≤ unkA N (updA T at_ tu) (2 * N) := unk_mono _ fun v hv' h2 => by rw [h.sp v hv' h2]; exact h2
 have h2 := unk_less (N := N) hT h0 (2 * N) hv
 omega
def leftE (dn : Nat → Bool) : Nat → Nat
  | 0 => 0
  | j + 1 => leftE dn j + if dn j = true then 0 else 1
theorem leftE_le {dn dn' : Nat → Bool} (hm : ∀ m, dn m = true → dn' m = true) : ∀ n, leftE dn' n ≤ leftE dn n
  | 0 => Nat.le_refl _
  | n + 1 => by
    have := leftE_le hm n
    have h2 := hm n
    unfold leftE
    by_cases h : dn n = true
    · rw [if_pos h, if_pos (h2 h)]; omega
    · rw [if_neg h]; split <;> omega
theorem leftE_push {dn dn' : Nat → Bool} {j : Nat} (h1 : dn j = false) (h2 : dn' j = true) (hm : ∀ m, dn m = true → dn' m = true) : ∀ n, j < n → leftE dn' n < leftE dn n
  | 0, h => by omega
  | n + 1, h => by
    unfold leftE
    by_cases e : j = n
    · subst e
      have := leftE_le hm j
      rw [if_pos h2, h1, if_neg (by decide)]
      omega
    · have := leftE_push h1 h2 hm n (by omega)
      have h3 := hm n
      by_cases h : dn n = true
      · rw [if_pos h, if_pos (h3 h)]; omega
      · rw [if_neg h]; split <;> omega
end
open Go.RowKit
theorem eq2_run (a b a' b' : Int) (w : World) : (Op.equal 119 (.agg #[.int .i64 a, .int .i64 b]) (.agg #[.int .i64 a', .int .i64 b'])).run Try.prog w = .ok (decide (a = a' ∧ b = b')) w := by
 have u3 := Try.underlying3
 have a3 := Try.isAgg3
 have z3 := Try.sizeOf3
 unfold Op.equal Op.maxDepth
 rw [show (10000 : Nat) = 9999 + 1 from rfl, Op.equalIn]
 simp only [Sem.run_bind, run_underlying Try.underlying119, Result.andThen_ok]
 simp only [Std.Legacy.Range.forIn_eq_forIn_range', Std.Legacy.Range.size, Nat.sub_zero, Nat.add_sub_cancel, Nat.div_one, List.range'_succ, List.range'_zero, List.forIn_cons, List.forIn_nil]
 go_simp
 by_cases h1 : a = a' <;> by_cases h2 : b = b' <;> simp [h1, h2]
theorem check2_run (a b : Int) (w : World) : (Instr.checkKey false 10000 119 (.agg #[.int .i64 a, .int .i64 b])).run Try.prog w = .ok () w := by
 have u3 := Try.underlying3
 have a3 := Try.isAgg3
 have z3 := Try.sizeOf3
 have hk : ∀ z : Int, (Instr.checkKey false 9999 3 (.int .i64 z)).run Try.prog w = .ok () w := fun z => by
  rw [show (9999 : Nat) = 9998 + 1 from rfl, Instr.checkKey]
  simp only [Sem.run_bind, run_underlying u3, Result.andThen_ok]
  rfl
 rw [show (10000 : Nat) = 9999 + 1 from rfl, Instr.checkKey]
 simp only [Sem.run_bind, run_underlying Try.underlying119, Result.andThen_ok]
 simp only [Std.Legacy.Range.forIn_eq_forIn_range', Std.Legacy.Range.size, Nat.sub_zero, Nat.add_sub_cancel, Nat.div_one, List.range'_succ, List.range'_zero, List.forIn_cons, List.forIn_nil]
 go_simp
def toT (tl : List (Int × Int)) (v : Nat) : Int := (getI tl v).getD (-1)
theorem getI_app (k x q : Int) : ∀ l, getI (l ++ [(k, x)]) q = match getI l q with | some y => some y | none => if q = k then some x else none
  | [] => rfl
  | y :: l => by
    show (if q = y.1 then some y.2 else getI (l ++ [(k, x)]) q) = match (if q = y.1 then some y.2 else getI l q) with | some y => some y | none => if q = k then some x else none
    by_cases h : q = y.1
    · rw [if_pos h, if_pos h]
    · rw [if_neg h, if_neg h]; exact getI_app k x q l
theorem toT_push {tl : List (Int × Int)} {v : Nat} {x : Int} (h : getI tl v = none) : toT (tl ++ [((v : Int), x)]) = updA (toT tl) v x := by
 funext u
 unfold toT updA
 rw [getI_app]
 by_cases e : u = v
 ·subst e
  rw [h, if_pos rfl]
  simp
 ·rw [if_neg e]
  show _ = (getI tl (u : Int)).getD (-1)
  generalize getI tl (u : Int) = o
  cases o with
  | some y => rfl
  | none => simp only; rw [if_neg (by omega)]
theorem toT_none {tl : List (Int × Int)} {v : Nat} (h : getI tl v = none) : toT tl v = -1 := by unfold toT; rw [h]; rfl
theorem toT_some {tl : List (Int × Int)} {v : Nat} {x : Int} (h : getI tl v = some x) : toT tl v = x := by unfold toT; rw [h]; rfl
def kvE (N : Nat) (x : Nat × Nat × Nat) : Value × Value := (.agg #[.int .i64 x.1, .int .i64 ((N + x.2.1 : Nat) : Int)], .int .i64 x.2.2)
theorem find2_run {N : Nat} (u v : Int) (w : World) : ∀ (l : List (Nat × Nat × Nat)) (n i : Nat), (∀ x ∈ l, ¬ (u = x.1 ∧ v = ((N + x.2.1 : Nat) : Int))) → (Instr.findAsking 119 (.agg #[.int .i64 u, .int .i64 v]) (entsF (kvE N) l n) i).run Try.prog w = .ok none w
  | [], _, _, _ => rfl
  | x :: l, n, i, h => by
    have h1 := find2_run u v w l (n + 1) (i + 1) fun y hy => h y (by simp [hy])
    show (Instr.findAsking _ _ (⟨_, _, _⟩ :: _) _).run _ _ = _
    unfold Instr.findAsking
    simp only [Sem.run_bind, kvE, eq2_run, Result.andThen, decide_eq_false (h x (by simp)), Bool.false_eq_true, if_false]
    exact h1
theorem run_updateE {N bm : Nat} {l : List (Nat × Nat × Nat)} {w : World} (hb : w.heap[bm]? = some (mapO (kvE N) l)) (i k t : Nat) (hn : ∀ x ∈ l, ¬ (i = x.1 ∧ k = x.2.1)) :
    (Instr.mapUpdate 115 (.map (some bm)) (.agg #[.int .i64 i, .int .i64 ((N + k : Nat) : Int)]) (.int .i64 t)).run Try.prog w = .ok () (w.putObj bm (mapO (kvE N) (l ++ [(i, k, t)]))) := by
  unfold Instr.mapUpdate
  have hf : (Instr.findKey 119 (.agg #[.int .i64 i, .int .i64 ((N + k : Nat) : Int)]) (entsF (kvE N) l 0).toArray.toList).run Try.prog w = .ok none w := by
    have e1 := run_findKey_eq (P := Try.prog) (w := w) (k := 119) (by kernel_rfl) (.agg #[.int .i64 i, .int .i64 ((N + k : Nat) : Int)]) (entsF (kvE N) l 0).toArray.toList
    rw [e1]
    exact find2_run _ _ w l 0 0 fun x hx h => hn x hx ⟨by omega, by omega⟩
  simp only [Sem.run_bind, run_underlying Try.underlying115, Result.andThen, MapKept.run_getObj_map (show w.heap[bm]? = some (.map (entsF (kvE N) l 0).toArray l.length) from hb), check2_run, hf]
  rw [run_setPut hb]
  unfold mapO
  rw [entsF_app]
  simp [kvE]
section
variable {R : Option Nat} {ops : Array Oper} {Q : Exit → Act → World → Prop} {B : World} {F : List Nat}
variable {l : List (Oper × Nat)} {a : Act} {s s' : List Blk} {d : Option Tmp} {t : TypeId} {p : String} {af : Array Edge} {gd : Option (Nat × Bool)}
theorem rg_updateEM {z : List Blk × List Blk} {x y v : Operand} {N bm i k e : Nat} {xs : List (Nat × Nat × Nat)} {K E : Int} (hx : a.eval x = .map (some bm)) (hy : a.eval y = .agg #[.int .i64 E, .int .i64 K]) (hv : a.eval v = .int .i64 e) (hE : E = i) (hK : K = ((N + k : Nat) : Int))
    (hn : ∀ x ∈ xs, ¬ (i = x.1 ∧ k = x.2.1)) (hrep : Rep bm (mapO (kvE N) xs) (mapO (kvE N) (xs ++ [(i, k, e)])) s s') (hz : z.2.Sublist s')
    (k1 : Rg R Try.prog ops Q B F (some (z.2, z.2)) l (a.put d undef) s') :
    Rg R Try.prog ops Q B F (some z) ((⟨d, .mapUpdate 115 x y v, t, p, af, none⟩, 2) :: l) a s :=
  rg_storeM (fun w K' => ⟨_, by
    have h2 := run_updateE (K'.own _ hrep.mem) i k e hn
    rw [← hE, ← hK] at h2
    unfold Dne
    simp [execOp, hx, hy, hv, h2], K'.rep hrep⟩) hz k1
end
structure Nm where
  a : Int
  b : Int
  c : Int
  d : Int
  k : Int
deriving DecidableEq, Inhabited
structure Nm.Fit (n : Int) (z : Nm) : Prop where
  a0 : -n ≤ z.a
  a1 : z.a ≤ n
  b0 : -n ≤ z.b
  b1 : z.b ≤ n
  c0 : -n ≤ z.c
  c1 : z.c ≤ n
  d0 : -n ≤ z.d
  d1 : z.d ≤ n
def Nm.zero : Nm := ⟨0, 0, 0, 0, 0⟩
def Nm.one : Nm := ⟨1, 0, 0, 0, 0⟩
def Nm.neg (z : Nm) : Nm := ⟨-z.a, -z.b, -z.c, -z.d, z.k⟩
def Nm.rot (z : Nm) : Nm := ⟨-z.d, z.a, z.b, z.c, z.k⟩
def Nm.step (z : Nm) : Nm := ⟨(z.b - z.d) / 2, (z.a + z.c) / 2, (z.b + z.d) / 2, (z.c - z.a) / 2, z.k - 1⟩
def Nm.tr (z : Nm) : Nm := ⟨z.b - z.d, z.a + z.c, z.b + z.d, z.c - z.a, z.k + 1⟩
def Nm.up : Nat → Nm → Nm
  | 0, z => z
  | n + 1, z => Nm.up n z.tr
def Nm.to (m : Int) (z : Nm) : Nm := Nm.up (m - z.k).toNat z
def Nm.even (z : Nm) : Prop := (z.a + z.c) % 2 = 0 ∧ (z.b + z.d) % 2 = 0
instance (z : Nm) : Decidable z.even := inferInstanceAs (Decidable ((z.a + z.c) % 2 = 0 ∧ (z.b + z.d) % 2 = 0))
def red : Nat → Nm → Nm
  | 0, z => z
  | n + 1, z => if 0 < z.k ∧ z.even then red n z.step else z
def Nm.nf (z : Nm) : Nm := red z.k.toNat z
def Nm.small (z : Nm) : Bool := decide (z.k ≤ 40) && (decide (-1000000000 ≤ z.a) && decide (z.a ≤ 1000000000) && (decide (-1000000000 ≤ z.b) && decide (z.b ≤ 1000000000)) && (decide (-1000000000 ≤ z.c) && decide (z.c ≤ 1000000000)) && (decide (-1000000000 ≤ z.d) && decide (z.d ≤ 1000000000)))
theorem small_iff {z : Nm} : z.small = true ↔ z.k ≤ 40 ∧ z.Fit 1000000000 := by
 simp only [Nm.small, Bool.and_eq_true, decide_eq_true_eq]
 exact ⟨fun ⟨h0, ⟨⟨h1, h2⟩, h3⟩, h4⟩ => ⟨h0, h1.1, h1.2, h2.1, h2.2, h3.1, h3.2, h4.1, h4.2⟩, fun ⟨h0, h⟩ => ⟨h0, ⟨⟨⟨h.a0, h.a1⟩, h.b0, h.b1⟩, h.c0, h.c1⟩, h.d0, h.d1⟩⟩
theorem small_yes {z : Nm} (h1 : z.k ≤ 40) (h2 : z.Fit 1000000000) : z.small = true := small_iff.2 ⟨h1, h2⟩
theorem small_no {z : Nm} (h : ¬ (z.k ≤ 40 ∧ z.Fit 1000000000)) : z.small = false := by
 cases hs : z.small with
 | false => rfl
 | true => exact absurd (small_iff.1 hs) h
structure Nm.Ok (z : Nm) : Prop where
  fit : z.Fit 1000000000
  k0 : 0 ≤ z.k
  k1 : z.k ≤ 40
  form : z.k = 0 ∨ ¬ z.even
def Nm.okB (z : Nm) : Bool := z.small && decide (0 ≤ z.k) && decide (z.k = 0 ∨ ¬ z.even)
theorem okB_iff {z : Nm} : z.okB = true ↔ z.Ok := by
 simp only [Nm.okB, Bool.and_eq_true, small_iff, decide_eq_true_eq]
 exact ⟨fun ⟨⟨⟨h0, h1⟩, h2⟩, h3⟩ => ⟨h1, h2, h0, h3⟩, fun h => ⟨⟨⟨h.k1, h.fit⟩, h.k0⟩, h.form⟩⟩
abbrev NR := Except Int Nm
def Nm.mk' (z : Nm) : NR := if z.nf.small then .ok z.nf else .error 4
theorem Nm.even_tr (z : Nm) : z.tr.even := ⟨by simp only [Nm.tr]; omega, by simp only [Nm.tr]; omega⟩
theorem Nm.step_tr (z : Nm) : z.tr.step = z := by
 obtain ⟨a, b, c, d, k⟩ := z
 simp only [Nm.tr, Nm.step]
 congr 1 <;> omega
theorem Nm.tr_step {z : Nm} (h : z.even) : z.step.tr = z := by
 obtain ⟨a, b, c, d, k⟩ := z
 obtain ⟨h1, h2⟩ := h
 simp only [Nm.tr, Nm.step] at *
 congr 1 <;> omega
theorem Nm.tr_inj {x y : Nm} (h : x.tr = y.tr) : x = y := by rw [← Nm.step_tr x, h, Nm.step_tr]
theorem Nm.up_tr : ∀ (n : Nat) (z : Nm), Nm.up n z.tr = (Nm.up n z).tr
  | 0, _ => rfl
  | n + 1, z => Nm.up_tr n z.tr
theorem Nm.up_add : ∀ (i j : Nat) (z : Nm), Nm.up i (Nm.up j z) = Nm.up (j + i) z
  | i, 0, z => by rw [Nat.zero_add]; rfl
  | i, j + 1, z => by
    rw [show j + 1 + i = (j + i) + 1 by omega]
    exact Nm.up_add i j z.tr
theorem Nm.up_inj : ∀ (n : Nat) {x y : Nm}, Nm.up n x = Nm.up n y → x = y
  | 0, _, _, h => h
  | n + 1, _, _, h => Nm.tr_inj (Nm.up_inj n h)
theorem Nm.up_k : ∀ (n : Nat) (z : Nm), (Nm.up n z).k = z.k + n
  | 0, z => by simp [Nm.up]
  | n + 1, z => by
    have := Nm.up_k n z.tr
    simp only [Nm.up]
    rw [this]
    simp only [Nm.tr]
    omega
theorem Nm.to_k {m : Int} {z : Nm} (h : z.k ≤ m) : (z.to m).k = m := by unfold Nm.to; rw [Nm.up_k]; omega
def Eqv (x y : Nm) : Prop := ∃ i j : Nat, Nm.up i x = Nm.up j y
theorem Eqv.refl (x : Nm) : Eqv x x := ⟨0, 0, rfl⟩
theorem Eqv.symm {x y : Nm} (h : Eqv x y) : Eqv y x := let ⟨i, j, h⟩ := h; ⟨j, i, h.symm⟩
theorem Eqv.trans {x y z : Nm} (h : Eqv x y) (k : Eqv y z) : Eqv x z := by
 obtain ⟨i, j, h⟩ := h
 obtain ⟨k, l, k'⟩ := k
 refine ⟨i + k, l + j, ?_⟩
 rw [← Nm.up_add, ← Nm.up_add, h, ← k', Nm.up_add, Nm.up_add, Nat.add_comm]
theorem Eqv.up (n : Nat) (z : Nm) : Eqv (Nm.up n z) z := ⟨0, n, rfl⟩
theorem Eqv.tr (z : Nm) : Eqv z.tr z := ⟨0, 1, rfl⟩
theorem Eqv.to (m : Int) (z : Nm) : Eqv (z.to m) z := Eqv.up _ z
theorem red_eqv : ∀ (n : Nat) (z : Nm), Eqv (red n z) z
  | 0, z => Eqv.refl z
  | n + 1, z => by
    simp only [red]
    split
    · next h => exact (red_eqv n z.step).trans ⟨1, 0, Nm.tr_step h.2⟩
    · exact Eqv.refl z
theorem nf_eqv (z : Nm) : Eqv z.nf z := red_eqv _ z
def Nm.Nf (z : Nm) : Prop := z.k ≤ 0 ∨ ¬ z.even
theorem Nm.Ok.nf {z : Nm} (h : z.Ok) : z.Nf := h.form.imp (by omega) id
theorem red_form : ∀ (n : Nat) (z : Nm), z.k ≤ n → (red n z).Nf
  | 0, z, h => .inl h
  | n + 1, z, h => by
    simp only [red]
    split
    · exact red_form n z.step (by simp only [Nm.step]; omega)
    · next hc =>
      by_cases h0 : 0 < z.k
      · exact .inr fun he => hc ⟨h0, he⟩
      · exact .inl (by omega)
theorem nf_form (z : Nm) : z.nf.Nf := red_form _ z (by omega)
theorem red_k : ∀ (n : Nat) (z : Nm), 0 ≤ z.k → 0 ≤ (red n z).k ∧ (red n z).k ≤ z.k
  | 0, z, h => ⟨h, Int.le_refl _⟩
  | n + 1, z, h => by
    simp only [red]
    split
    · next hc => have := red_k n z.step (by simp only [Nm.step]; omega); simp only [Nm.step] at this ⊢; omega
    · exact ⟨h, Int.le_refl _⟩
theorem nf_k {z : Nm} (h : 0 ≤ z.k) : 0 ≤ z.nf.k ∧ z.nf.k ≤ z.k := red_k _ z h
theorem red_stop {n : Nat} {z : Nm} (h : z.Nf) : red n z = z := by
 cases n with
 | zero => rfl
 | succ n => simp only [red]; rw [if_neg]; rintro ⟨h1, h2⟩; rcases h with h | h; omega; exact h h2
theorem nf_self {z : Nm} (h : z.Nf) : z.nf = z := red_stop h
theorem form_unique {x y : Nm} (hx : x.Nf) (hy : y.Nf) (h0 : 0 ≤ x.k) (h1 : 0 ≤ y.k) (h : Eqv x y) : x = y := by
 obtain ⟨i, j, h⟩ := h
 have key : ∀ {x y : Nm} {i n : Nat}, x.Nf → 0 ≤ y.k → Nm.up i x = Nm.up (n + 1 + i) y → False := by
  intro x y i n hx hy h
  have e : x = (Nm.up n y).tr := by
   refine Nm.up_inj i ?_
   rw [h, ← Nm.up_tr, Nm.up_add, show n + 1 + i = (n + i) + 1 by omega]
   rfl
  have hk : x.k = y.k + n + 1 := by rw [e]; show (Nm.up n y).k + 1 = _; rw [Nm.up_k]
  rcases hx with hx | hx
  ·omega
  ·exact hx (by rw [e]; exact Nm.even_tr _)
 rcases Nat.lt_trichotomy i j with hlt | rfl | hlt
 ·exact (key (n := j - i - 1) hx h1 (by rw [h]; congr 1; omega)).elim
 ·exact Nm.up_inj i h
 ·exact (key (n := i - j - 1) hy h0 (by rw [← h]; congr 1; omega)).elim
theorem nf_eq {x y : Nm} (h0 : 0 ≤ x.k) (h1 : 0 ≤ y.k) (h : Eqv x y) : x.nf = y.nf :=
  form_unique (nf_form x) (nf_form y) (nf_k h0).1 (nf_k h1).1 ((nf_eqv x).trans (h.trans (nf_eqv y).symm))
theorem Nm.step_fit {n : Int} {z : Nm} (h : z.Fit n) : z.step.Fit n := by
 obtain ⟨h1, h2, h3, h4, h5, h6, h7, h8⟩ := h
 exact ⟨by simp only [Nm.step]; omega, by simp only [Nm.step]; omega, by simp only [Nm.step]; omega, by simp only [Nm.step]; omega, by simp only [Nm.step]; omega, by simp only [Nm.step]; omega, by simp only [Nm.step]; omega, by simp only [Nm.step]; omega⟩
theorem nf_step {z : Nm} (h : 0 < z.k) (he : z.even) : z.nf = z.step.nf := by
 obtain ⟨n, hn⟩ : ∃ n, z.k.toNat = n + 1 := ⟨z.k.toNat - 1, by omega⟩
 unfold Nm.nf
 have : z.step.k.toNat = n := by simp only [Nm.step]; omega
 rw [this, hn]
 simp only [red]
 rw [if_pos ⟨h, he⟩]
theorem nf_stop {z : Nm} (h : ¬ (0 < z.k ∧ z.even)) : z.nf = z := nf_self (by
  by_cases h0 : 0 < z.k
  · exact .inr fun he => h ⟨h0, he⟩
  · exact .inl (by omega))
def Nm.addR (x y : Nm) : Nm :=
  let u := x.to (max x.k y.k)
  let v := y.to (max x.k y.k)
  ⟨u.a + v.a, u.b + v.b, u.c + v.c, u.d + v.d, max x.k y.k⟩
def Nm.mulR (x y : Nm) : Nm :=
  ⟨x.a * y.a - x.b * y.d - x.c * y.c - x.d * y.b, x.a * y.b + x.b * y.a - x.c * y.d - x.d * y.c, x.a * y.c + x.b * y.b + x.c * y.a - x.d * y.d, x.a * y.d + x.b * y.c + x.c * y.b + x.d * y.a, x.k + y.k⟩
def Nm.add (x y : Nm) : NR := (x.addR y).mk'
def Nm.mul (x y : Nm) : NR := (x.mulR y).mk'
def Nm.sub (x y : Nm) : NR := (x.addR y.neg).mk'
theorem rot_ok {z : Nm} (h : z.Ok) : z.rot.Ok := by
 obtain ⟨⟨h1, h2, h3, h4, h5, h6, h7, h8⟩, h9, h10, h11⟩ := h
 refine ⟨⟨?_, ?_, h1, h2, h3, h4, h5, h6⟩, h9, h10, h11.imp id fun hn he => hn ⟨?_, ?_⟩⟩ <;> simp only [Nm.rot, Nm.even] at * <;> omega
theorem Nm.fit_mono {m n : Int} {z : Nm} (h : z.Fit m) (hmn : m ≤ n) : z.Fit n := by
 obtain ⟨h1, h2, h3, h4, h5, h6, h7, h8⟩ := h
 exact ⟨by omega, by omega, by omega, by omega, by omega, by omega, by omega, by omega⟩
theorem Nm.tr_fit {n : Int} {z : Nm} (h : z.Fit n) : z.tr.Fit (2 * n) := by
 obtain ⟨h1, h2, h3, h4, h5, h6, h7, h8⟩ := h
 exact ⟨by simp only [Nm.tr]; omega, by simp only [Nm.tr]; omega, by simp only [Nm.tr]; omega, by simp only [Nm.tr]; omega, by simp only [Nm.tr]; omega, by simp only [Nm.tr]; omega, by simp only [Nm.tr]; omega, by simp only [Nm.tr]; omega⟩
theorem Nm.tr2 (z : Nm) : z.tr.tr = ⟨2 * z.a, 2 * z.b, 2 * z.c, 2 * z.d, z.k + 2⟩ := by
 simp only [Nm.tr]
 congr 1 <;> omega
theorem Nm.tr2_fit {n : Int} {z : Nm} (h : z.Fit n) : z.tr.tr.Fit (2 * n) := by
 rw [Nm.tr2]
 obtain ⟨h1, h2, h3, h4, h5, h6, h7, h8⟩ := h
 exact ⟨by dsimp only; omega, by dsimp only; omega, by dsimp only; omega, by dsimp only; omega, by dsimp only; omega, by dsimp only; omega, by dsimp only; omega, by dsimp only; omega⟩
theorem Nm.up_fit : ∀ (m : Nat) {n : Int} {z : Nm}, z.Fit n → (Nm.up (2 * m) z).Fit (2 ^ m * n) ∧ (Nm.up (2 * m + 1) z).Fit (2 ^ (m + 1) * n)
  | 0, n, z, h => ⟨by simpa [Nm.up] using h, by simpa [Nm.up] using Nm.tr_fit h⟩
  | m + 1, n, z, h => by
    obtain ⟨h1, h2⟩ := Nm.up_fit m (Nm.tr2_fit h)
    refine ⟨?_, ?_⟩
    · rw [show 2 ^ (m + 1) * n = 2 ^ m * (2 * n) by rw [Int.pow_succ]; grind]
      exact h1
    · rw [show 2 ^ (m + 1 + 1) * n = 2 ^ (m + 1) * (2 * n) by rw [Int.pow_succ]; grind]
      exact h2
theorem pow2_le {m : Nat} (h : m ≤ 20) : (2 : Int) ^ m ≤ 1048576 := by
 have : m = 0 ∨ m = 1 ∨ m = 2 ∨ m = 3 ∨ m = 4 ∨ m = 5 ∨ m = 6 ∨ m = 7 ∨ m = 8 ∨ m = 9 ∨ m = 10 ∨ m = 11 ∨ m = 12 ∨ m = 13 ∨ m = 14 ∨ m = 15 ∨ m = 16 ∨ m = 17 ∨ m = 18 ∨ m = 19 ∨ m = 20 := by omega
 rcases this with rfl | rfl | rfl | rfl | rfl | rfl | rfl | rfl | rfl | rfl | rfl | rfl | rfl | rfl | rfl | rfl | rfl | rfl | rfl | rfl | rfl <;> decide
theorem Nm.up2_fit {m : Nat} {z : Nm} (h : z.Fit 1000000000) (hm : m ≤ 20) : (Nm.up (2 * m) z).Fit 1048576000000000 :=
  Nm.fit_mono (Nm.up_fit m h).1 (by have := pow2_le hm; omega)
theorem Nm.up40_fit {n : Nat} {z : Nm} (h : z.Fit 1000000000) (hn : n ≤ 40) : (Nm.up n z).Fit 1048576000000000 := by
 rcases (⟨n / 2, by omega⟩ : ∃ m, n = 2 * m ∧ m ≤ 20 ∨ n = 2 * m + 1 ∧ m ≤ 19) with ⟨m, ⟨rfl, hm⟩ | ⟨rfl, hm⟩⟩
 ·exact Nm.up2_fit h hm
 ·exact Nm.fit_mono (Nm.up_fit m h).2 (by have := pow2_le (m := m + 1) (by omega); omega)
theorem Nm.up_succ1 (m : Nat) (z : Nm) : Nm.up (m + 1) z = (Nm.up m z).tr := by rw [Nm.up, Nm.up_tr]
theorem nf_self_iff {z : Nm} (h : 0 ≤ z.k) : z.nf = z ↔ (z.k = 0 ∨ ¬ z.even) := by
 constructor
 ·intro e
  have := nf_form z
  rw [e] at this
  exact this.imp (by omega) id
 ·intro hh
  exact nf_self (hh.imp (by omega) id)
structure El (α : Type) where
  sz : Nat
  ec : α → List Value
  dflt : α
  pos : 0 < sz
  len : ∀ x, (ec x).length = sz
  one : ∀ x, ∀ v ∈ ec x, v.oneCell' = true
section
variable {α : Type} (E : El α)
def El.flat (xs : List α) : List Value := xs.flatMap E.ec
def El.at (xs : List α) (k : Nat) : α := xs.getD k E.dflt
theorem El.flat_cons (x : α) (xs : List α) : E.flat (x :: xs) = E.ec x ++ E.flat xs := by simp [El.flat]
theorem El.flat_app (xs ys : List α) : E.flat (xs ++ ys) = E.flat xs ++ E.flat ys := by simp [El.flat]
theorem El.flat_one (x : α) : E.flat [x] = E.ec x := by simp [El.flat]
theorem El.flat_len : ∀ xs : List α, (E.flat xs).length = xs.length * E.sz
  | [] => by simp [El.flat]
  | x :: xs => by rw [E.flat_cons, List.length_append, E.len, El.flat_len xs, List.length_cons, Nat.add_mul]; omega
theorem El.at_mem {xs : List α} {k : Nat} (h : k < xs.length) : E.at xs k ∈ xs := by
 unfold El.at; rw [List.getD_eq_getElem?_getD, List.getElem?_eq_getElem h]; exact List.getElem_mem h
theorem El.get : ∀ (l : List α) (k r : Nat), k < l.length → r < E.sz → (E.flat l)[k * E.sz + r]? = (E.ec (E.at l k))[r]?
  | [], k, r, hk, _ => by simp at hk
  | x :: l, 0, r, _, hr => by
    rw [E.flat_cons, Nat.zero_mul, Nat.zero_add, List.getElem?_append_left (by rw [E.len]; exact hr)]
    simp [El.at]
  | x :: l, k + 1, r, hk, hr => by
    have e2 : (k + 1) * E.sz + r - (E.ec x).length = k * E.sz + r := by rw [E.len, Nat.add_mul]; omega
    rw [E.flat_cons, List.getElem?_append_right (by rw [E.len, Nat.add_mul]; omega), e2, El.get l k r (by simpa using hk) hr]
    simp [El.at]
theorem El.flat_one' (xs : List α) : ∀ v ∈ E.flat xs, v.oneCell' = true := by
 intro v hv
 obtain ⟨x, _, hx⟩ := List.mem_flatMap.1 hv
 exact E.one x v hx
def At (w : World) (b off : Nat) (x : α) : Prop := ∀ r, r < E.sz → w.cell? ⟨b, off + r, none⟩ = (E.ec x)[r]?
variable {E}
theorem AS.openG {w : World} {a : Option Addr} {xs : List α} (h : AS w a (E.flat xs)) (hn : 0 < xs.length) :
    ∃ b off, a = some ⟨b, off, none⟩ ∧ b < w.heap.size ∧ ∀ j, j < xs.length → At E w b (off + j * E.sz) (E.at xs j) := by
  have hl := E.flat_len xs
  have hp := E.pos
  have hne : E.flat xs ≠ [] := by
    intro e
    rw [e, List.length_nil] at hl
    have := Nat.mul_pos hn hp
    omega
  obtain ⟨b, off, rfl, hlt, hc⟩ := h hne
  refine ⟨b, off, rfl, hlt, fun j hj r hr => ?_⟩
  rw [Nat.add_assoc, hc (j * E.sz + r) (by rw [hl]; have := Nat.mul_le_mul_right E.sz (show j + 1 ≤ xs.length by omega); rw [Nat.add_mul] at this; omega)]
  exact E.get xs j r hj hr
theorem At.kn {B w : World} {F : List Nat} {s : List Blk} {b off : Nat} {x : α} (h : At E B b off x) (K : Kn B F s w) (hb : b < B.heap.size) (hF : b ∉ F) : At E w b off x :=
  fun r hr => (K.cellB hb hF _).trans (h r hr)
theorem At.below {w w' : World} {b off : Nat} {x : α} (h : At E w b off x) (hb : b < w.heap.size) (hB : Below w.heap.size w w') : At E w' b off x :=
  fun r hr => (hB.cell (p := ⟨b, off + r, none⟩) hb).trans (h r hr)
def OwnG (E : El α) (e : Nat) (u : List Blk) (v : Value) (xs : List α) : Prop := Own e E.sz u v xs.length (E.flat xs)
theorem OwnG.nil {e : Nat} : OwnG E e [] (.slice none 0 0) [] := Own.nil _ _
theorem OwnG.as {e : Nat} {u s : List Blk} {v : Value} {xs : List α} {B w : World} {F : List Nat} (h : OwnG E e u v xs) (K : Kn B F (u ++ s) w) : ∃ a cap, v = .slice a xs.length cap ∧ AS w a (E.flat xs) := Own.as h K
end
section
variable {R : Option Nat} {P : Program} {ops : Array Oper} {Q : Exit → Act → World → Prop} {B : World} {F : List Nat} {s0 : Option (List Blk × List Blk)}
variable {l : List (Oper × Nat)} {a : Act} {s S : List Blk} {d : Option Tmp} {op : Op} {t : TypeId} {p : String} {af : Array Edge} {v : Value}
variable {α : Type} {E : El α}
theorem rg_appendG {so xo : Operand} {ty e : Nat} {i : TypeInfo} {z : Value} {u : List Blk} {xs ys : List α} {ad : Addr} {c m : Nat} {gd : Option (Nat × Bool)} (hg : Region.wanted ⟨d, .call ⟨.builtin .append, #[so, xo], #[ty, ty]⟩, t, p, af, gd⟩ (yielded ops a.tmps) = true)
    (ht : P.underlying ty = some (.slice e)) (hi : P.info? e = some i) (hz : i.zero = some z) (hsize : i.size = E.sz) (hzs : z.cells.size = E.sz) (hby : i.bytes ≤ 1000)
    (hs : a.eval so = v) (hown : OwnG E e u v xs) (hx : a.eval xo = .slice (some ad) m c) (hm : m = ys.length) (hn : xs.length + ys.length ≤ 100000000) (hp : S.Perm (u ++ s))
    (hnews : ∀ w, Kn B F S w → ∀ j x, (E.flat ys)[j]? = some x → w.cell? (ad.add j) = some x)
    (hzz : ∀ z ∈ s0, z.1.Sublist s) (h : ∀ u' v', OwnG E e u' v' (xs ++ ys) → Rg R P ops Q B F s0 l (a.put d v') (u' ++ s)) :
    Rg R P ops Q B F s0 ((⟨d, .call ⟨.builtin .append, #[so, xo], #[ty, ty]⟩, t, p, af, gd⟩, 1) :: l) a S := by
  subst hm
  refine rg_append (u := u) (s := s) (i := i) (z := z) (size := E.sz) (bytes := i.bytes) (n := xs.length) (m := ys.length) (c := c) (xs := E.flat xs) (news := E.flat ys) (ad := ad) hg ht hi hz hsize rfl hzs E.pos hs hown hx
    (E.flat_len ys) hnews (E.flat_one' ys) (by simp only [maxLen]; omega) (by have := Nat.mul_le_mul hn hby; omega) hp hzz ?_
  intro u' v' hO _
  refine h u' v' ?_
  unfold OwnG
  rw [E.flat_app, List.length_append]
  exact hO
theorem rg_append1 {so xo : Operand} {ty e : Nat} {i : TypeInfo} {z : Value} {u : List Blk} {xs : List α} {x : α} {g : Nat} {gd : Option (Nat × Bool)} (hg : Region.wanted ⟨d, .call ⟨.builtin .append, #[so, xo], #[ty, ty]⟩, t, p, af, gd⟩ (yielded ops a.tmps) = true)
    (ht : P.underlying ty = some (.slice e)) (hi : P.info? e = some i) (hz : i.zero = some z) (hsize : i.size = E.sz) (hzs : z.cells.size = E.sz) (hby : i.bytes ≤ 1000)
    (hs : a.eval so = v) (hown : OwnG E e u v xs) (hx : a.eval xo = .slice (some ⟨g, 0, none⟩) 1 1) (hn : xs.length ≤ 10000000) (hp : S.Perm (u ++ s))
    (hnews : ∀ w, Kn B F S w → Hd w g e (E.ec x).toArray)
    (hzz : ∀ z ∈ s0, z.1.Sublist s) (h : ∀ u' v', OwnG E e u' v' (xs ++ [x]) → Rg R P ops Q B F s0 l (a.put d v') (u' ++ s)) :
    Rg R P ops Q B F s0 ((⟨d, .call ⟨.builtin .append, #[so, xo], #[ty, ty]⟩, t, p, af, gd⟩, 1) :: l) a S :=
  rg_appendG (ys := [x]) hg ht hi hz hsize hzs hby hs hown hx rfl (by simp; omega) hp (fun w K j y hj => by
    have hd := (hnews w K).cell j
    have e1 : (⟨g, 0, none⟩ : Addr).add j = ⟨g, j, none⟩ := by unfold Addr.add; split <;> simp_all
    rw [E.flat_one] at hj
    rw [e1, hd, ← hj]
    simp) hzz h
theorem rg_or {f : Nat} {cargs : Array Operand} {at_ : Array TypeId} {args : Array Value} {gd : Option (Nat × Bool)} {X : Value → Prop}
    (hg : Region.wanted ⟨d, .call ⟨.value (.func f), cargs, at_⟩, t, p, af, gd⟩ (yielded ops a.tmps) = true) (hgo : isGo P f = true)
    (h : ∀ w, Kn B F s w → Calls P f args w (fun e w' => ∃ v, e = .returned v ∧ X v ∧ Below w.heap.size w w')) (hargs : cargs.map a.eval = args)
    (hz : ∀ z ∈ s0, z.1.Sublist s) (k : ∀ v, X v → Rg R P ops Q B F s0 l (a.put d v) s) :
    Rg R P ops Q B F s0 ((⟨d, .call ⟨.value (.func f), cargs, at_⟩, t, p, af, gd⟩, 1) :: l) a s :=
  rg_call hg hgo hargs fun w K => (h w K).mono fun e w' ⟨v, he, hX, hb⟩ => ⟨v, s, he, K.call hb, hz, k v hX⟩
end
abbrev nmC (z : Nm) : List Value := [.int .i64 z.a, .int .i64 z.b, .int .i64 z.c, .int .i64 z.d, .int .i64 z.k]
abbrev nmV (z : Nm) : Value := .agg #[.int .i64 z.a, .int .i64 z.b, .int .i64 z.c, .int .i64 z.d, .int .i64 z.k]
abbrev NmE : El Nm := ⟨5, nmC, Nm.zero, by decide, fun _ => rfl, fun x v hv => by simp at hv; rcases hv with rfl | rfl | rfl | rfl | rfl <;> rfl⟩
abbrev nms (xs : List Nm) : List Value := NmE.flat xs
abbrev nm (xs : List Nm) (k : Nat) : Nm := NmE.at xs k
structure NmAt (w : World) (b off : Nat) (z : Nm) : Prop where
  c0 : w.cell? ⟨b, off, none⟩ = some (.int .i64 z.a)
  c1 : w.cell? ⟨b, off + 1, none⟩ = some (.int .i64 z.b)
  c2 : w.cell? ⟨b, off + 2, none⟩ = some (.int .i64 z.c)
  c3 : w.cell? ⟨b, off + 3, none⟩ = some (.int .i64 z.d)
  c4 : w.cell? ⟨b, off + 4, none⟩ = some (.int .i64 z.k)
theorem AS.openN {w : World} {a : Option Addr} {xs : List Nm} (h : AS w a (nms xs)) (hn : 0 < xs.length) :
    ∃ b off, a = some ⟨b, off, none⟩ ∧ b < w.heap.size ∧ ∀ j, j < xs.length → NmAt w b (off + j * 5) (nm xs j) := by
  obtain ⟨b, off, ha, hb, hc⟩ := h.openG hn
  exact ⟨b, off, ha, hb, fun j hj => ⟨hc j hj 0 (by decide), hc j hj 1 (by decide), hc j hj 2 (by decide), hc j hj 3 (by decide), hc j hj 4 (by decide)⟩⟩
theorem NmAt.kn {B w : World} {F : List Nat} {s : List Blk} {b off : Nat} {z : Nm} (h : NmAt B b off z) (K : Kn B F s w) (hb : b < B.heap.size) (hF : b ∉ F) : NmAt w b off z :=
  ⟨(K.cellB hb hF _).trans h.c0, (K.cellB hb hF _).trans h.c1, (K.cellB hb hF _).trans h.c2, (K.cellB hb hF _).trans h.c3, (K.cellB hb hF _).trans h.c4⟩
def numV (r : NR) : Value := match r with
  | .ok z => .tuple #[nmV z, .int .i64 0]
  | .error c => .tuple #[nmV Nm.zero, .int .i64 c]
section
variable {R : Option Nat} {P : Program} {ops : Array Oper} {Q : Exit → Act → World → Prop} {B : World} {F : List Nat} {s0 : Option (List Blk × List Blk)}
variable {l : List (Oper × Nat)} {a : Act} {s S : List Blk} {d : Option Tmp} {op : Op} {t : TypeId} {p : String} {af : Array Edge} {v : Value}
end
theorem and1 (x : Int) : bits .and .i64 x 1 = x % 2 := by
 show IntKind.i64.wrap ((BitVec.ofInt 64 x &&& BitVec.ofInt 64 1).toNat : Int) = _
 have h1 : (BitVec.ofInt 64 (1 : Int)).toNat = 1 := by decide
 rw [BitVec.toNat_and, h1, Nat.and_one_is_mod, BitVec.toNat_ofInt, IntKind.wrap_i64]
 omega
theorem tdiv2 {x : Int} (h : x % 2 = 0) : x.tdiv 2 = x / 2 := Int.tdiv_eq_ediv_of_dvd (Int.dvd_of_emod_eq_zero h)
set_option maxHeartbeats 4000000 in
theorem reduced_any (z : Nm) (hz : z.Fit 4611686018427387903) (hk : z.k ≤ 1000000) (w : World) : Calls Try.prog 149 #[nmV z] w fun e w' => e = .returned (.tuple #[nmV z.nf, .bool z.nf.small]) ∧ Below w.heap.size w w' := by
 go_enter Try.func149, Try.ntmps149
 refine wk_start ?_
 refine wk_seq ?_
 refine wk_region [1, 1, 0] rfl Kx ?_
 simp only [qy]
 refine Rgn fun g1 => ?_
 simp only [qz]
 refine Rgn fun g2 => ?_
 simp only [qz]
 refine rg_assign ?_
 simp only [qz]
 refine rg_nil (ek_next ?_)
 refine wk_cutF [4, 8, 9, 10, 11, 12, 13, 14, 15, 16, 17, 18, 19, 20, 21, 22, 23, 24, 25, 26, 27, 28, 29, 30, 31, 32, 33, 34, 35, 36, 37, 38, 39, 40, 41, 42, 43, 44, 45, 46, 47, 48, 49, 50, 51, 52, 53, 54, 55, 56, 57, 58, 59, 60, 61, 62, 63, 64] (fun f s => ∃ (y : Nm), s = ((g2, .cells #[.int .i64 0, .int .i64 0, .int .i64 0, .int .i64 0, .int .i64 0] 29) :: ((g1, .cells #[.int .i64 y.a, .int .i64 y.b, .int .i64 y.c, .int .i64 y.d, .int .i64 y.k] 143) :: [])) ∧ y.Fit 4611686018427387903 ∧ y = z.nf) ?_ ?_
 ·refine wk_block ?_
  refine wk_loopF [4, 8, 9, 10, 11, 12, 13, 14, 15, 16, 17, 18, 19, 20, 21, 22, 23, 24, 25, 26, 27, 28, 29, 30, 31, 32, 33, 34, 35, 36, 37, 38, 39, 40, 41, 42, 43, 44, 45, 46, 47, 48, 49, 50, 51, 52, 53, 54, 55, 56, 57, 58, 59, 60, 61, 62, 63, 64] (fun mz f s => ∃ (y : Nm), s = ((g2, .cells #[.int .i64 0, .int .i64 0, .int .i64 0, .int .i64 0, .int .i64 0] 29) :: ((g1, .cells #[.int .i64 y.a, .int .i64 y.b, .int .i64 y.c, .int .i64 y.d, .int .i64 y.k] 143) :: [])) ∧ mz = y.k.toNat ∧ y.Fit 4611686018427387903 ∧ y.nf = z.nf ∧ y.k ≤ 1000000) ((fun (y : Nm) => y.k.toNat) (z)) ?_ Kx ?_
  ·exact ⟨z, rfl, rfl, hz, rfl, hk⟩
  rintro mz f1 s ⟨y, rfl, hn, hc1, hc2, hc3⟩
  simp only [Act.putF, List.foldl_cons, List.foldl_nil, Act.put, Act.eval, q1, q2, q3, q4, q5, q6, q7, q8, q9, q10, q11, q12, q13, q14, q15, q16, q17, q18, Nat.reduceAdd, Bool.not_true, Bool.not_false]
  have hF := hc1
  have hr := Lib.hid hc2
  clear hc2
  obtain ⟨fa0, fa1, fb0, fb1, fc0, fc1, fd0, fd1⟩ := hc1
  refine wk_seq (wk_seq ?_)
  refine wk_region [0, 0, 0, 0, 0, 0, 0, 0, 0, 0, 0, 0, 0, 0, 0, 0, 0, 0, 0, 0, 0, 0, 0, 0, 0] rfl Kx ?_
  simp only [qy]
  refine rf_field (n := 0) (j := 4) rfl rfl rfl Try.underlying143 rfl Kx rfl ?_
  simp only [qz]
  refine rf_load rfl rfl rfl Try.underlying3 rfl (fun w hw => (Kn.hd0 (Kn.tl hw)).at rfl) ?_
  simp only [qz]
  refine rfb_gtr rfl rfl rfl rfl ?_
  intro x h1
  cases x
  ·(try simp only [qd, ne_eq] at h1)
   simp only [qz]
   refine rg_move ?_
   simp only [qz]
   refine rg_skip Rx ?_
   simp only [qz]
   refine rg_skip Rx ?_
   simp only [qz]
   refine rg_skip Rx ?_
   simp only [qz]
   refine rg_skip Rx ?_
   simp only [qz]
   refine rg_skip Rx ?_
   simp only [qz]
   refine rg_skip Rx ?_
   simp only [qz]
   refine rg_skip Rx ?_
   simp only [qz]
   refine rg_skip Rx ?_
   simp only [qz]
   refine rg_skip Rx ?_
   simp only [qz]
   refine rf_pick rfl rfl rfl ?_
   simp only [qz]
   refine rg_move ?_
   simp only [qz]
   refine rg_skip Rx ?_
   simp only [qz]
   refine rg_skip Rx ?_
   simp only [qz]
   refine rg_skip Rx ?_
   simp only [qz]
   refine rg_skip Rx ?_
   simp only [qz]
   refine rg_skip Rx ?_
   simp only [qz]
   refine rg_skip Rx ?_
   simp only [qz]
   refine rg_skip Rx ?_
   simp only [qz]
   refine rg_skip Rx ?_
   simp only [qz]
   refine rg_skip Rx ?_
   simp only [qz]
   refine rf_pick rfl rfl rfl ?_
   simp only [qz]
   refine rg_nil (ek_next (wk_cond_f rfl (wk_exit (ek_then_exit (ek_then_exit (ek_block_exit ?_))))))
   refine ek_midF Kx ?_
   exact ⟨y, by rfl, hF, (by rw [← hr.out, nf_stop (fun ⟨h1, h2, h3⟩ => by omega)])⟩
  (try simp only [qd, ne_eq] at h1)
  simp only [qz]
  refine rg_move ?_
  simp only [qz]
  refine rf_field (n := 3) (j := 0) rfl rfl rfl Try.underlying143 rfl Kx rfl ?_
  simp only [qz]
  refine rf_indexA (n := 0) (sz := 1) (j := 0) rfl rfl rfl rfl Try.underlying27 Kx (by decide) rfl ?_
  simp only [qz]
  refine rf_load rfl rfl rfl Try.underlying3 rfl (fun w hw => (Kn.hd0 (Kn.tl hw)).at rfl) ?_
  simp only [qz]
  refine rf_field (n := 3) (j := 0) rfl rfl rfl Try.underlying143 rfl Kx rfl ?_
  simp only [qz]
  refine rf_indexA (n := 2) (sz := 1) (j := 2) rfl rfl rfl rfl Try.underlying27 Kx (by decide) rfl ?_
  simp only [qz]
  refine rf_load rfl rfl rfl Try.underlying3 rfl (fun w hw => (Kn.hd0 (Kn.tl hw)).at rfl) ?_
  simp only [qz]
  refine rf_add rfl rfl rfl rfl (wrap_ok Ox Ox) ?_
  simp only [qz]
  apply rg_soft_g
  case hg => rfl
  case hy => (intro w hw; have hand := and1; go_simp; (try go_bits); exact Yld.mk _ _)
  simp only [qz]
  refine rfb_eql rfl rfl rfl rfl ?_
  intro x h2
  cases x
  ·(try simp only [qd, ne_eq] at h2)
   simp only [qz]
   refine rf_pick rfl rfl rfl ?_
   simp only [qz]
   refine rg_move ?_
   simp only [qz]
   refine rg_skip Rx ?_
   simp only [qz]
   refine rg_skip Rx ?_
   simp only [qz]
   refine rg_skip Rx ?_
   simp only [qz]
   refine rg_skip Rx ?_
   simp only [qz]
   refine rg_skip Rx ?_
   simp only [qz]
   refine rg_skip Rx ?_
   simp only [qz]
   refine rg_skip Rx ?_
   simp only [qz]
   refine rg_skip Rx ?_
   simp only [qz]
   refine rg_skip Rx ?_
   simp only [qz]
   refine rf_pick rfl rfl rfl ?_
   simp only [qz]
   refine rg_nil (ek_next (wk_cond_f rfl (wk_exit (ek_then_exit (ek_then_exit (ek_block_exit ?_))))))
   refine ek_midF Kx ?_
   exact ⟨y, by rfl, hF, (by rw [← hr.out, nf_stop (fun ⟨h1, h2, h3⟩ => by omega)])⟩
  (try simp only [qd, ne_eq] at h2)
  simp only [qz]
  refine rf_pick rfl rfl rfl ?_
  simp only [qz]
  refine rg_move ?_
  simp only [qz]
  refine rf_field (n := 3) (j := 0) rfl rfl rfl Try.underlying143 rfl Kx rfl ?_
  simp only [qz]
  refine rf_indexA (n := 1) (sz := 1) (j := 1) rfl rfl rfl rfl Try.underlying27 Kx (by decide) rfl ?_
  simp only [qz]
  refine rf_load rfl rfl rfl Try.underlying3 rfl (fun w hw => (Kn.hd0 (Kn.tl hw)).at rfl) ?_
  simp only [qz]
  refine rf_field (n := 3) (j := 0) rfl rfl rfl Try.underlying143 rfl Kx rfl ?_
  simp only [qz]
  refine rf_indexA (n := 3) (sz := 1) (j := 3) rfl rfl rfl rfl Try.underlying27 Kx (by decide) rfl ?_
  simp only [qz]
  refine rf_load rfl rfl rfl Try.underlying3 rfl (fun w hw => (Kn.hd0 (Kn.tl hw)).at rfl) ?_
  simp only [qz]
  refine rf_add rfl rfl rfl rfl (wrap_ok Ox Ox) ?_
  simp only [qz]
  apply rg_soft_g
  case hg => rfl
  case hy => (intro w hw; have hand := and1; go_simp; (try go_bits); exact Yld.mk _ _)
  simp only [qz]
  refine rfb_eql rfl rfl rfl rfl ?_
  intro x h3
  cases x
  ·(try simp only [qd, ne_eq] at h3)
   simp only [qz]
   refine rf_pick rfl rfl rfl ?_
   simp only [qz]
   refine rg_nil (ek_next (wk_cond_f rfl (wk_exit (ek_then_exit (ek_then_exit (ek_block_exit ?_))))))
   refine ek_midF Kx ?_
   exact ⟨y, by rfl, hF, (by rw [← hr.out, nf_stop (fun ⟨h1, h2, h3⟩ => by omega)])⟩
  (try simp only [qd, ne_eq] at h3)
  simp only [qz]
  refine rf_pick rfl rfl rfl ?_
  simp only [qz]
  refine rg_nil (ek_next (wk_cond_t rfl (wk_skip (ek_next (wk_block (wk_seq ?_))))))
  refine wk_region [0, 0, 1, 1] rfl Kx ?_
  simp only [qy]
  refine rf_field (n := 3) (j := 0) rfl rfl rfl Try.underlying143 rfl Kx rfl ?_
  simp only [qz]
  refine rf_loadR (n := 4) rfl rfl rfl Try.underlying27 rfl Kx (fun w hw => Kn.hd0 (Kn.tl hw)) rfl rfl ?_
  simp only [qz]
  refine Rgn fun g3 => ?_
  simp only [qz]
  refine rf_storeR (n := 4) rfl rfl Kx rfl rfl (UpdR.here _ _ _ Nl) Nz ?_
  simp only [qz, Nat.reduceAdd]
  refine rg_nil (ek_next (wk_seq ?_))
  refine wk_region [0, 0, 0, 0, 0, 0, 0, 0, 0, 0, 0, 0, 0, 0, 0, 0, 0, 0, 0, 0, 0, 0, 0, 0, 0, 0, 1] rfl Kx ?_
  simp only [qy]
  refine rf_indexA (n := 1) (sz := 1) (j := 1) rfl rfl rfl rfl Try.underlying27 Kx (by decide) rfl ?_
  simp only [qz]
  refine rf_load rfl rfl rfl Try.underlying3 rfl (fun w hw => (Kn.hd0 hw).at rfl) ?_
  simp only [qz]
  refine rf_indexA (n := 3) (sz := 1) (j := 3) rfl rfl rfl rfl Try.underlying27 Kx (by decide) rfl ?_
  simp only [qz]
  refine rf_load rfl rfl rfl Try.underlying3 rfl (fun w hw => (Kn.hd0 hw).at rfl) ?_
  simp only [qz]
  refine rf_sub rfl rfl rfl rfl (wrap_ok Ox Ox) ?_
  simp only [qz]
  apply rg_soft
  case hy => (intro w hw; have hand := and1; go_simp; (try go_bits); exact Yld.mk _ _)
  simp only [qz]
  refine rf_indexA (n := 0) (sz := 1) (j := 0) rfl rfl rfl rfl Try.underlying27 Kx (by decide) rfl ?_
  simp only [qz]
  refine rf_load rfl rfl rfl Try.underlying3 rfl (fun w hw => (Kn.hd0 hw).at rfl) ?_
  simp only [qz]
  refine rf_indexA (n := 2) (sz := 1) (j := 2) rfl rfl rfl rfl Try.underlying27 Kx (by decide) rfl ?_
  simp only [qz]
  refine rf_load rfl rfl rfl Try.underlying3 rfl (fun w hw => (Kn.hd0 hw).at rfl) ?_
  simp only [qz]
  refine rf_add rfl rfl rfl rfl (wrap_ok Ox Ox) ?_
  simp only [qz]
  apply rg_soft
  case hy => (intro w hw; have hand := and1; go_simp; (try go_bits); exact Yld.mk _ _)
  simp only [qz]
  refine rf_indexA (n := 1) (sz := 1) (j := 1) rfl rfl rfl rfl Try.underlying27 Kx (by decide) rfl ?_
  simp only [qz]
  refine rf_load rfl rfl rfl Try.underlying3 rfl (fun w hw => (Kn.hd0 hw).at rfl) ?_
  simp only [qz]
  refine rf_indexA (n := 3) (sz := 1) (j := 3) rfl rfl rfl rfl Try.underlying27 Kx (by decide) rfl ?_
  simp only [qz]
  refine rf_load rfl rfl rfl Try.underlying3 rfl (fun w hw => (Kn.hd0 hw).at rfl) ?_
  simp only [qz]
  refine rf_add rfl rfl rfl rfl (wrap_ok Ox Ox) ?_
  simp only [qz]
  apply rg_soft
  case hy => (intro w hw; have hand := and1; go_simp; (try go_bits); exact Yld.mk _ _)
  simp only [qz]
  refine rf_indexA (n := 2) (sz := 1) (j := 2) rfl rfl rfl rfl Try.underlying27 Kx (by decide) rfl ?_
  simp only [qz]
  refine rf_load rfl rfl rfl Try.underlying3 rfl (fun w hw => (Kn.hd0 hw).at rfl) ?_
  simp only [qz]
  refine rf_indexA (n := 0) (sz := 1) (j := 0) rfl rfl rfl rfl Try.underlying27 Kx (by decide) rfl ?_
  simp only [qz]
  refine rf_load rfl rfl rfl Try.underlying3 rfl (fun w hw => (Kn.hd0 hw).at rfl) ?_
  simp only [qz]
  refine rf_sub rfl rfl rfl rfl (wrap_ok Ox Ox) ?_
  simp only [qz]
  apply rg_soft
  case hy => (intro w hw; have hand := and1; go_simp; (try go_bits); exact Yld.mk _ _)
  simp only [qz]
  refine rf_build (cs := fun a => #[a.eval (.tmp 40), a.eval (.tmp 46), a.eval (.tmp 52), a.eval (.tmp 58)]) rfl rfl Kx ?_
  simp only [qz]
  refine rf_field (n := 3) (j := 0) rfl rfl rfl Try.underlying143 rfl Kx rfl ?_
  simp only [qz]
  refine rf_storeR (n := 4) rfl rfl Kx rfl rfl (UpdR.there _ (UpdR.there _ (UpdR.here _ _ _ Nl))) Nz ?_
  simp only [qz, Nat.reduceAdd]
  refine rg_nil (ek_next ?_)
  refine wk_region [0, 0, 0, 0, 1] rfl Kx ?_
  simp only [qy]
  refine rf_field (n := 0) (j := 4) rfl rfl rfl Try.underlying143 rfl Kx rfl ?_
  simp only [qz]
  refine rf_load rfl rfl rfl Try.underlying3 rfl (fun w hw => (Kn.hd0 (Kn.tl (Kn.tl hw))).at rfl) ?_
  simp only [qz]
  refine rf_sub rfl rfl rfl rfl (wrap_ok Ox Ox) ?_
  simp only [qz]
  refine rf_field (n := 0) (j := 4) rfl rfl rfl Try.underlying143 rfl Kx rfl ?_
  simp only [qz]
  refine rf_store rfl rfl Kx rfl rfl (UpdR.there _ (UpdR.there _ (UpdR.here _ _ _ Nl))) Nz ?_
  simp only [qz]
  refine rg_nil (ek_block ?_)
  have hcond : 0 < y.k ∧ (y.a + y.c) % 2 = 0 ∧ (y.b + y.d) % 2 = 0 := ⟨by omega, by omega, by omega⟩
  refine ek_sub (sk _ (sc _ (sc _ sn))) ?_
  refine ek_roundF (y.step.k.toNat) ((by simp only [Nm.step]; omega)) Kx ?_
  exact ⟨y.step, (by rw [tdiv2 (show (y.b - y.d) % 2 = 0 by omega), tdiv2 (show (y.a + y.c) % 2 = 0 by omega), tdiv2 (show (y.b + y.d) % 2 = 0 by omega), tdiv2 (show (y.c - y.a) % 2 = 0 by omega)]; rfl), by rfl, Nm.step_fit hF, (by rw [← hr.out]; exact (nf_step hcond.1 hcond.2).symm), (by simp only [Nm.step]; omega)⟩
 rintro f1 s ⟨y, rfl, hmF, hmr⟩
 simp only [Act.putF, List.foldl_cons, List.foldl_nil, Act.put, Act.eval, q1, q2, q3, q4, q5, q6, q7, q8, q9, q10, q11, q12, q13, q14, q15, q16, q17, q18, Nat.reduceAdd, Bool.not_true, Bool.not_false]
 obtain ⟨fa0, fa1, fb0, fb1, fc0, fc1, fd0, fd1⟩ := hmF
 replace hmr := Lib.hid hmr
 refine wk_seq ?_
 refine wk_region [0, 0, 0, 0] rfl Kx ?_
 simp only [qy]
 refine rf_field (n := 0) (j := 4) rfl rfl rfl Try.underlying143 rfl Kx rfl ?_
 simp only [qz]
 refine rf_load rfl rfl rfl Try.underlying3 rfl (fun w hw => (Kn.hd0 (Kn.tl hw)).at rfl) ?_
 simp only [qz]
 refine rfb_leq rfl rfl rfl rfl ?_
 intro x h4
 cases x
 ·(try simp only [qd, ne_eq] at h4)
  simp only [qz]
  refine rg_assign ?_
  simp only [qz]
  refine rg_nil (ek_next (wk_seq (wk_seq ?_)))
  refine wk_region [0, 0, 0] rfl Kx ?_
  simp only [qy]
  refine rf_field (n := 3) (j := 0) rfl rfl rfl Try.underlying143 rfl Kx rfl ?_
  simp only [qz]
  refine rf_loadR (n := 4) rfl rfl rfl Try.underlying27 rfl Kx (fun w hw => Kn.hd0 (Kn.tl hw)) rfl rfl ?_
  simp only [qz]
  refine rg_move ?_
  simp only [qz]
  refine rg_nil (ek_next (wk_block ?_))
  refine wk_unroll 4 ?_
  refine wk_seq ?_
  refine wk_region [0] rfl Kx ?_
  simp only [qy]
  refine rf_lss (b := true) rfl rfl rfl rfl (by decide) ?_
  simp only [qz]
  refine rg_nil (ek_next (wk_seq (wk_cond_t rfl (wk_skip (ek_next (wk_seq (wk_block (wk_seq ?_))))))))
  refine wk_region [0, 0] rfl Kx ?_
  simp only [qy]
  apply rg_soft
  case hy => (intro w hw; have hand := and1; go_simp; (try go_bits); exact Yld.mk _ _)
  simp only [qz]
  refine rg_assign ?_
  simp only [qz]
  refine rg_nil (ek_next ?_)
  refine wk_region [0, 0, 0, 0, 0, 0, 0, 0, 0, 0] rfl Kx ?_
  simp only [qy]
  refine rg_move ?_
  simp only [qz]
  refine rg_move ?_
  simp only [qz]
  refine rg_skip Rx ?_
  simp only [qz]
  refine rg_skip Rx ?_
  simp only [qz]
  refine rf_pick rfl rfl rfl ?_
  simp only [qz]
  refine rg_move ?_
  simp only [qz]
  refine rg_skip Rx ?_
  simp only [qz]
  refine rg_skip Rx ?_
  simp only [qz]
  refine rf_pick rfl rfl rfl ?_
  simp only [qz]
  refine rg_assign ?_
  simp only [qz]
  refine rg_nil (ek_block (ek_next ?_))
  refine wk_region [0, 0] rfl Kx ?_
  simp only [qy]
  refine rf_add (r := 1) rfl rfl rfl rfl (by decide) ?_
  simp only [qz]
  refine rg_move ?_
  simp only [qz]
  refine rg_nil (ek_again (wk_seq ?_))
  refine wk_region [0] rfl Kx ?_
  simp only [qy]
  refine rf_lss (b := true) rfl rfl rfl rfl (by decide) ?_
  simp only [qz]
  refine rg_nil (ek_next (wk_seq (wk_cond_t rfl (wk_skip (ek_next (wk_seq (wk_block (wk_seq ?_))))))))
  refine wk_region [0, 0] rfl Kx ?_
  simp only [qy]
  apply rg_soft
  case hy => (intro w hw; have hand := and1; go_simp; (try go_bits); exact Yld.mk _ _)
  simp only [qz]
  refine rg_assign ?_
  simp only [qz]
  refine rg_nil (ek_next ?_)
  refine wk_region [0, 0, 0, 0, 0, 0, 0, 0, 0, 0] rfl Kx ?_
  simp only [qy]
  refine rg_move ?_
  simp only [qz]
  refine rg_move ?_
  simp only [qz]
  refine rg_skip Rx ?_
  simp only [qz]
  refine rg_skip Rx ?_
  simp only [qz]
  refine rf_pick rfl rfl rfl ?_
  simp only [qz]
  refine rg_move ?_
  simp only [qz]
  refine rg_skip Rx ?_
  simp only [qz]
  refine rg_skip Rx ?_
  simp only [qz]
  refine rf_pick rfl rfl rfl ?_
  simp only [qz]
  refine rg_assign ?_
  simp only [qz]
  refine rg_nil (ek_block (ek_next ?_))
  refine wk_region [0, 0] rfl Kx ?_
  simp only [qy]
  refine rf_add (r := 2) rfl rfl rfl rfl (by decide) ?_
  simp only [qz]
  refine rg_move ?_
  simp only [qz]
  refine rg_nil (ek_again (wk_seq ?_))
  refine wk_region [0] rfl Kx ?_
  simp only [qy]
  refine rf_lss (b := true) rfl rfl rfl rfl (by decide) ?_
  simp only [qz]
  refine rg_nil (ek_next (wk_seq (wk_cond_t rfl (wk_skip (ek_next (wk_seq (wk_block (wk_seq ?_))))))))
  refine wk_region [0, 0] rfl Kx ?_
  simp only [qy]
  apply rg_soft
  case hy => (intro w hw; have hand := and1; go_simp; (try go_bits); exact Yld.mk _ _)
  simp only [qz]
  refine rg_assign ?_
  simp only [qz]
  refine rg_nil (ek_next ?_)
  refine wk_region [0, 0, 0, 0, 0, 0, 0, 0, 0, 0] rfl Kx ?_
  simp only [qy]
  refine rg_move ?_
  simp only [qz]
  refine rg_move ?_
  simp only [qz]
  refine rg_skip Rx ?_
  simp only [qz]
  refine rg_skip Rx ?_
  simp only [qz]
  refine rf_pick rfl rfl rfl ?_
  simp only [qz]
  refine rg_move ?_
  simp only [qz]
  refine rg_skip Rx ?_
  simp only [qz]
  refine rg_skip Rx ?_
  simp only [qz]
  refine rf_pick rfl rfl rfl ?_
  simp only [qz]
  refine rg_assign ?_
  simp only [qz]
  refine rg_nil (ek_block (ek_next ?_))
  refine wk_region [0, 0] rfl Kx ?_
  simp only [qy]
  refine rf_add (r := 3) rfl rfl rfl rfl (by decide) ?_
  simp only [qz]
  refine rg_move ?_
  simp only [qz]
  refine rg_nil (ek_again (wk_seq ?_))
  refine wk_region [0] rfl Kx ?_
  simp only [qy]
  refine rf_lss (b := true) rfl rfl rfl rfl (by decide) ?_
  simp only [qz]
  refine rg_nil (ek_next (wk_seq (wk_cond_t rfl (wk_skip (ek_next (wk_seq (wk_block (wk_seq ?_))))))))
  refine wk_region [0, 0] rfl Kx ?_
  simp only [qy]
  apply rg_soft
  case hy => (intro w hw; have hand := and1; go_simp; (try go_bits); exact Yld.mk _ _)
  simp only [qz]
  refine rg_assign ?_
  simp only [qz]
  refine rg_nil (ek_next ?_)
  refine wk_region [0, 0, 0, 0, 0, 0, 0, 0, 0, 0] rfl Kx ?_
  simp only [qy]
  refine rg_move ?_
  simp only [qz]
  refine rg_move ?_
  simp only [qz]
  refine rg_skip Rx ?_
  simp only [qz]
  refine rg_skip Rx ?_
  simp only [qz]
  refine rf_pick rfl rfl rfl ?_
  simp only [qz]
  refine rg_move ?_
  simp only [qz]
  refine rg_skip Rx ?_
  simp only [qz]
  refine rg_skip Rx ?_
  simp only [qz]
  refine rf_pick rfl rfl rfl ?_
  simp only [qz]
  refine rg_assign ?_
  simp only [qz]
  refine rg_nil (ek_block (ek_next ?_))
  refine wk_region [0, 0] rfl Kx ?_
  simp only [qy]
  refine rf_add (r := 4) rfl rfl rfl rfl (by decide) ?_
  simp only [qz]
  refine rg_move ?_
  simp only [qz]
  refine rg_nil (ek_again (wk_seq ?_))
  refine wk_region [0] rfl Kx ?_
  simp only [qy]
  refine rf_lss (b := false) rfl rfl rfl rfl (by decide) ?_
  simp only [qz]
  refine rg_nil (ek_next (wk_seq (wk_cond_f rfl (wk_exit (ek_then_exit (ek_then_exit (ek_block_exit (ek_next (wk_seq ?_)))))))))
  refine wk_region [0, 0, 1, 0] rfl Kx ?_
  simp only [qy]
  refine rf_loadR (n := 5) rfl rfl rfl Try.underlying143 rfl Kx (fun w hw => Kn.hd0 (Kn.tl hw)) rfl rfl ?_
  simp only [qz]
  refine rg_move ?_
  simp only [qz]
  refine rf_storeR (n := 5) rfl rfl Kx rfl rfl (UpdR.here _ _ _ Nl) Nz ?_
  simp only [qz, Nat.reduceAdd]
  refine rg_assign ?_
  simp only [qz]
  refine rg_nil (ek_next (wk_ret ?_))
  refine ek_ret (fun w hw => ⟨rfl, _, run_results2 rfl rfl (Kn.hd0 hw) Try.underlying29 rfl Kx, ?_⟩)
  (try simp only [qz])
  refine ⟨?_, hw.below⟩
  rw [← hmr.out, small_no (z := y) (fun h => by obtain ⟨hk, h0, h1, h2, h3, h4, h5, h6, h7⟩ := h; omega)]
 (try simp only [qd, ne_eq] at h4)
 simp only [qz]
 refine rg_assign ?_
 simp only [qz]
 refine rg_nil (ek_next (wk_seq (wk_seq ?_)))
 refine wk_region [0, 0, 0] rfl Kx ?_
 simp only [qy]
 refine rf_field (n := 3) (j := 0) rfl rfl rfl Try.underlying143 rfl Kx rfl ?_
 simp only [qz]
 refine rf_loadR (n := 4) rfl rfl rfl Try.underlying27 rfl Kx (fun w hw => Kn.hd0 (Kn.tl hw)) rfl rfl ?_
 simp only [qz]
 refine rg_move ?_
 simp only [qz]
 refine rg_nil (ek_next (wk_block ?_))
 refine wk_unroll 4 ?_
 refine wk_seq ?_
 refine wk_region [0] rfl Kx ?_
 simp only [qy]
 refine rf_lss (b := true) rfl rfl rfl rfl (by decide) ?_
 simp only [qz]
 refine rg_nil (ek_next (wk_seq (wk_cond_t rfl (wk_skip (ek_next (wk_seq (wk_block (wk_seq ?_))))))))
 refine wk_region [0, 0] rfl Kx ?_
 simp only [qy]
 apply rg_soft
 case hy => (intro w hw; have hand := and1; go_simp; (try go_bits); exact Yld.mk _ _)
 simp only [qz]
 refine rg_assign ?_
 simp only [qz]
 refine rg_nil (ek_next ?_)
 refine wk_region [0, 0, 0, 0, 0, 0, 0, 0, 0, 0] rfl Kx ?_
 simp only [qy]
 refine rg_move ?_
 simp only [qz]
 refine rg_move ?_
 simp only [qz]
 apply rg_soft_g
 case hg => rfl
 case hy => (intro w hw; have hand := and1; go_simp; (try go_bits); exact Yld.mk _ _)
 simp only [qz]
 refine rfb_leq rfl rfl rfl rfl ?_
 intro x h5
 cases x
 ·(try simp only [qd, ne_eq] at h5)
  simp only [qz]
  refine rf_pick rfl rfl rfl ?_
  simp only [qz]
  refine rg_move ?_
  simp only [qz]
  refine rg_skip Rx ?_
  simp only [qz]
  refine rg_skip Rx ?_
  simp only [qz]
  refine rf_pick rfl rfl rfl ?_
  simp only [qz]
  refine rg_assign ?_
  simp only [qz]
  refine rg_nil (ek_block (ek_next ?_))
  refine wk_region [0, 0] rfl Kx ?_
  simp only [qy]
  refine rf_add (r := 1) rfl rfl rfl rfl (by decide) ?_
  simp only [qz]
  refine rg_move ?_
  simp only [qz]
  refine rg_nil (ek_again (wk_seq ?_))
  refine wk_region [0] rfl Kx ?_
  simp only [qy]
  refine rf_lss (b := true) rfl rfl rfl rfl (by decide) ?_
  simp only [qz]
  refine rg_nil (ek_next (wk_seq (wk_cond_t rfl (wk_skip (ek_next (wk_seq (wk_block (wk_seq ?_))))))))
  refine wk_region [0, 0] rfl Kx ?_
  simp only [qy]
  apply rg_soft
  case hy => (intro w hw; have hand := and1; go_simp; (try go_bits); exact Yld.mk _ _)
  simp only [qz]
  refine rg_assign ?_
  simp only [qz]
  refine rg_nil (ek_next ?_)
  refine wk_region [0, 0, 0, 0, 0, 0, 0, 0, 0, 0] rfl Kx ?_
  simp only [qy]
  refine rg_move ?_
  simp only [qz]
  refine rg_move ?_
  simp only [qz]
  refine rg_skip Rx ?_
  simp only [qz]
  refine rg_skip Rx ?_
  simp only [qz]
  refine rf_pick rfl rfl rfl ?_
  simp only [qz]
  refine rg_move ?_
  simp only [qz]
  refine rg_skip Rx ?_
  simp only [qz]
  refine rg_skip Rx ?_
  simp only [qz]
  refine rf_pick rfl rfl rfl ?_
  simp only [qz]
  refine rg_assign ?_
  simp only [qz]
  refine rg_nil (ek_block (ek_next ?_))
  refine wk_region [0, 0] rfl Kx ?_
  simp only [qy]
  refine rf_add (r := 2) rfl rfl rfl rfl (by decide) ?_
  simp only [qz]
  refine rg_move ?_
  simp only [qz]
  refine rg_nil (ek_again (wk_seq ?_))
  refine wk_region [0] rfl Kx ?_
  simp only [qy]
  refine rf_lss (b := true) rfl rfl rfl rfl (by decide) ?_
  simp only [qz]
  refine rg_nil (ek_next (wk_seq (wk_cond_t rfl (wk_skip (ek_next (wk_seq (wk_block (wk_seq ?_))))))))
  refine wk_region [0, 0] rfl Kx ?_
  simp only [qy]
  apply rg_soft
  case hy => (intro w hw; have hand := and1; go_simp; (try go_bits); exact Yld.mk _ _)
  simp only [qz]
  refine rg_assign ?_
  simp only [qz]
  refine rg_nil (ek_next ?_)
  refine wk_region [0, 0, 0, 0, 0, 0, 0, 0, 0, 0] rfl Kx ?_
  simp only [qy]
  refine rg_move ?_
  simp only [qz]
  refine rg_move ?_
  simp only [qz]
  refine rg_skip Rx ?_
  simp only [qz]
  refine rg_skip Rx ?_
  simp only [qz]
  refine rf_pick rfl rfl rfl ?_
  simp only [qz]
  refine rg_move ?_
  simp only [qz]
  refine rg_skip Rx ?_
  simp only [qz]
  refine rg_skip Rx ?_
  simp only [qz]
  refine rf_pick rfl rfl rfl ?_
  simp only [qz]
  refine rg_assign ?_
  simp only [qz]
  refine rg_nil (ek_block (ek_next ?_))
  refine wk_region [0, 0] rfl Kx ?_
  simp only [qy]
  refine rf_add (r := 3) rfl rfl rfl rfl (by decide) ?_
  simp only [qz]
  refine rg_move ?_
  simp only [qz]
  refine rg_nil (ek_again (wk_seq ?_))
  refine wk_region [0] rfl Kx ?_
  simp only [qy]
  refine rf_lss (b := true) rfl rfl rfl rfl (by decide) ?_
  simp only [qz]
  refine rg_nil (ek_next (wk_seq (wk_cond_t rfl (wk_skip (ek_next (wk_seq (wk_block (wk_seq ?_))))))))
  refine wk_region [0, 0] rfl Kx ?_
  simp only [qy]
  apply rg_soft
  case hy => (intro w hw; have hand := and1; go_simp; (try go_bits); exact Yld.mk _ _)
  simp only [qz]
  refine rg_assign ?_
  simp only [qz]
  refine rg_nil (ek_next ?_)
  refine wk_region [0, 0, 0, 0, 0, 0, 0, 0, 0, 0] rfl Kx ?_
  simp only [qy]
  refine rg_move ?_
  simp only [qz]
  refine rg_move ?_
  simp only [qz]
  refine rg_skip Rx ?_
  simp only [qz]
  refine rg_skip Rx ?_
  simp only [qz]
  refine rf_pick rfl rfl rfl ?_
  simp only [qz]
  refine rg_move ?_
  simp only [qz]
  refine rg_skip Rx ?_
  simp only [qz]
  refine rg_skip Rx ?_
  simp only [qz]
  refine rf_pick rfl rfl rfl ?_
  simp only [qz]
  refine rg_assign ?_
  simp only [qz]
  refine rg_nil (ek_block (ek_next ?_))
  refine wk_region [0, 0] rfl Kx ?_
  simp only [qy]
  refine rf_add (r := 4) rfl rfl rfl rfl (by decide) ?_
  simp only [qz]
  refine rg_move ?_
  simp only [qz]
  refine rg_nil (ek_again (wk_seq ?_))
  refine wk_region [0] rfl Kx ?_
  simp only [qy]
  refine rf_lss (b := false) rfl rfl rfl rfl (by decide) ?_
  simp only [qz]
  refine rg_nil (ek_next (wk_seq (wk_cond_f rfl (wk_exit (ek_then_exit (ek_then_exit (ek_block_exit (ek_next (wk_seq ?_)))))))))
  refine wk_region [0, 0, 1, 0] rfl Kx ?_
  simp only [qy]
  refine rf_loadR (n := 5) rfl rfl rfl Try.underlying143 rfl Kx (fun w hw => Kn.hd0 (Kn.tl hw)) rfl rfl ?_
  simp only [qz]
  refine rg_move ?_
  simp only [qz]
  refine rf_storeR (n := 5) rfl rfl Kx rfl rfl (UpdR.here _ _ _ Nl) Nz ?_
  simp only [qz, Nat.reduceAdd]
  refine rg_assign ?_
  simp only [qz]
  refine rg_nil (ek_next (wk_ret ?_))
  refine ek_ret (fun w hw => ⟨rfl, _, run_results2 rfl rfl (Kn.hd0 hw) Try.underlying29 rfl Kx, ?_⟩)
  (try simp only [qz])
  refine ⟨?_, hw.below⟩
  rw [← hmr.out, small_no (z := y) (fun h => by obtain ⟨hk, h0, h1, h2, h3, h4, h5, h6, h7⟩ := h; omega)]
 (try simp only [qd, ne_eq] at h5)
 simp only [qz]
 refine rf_pick rfl rfl rfl ?_
 simp only [qz]
 refine rg_move ?_
 simp only [qz]
 apply rg_soft_g
 case hg => rfl
 case hy => (intro w hw; have hand := and1; go_simp; (try go_bits); exact Yld.mk _ _)
 simp only [qz]
 refine rfb_leq rfl rfl rfl rfl ?_
 intro x h6
 cases x
 ·(try simp only [qd, ne_eq] at h6)
  simp only [qz]
  refine rf_pick rfl rfl rfl ?_
  simp only [qz]
  refine rg_assign ?_
  simp only [qz]
  refine rg_nil (ek_block (ek_next ?_))
  refine wk_region [0, 0] rfl Kx ?_
  simp only [qy]
  refine rf_add (r := 1) rfl rfl rfl rfl (by decide) ?_
  simp only [qz]
  refine rg_move ?_
  simp only [qz]
  refine rg_nil (ek_again (wk_seq ?_))
  refine wk_region [0] rfl Kx ?_
  simp only [qy]
  refine rf_lss (b := true) rfl rfl rfl rfl (by decide) ?_
  simp only [qz]
  refine rg_nil (ek_next (wk_seq (wk_cond_t rfl (wk_skip (ek_next (wk_seq (wk_block (wk_seq ?_))))))))
  refine wk_region [0, 0] rfl Kx ?_
  simp only [qy]
  apply rg_soft
  case hy => (intro w hw; have hand := and1; go_simp; (try go_bits); exact Yld.mk _ _)
  simp only [qz]
  refine rg_assign ?_
  simp only [qz]
  refine rg_nil (ek_next ?_)
  refine wk_region [0, 0, 0, 0, 0, 0, 0, 0, 0, 0] rfl Kx ?_
  simp only [qy]
  refine rg_move ?_
  simp only [qz]
  refine rg_move ?_
  simp only [qz]
  refine rg_skip Rx ?_
  simp only [qz]
  refine rg_skip Rx ?_
  simp only [qz]
  refine rf_pick rfl rfl rfl ?_
  simp only [qz]
  refine rg_move ?_
  simp only [qz]
  refine rg_skip Rx ?_
  simp only [qz]
  refine rg_skip Rx ?_
  simp only [qz]
  refine rf_pick rfl rfl rfl ?_
  simp only [qz]
  refine rg_assign ?_
  simp only [qz]
  refine rg_nil (ek_block (ek_next ?_))
  refine wk_region [0, 0] rfl Kx ?_
  simp only [qy]
  refine rf_add (r := 2) rfl rfl rfl rfl (by decide) ?_
  simp only [qz]
  refine rg_move ?_
  simp only [qz]
  refine rg_nil (ek_again (wk_seq ?_))
  refine wk_region [0] rfl Kx ?_
  simp only [qy]
  refine rf_lss (b := true) rfl rfl rfl rfl (by decide) ?_
  simp only [qz]
  refine rg_nil (ek_next (wk_seq (wk_cond_t rfl (wk_skip (ek_next (wk_seq (wk_block (wk_seq ?_))))))))
  refine wk_region [0, 0] rfl Kx ?_
  simp only [qy]
  apply rg_soft
  case hy => (intro w hw; have hand := and1; go_simp; (try go_bits); exact Yld.mk _ _)
  simp only [qz]
  refine rg_assign ?_
  simp only [qz]
  refine rg_nil (ek_next ?_)
  refine wk_region [0, 0, 0, 0, 0, 0, 0, 0, 0, 0] rfl Kx ?_
  simp only [qy]
  refine rg_move ?_
  simp only [qz]
  refine rg_move ?_
  simp only [qz]
  refine rg_skip Rx ?_
  simp only [qz]
  refine rg_skip Rx ?_
  simp only [qz]
  refine rf_pick rfl rfl rfl ?_
  simp only [qz]
  refine rg_move ?_
  simp only [qz]
  refine rg_skip Rx ?_
  simp only [qz]
  refine rg_skip Rx ?_
  simp only [qz]
  refine rf_pick rfl rfl rfl ?_
  simp only [qz]
  refine rg_assign ?_
  simp only [qz]
  refine rg_nil (ek_block (ek_next ?_))
  refine wk_region [0, 0] rfl Kx ?_
  simp only [qy]
  refine rf_add (r := 3) rfl rfl rfl rfl (by decide) ?_
  simp only [qz]
  refine rg_move ?_
  simp only [qz]
  refine rg_nil (ek_again (wk_seq ?_))
  refine wk_region [0] rfl Kx ?_
  simp only [qy]
  refine rf_lss (b := true) rfl rfl rfl rfl (by decide) ?_
  simp only [qz]
  refine rg_nil (ek_next (wk_seq (wk_cond_t rfl (wk_skip (ek_next (wk_seq (wk_block (wk_seq ?_))))))))
  refine wk_region [0, 0] rfl Kx ?_
  simp only [qy]
  apply rg_soft
  case hy => (intro w hw; have hand := and1; go_simp; (try go_bits); exact Yld.mk _ _)
  simp only [qz]
  refine rg_assign ?_
  simp only [qz]
  refine rg_nil (ek_next ?_)
  refine wk_region [0, 0, 0, 0, 0, 0, 0, 0, 0, 0] rfl Kx ?_
  simp only [qy]
  refine rg_move ?_
  simp only [qz]
  refine rg_move ?_
  simp only [qz]
  refine rg_skip Rx ?_
  simp only [qz]
  refine rg_skip Rx ?_
  simp only [qz]
  refine rf_pick rfl rfl rfl ?_
  simp only [qz]
  refine rg_move ?_
  simp only [qz]
  refine rg_skip Rx ?_
  simp only [qz]
  refine rg_skip Rx ?_
  simp only [qz]
  refine rf_pick rfl rfl rfl ?_
  simp only [qz]
  refine rg_assign ?_
  simp only [qz]
  refine rg_nil (ek_block (ek_next ?_))
  refine wk_region [0, 0] rfl Kx ?_
  simp only [qy]
  refine rf_add (r := 4) rfl rfl rfl rfl (by decide) ?_
  simp only [qz]
  refine rg_move ?_
  simp only [qz]
  refine rg_nil (ek_again (wk_seq ?_))
  refine wk_region [0] rfl Kx ?_
  simp only [qy]
  refine rf_lss (b := false) rfl rfl rfl rfl (by decide) ?_
  simp only [qz]
  refine rg_nil (ek_next (wk_seq (wk_cond_f rfl (wk_exit (ek_then_exit (ek_then_exit (ek_block_exit (ek_next (wk_seq ?_)))))))))
  refine wk_region [0, 0, 1, 0] rfl Kx ?_
  simp only [qy]
  refine rf_loadR (n := 5) rfl rfl rfl Try.underlying143 rfl Kx (fun w hw => Kn.hd0 (Kn.tl hw)) rfl rfl ?_
  simp only [qz]
  refine rg_move ?_
  simp only [qz]
  refine rf_storeR (n := 5) rfl rfl Kx rfl rfl (UpdR.here _ _ _ Nl) Nz ?_
  simp only [qz, Nat.reduceAdd]
  refine rg_assign ?_
  simp only [qz]
  refine rg_nil (ek_next (wk_ret ?_))
  refine ek_ret (fun w hw => ⟨rfl, _, run_results2 rfl rfl (Kn.hd0 hw) Try.underlying29 rfl Kx, ?_⟩)
  (try simp only [qz])
  refine ⟨?_, hw.below⟩
  rw [← hmr.out, small_no (z := y) (fun h => by obtain ⟨hk, h0, h1, h2, h3, h4, h5, h6, h7⟩ := h; omega)]
 (try simp only [qd, ne_eq] at h6)
 simp only [qz]
 refine rf_pick rfl rfl rfl ?_
 simp only [qz]
 refine rg_assign ?_
 simp only [qz]
 refine rg_nil (ek_block (ek_next ?_))
 refine wk_region [0, 0] rfl Kx ?_
 simp only [qy]
 refine rf_add (r := 1) rfl rfl rfl rfl (by decide) ?_
 simp only [qz]
 refine rg_move ?_
 simp only [qz]
 refine rg_nil (ek_again (wk_seq ?_))
 refine wk_region [0] rfl Kx ?_
 simp only [qy]
 refine rf_lss (b := true) rfl rfl rfl rfl (by decide) ?_
 simp only [qz]
 refine rg_nil (ek_next (wk_seq (wk_cond_t rfl (wk_skip (ek_next (wk_seq (wk_block (wk_seq ?_))))))))
 refine wk_region [0, 0] rfl Kx ?_
 simp only [qy]
 apply rg_soft
 case hy => (intro w hw; have hand := and1; go_simp; (try go_bits); exact Yld.mk _ _)
 simp only [qz]
 refine rg_assign ?_
 simp only [qz]
 refine rg_nil (ek_next ?_)
 refine wk_region [0, 0, 0, 0, 0, 0, 0, 0, 0, 0] rfl Kx ?_
 simp only [qy]
 refine rg_move ?_
 simp only [qz]
 refine rg_move ?_
 simp only [qz]
 apply rg_soft_g
 case hg => rfl
 case hy => (intro w hw; have hand := and1; go_simp; (try go_bits); exact Yld.mk _ _)
 simp only [qz]
 refine rfb_leq rfl rfl rfl rfl ?_
 intro x h7
 cases x
 ·(try simp only [qd, ne_eq] at h7)
  simp only [qz]
  refine rf_pick rfl rfl rfl ?_
  simp only [qz]
  refine rg_move ?_
  simp only [qz]
  refine rg_skip Rx ?_
  simp only [qz]
  refine rg_skip Rx ?_
  simp only [qz]
  refine rf_pick rfl rfl rfl ?_
  simp only [qz]
  refine rg_assign ?_
  simp only [qz]
  refine rg_nil (ek_block (ek_next ?_))
  refine wk_region [0, 0] rfl Kx ?_
  simp only [qy]
  refine rf_add (r := 2) rfl rfl rfl rfl (by decide) ?_
  simp only [qz]
  refine rg_move ?_
  simp only [qz]
  refine rg_nil (ek_again (wk_seq ?_))
  refine wk_region [0] rfl Kx ?_
  simp only [qy]
  refine rf_lss (b := true) rfl rfl rfl rfl (by decide) ?_
  simp only [qz]
  refine rg_nil (ek_next (wk_seq (wk_cond_t rfl (wk_skip (ek_next (wk_seq (wk_block (wk_seq ?_))))))))
  refine wk_region [0, 0] rfl Kx ?_
  simp only [qy]
  apply rg_soft
  case hy => (intro w hw; have hand := and1; go_simp; (try go_bits); exact Yld.mk _ _)
  simp only [qz]
  refine rg_assign ?_
  simp only [qz]
  refine rg_nil (ek_next ?_)
  refine wk_region [0, 0, 0, 0, 0, 0, 0, 0, 0, 0] rfl Kx ?_
  simp only [qy]
  refine rg_move ?_
  simp only [qz]
  refine rg_move ?_
  simp only [qz]
  refine rg_skip Rx ?_
  simp only [qz]
  refine rg_skip Rx ?_
  simp only [qz]
  refine rf_pick rfl rfl rfl ?_
  simp only [qz]
  refine rg_move ?_
  simp only [qz]
  refine rg_skip Rx ?_
  simp only [qz]
  refine rg_skip Rx ?_
  simp only [qz]
  refine rf_pick rfl rfl rfl ?_
  simp only [qz]
  refine rg_assign ?_
  simp only [qz]
  refine rg_nil (ek_block (ek_next ?_))
  refine wk_region [0, 0] rfl Kx ?_
  simp only [qy]
  refine rf_add (r := 3) rfl rfl rfl rfl (by decide) ?_
  simp only [qz]
  refine rg_move ?_
  simp only [qz]
  refine rg_nil (ek_again (wk_seq ?_))
  refine wk_region [0] rfl Kx ?_
  simp only [qy]
  refine rf_lss (b := true) rfl rfl rfl rfl (by decide) ?_
  simp only [qz]
  refine rg_nil (ek_next (wk_seq (wk_cond_t rfl (wk_skip (ek_next (wk_seq (wk_block (wk_seq ?_))))))))
  refine wk_region [0, 0] rfl Kx ?_
  simp only [qy]
  apply rg_soft
  case hy => (intro w hw; have hand := and1; go_simp; (try go_bits); exact Yld.mk _ _)
  simp only [qz]
  refine rg_assign ?_
  simp only [qz]
  refine rg_nil (ek_next ?_)
  refine wk_region [0, 0, 0, 0, 0, 0, 0, 0, 0, 0] rfl Kx ?_
  simp only [qy]
  refine rg_move ?_
  simp only [qz]
  refine rg_move ?_
  simp only [qz]
  refine rg_skip Rx ?_
  simp only [qz]
  refine rg_skip Rx ?_
  simp only [qz]
  refine rf_pick rfl rfl rfl ?_
  simp only [qz]
  refine rg_move ?_
  simp only [qz]
  refine rg_skip Rx ?_
  simp only [qz]
  refine rg_skip Rx ?_
  simp only [qz]
  refine rf_pick rfl rfl rfl ?_
  simp only [qz]
  refine rg_assign ?_
  simp only [qz]
  refine rg_nil (ek_block (ek_next ?_))
  refine wk_region [0, 0] rfl Kx ?_
  simp only [qy]
  refine rf_add (r := 4) rfl rfl rfl rfl (by decide) ?_
  simp only [qz]
  refine rg_move ?_
  simp only [qz]
  refine rg_nil (ek_again (wk_seq ?_))
  refine wk_region [0] rfl Kx ?_
  simp only [qy]
  refine rf_lss (b := false) rfl rfl rfl rfl (by decide) ?_
  simp only [qz]
  refine rg_nil (ek_next (wk_seq (wk_cond_f rfl (wk_exit (ek_then_exit (ek_then_exit (ek_block_exit (ek_next (wk_seq ?_)))))))))
  refine wk_region [0, 0, 1, 0] rfl Kx ?_
  simp only [qy]
  refine rf_loadR (n := 5) rfl rfl rfl Try.underlying143 rfl Kx (fun w hw => Kn.hd0 (Kn.tl hw)) rfl rfl ?_
  simp only [qz]
  refine rg_move ?_
  simp only [qz]
  refine rf_storeR (n := 5) rfl rfl Kx rfl rfl (UpdR.here _ _ _ Nl) Nz ?_
  simp only [qz, Nat.reduceAdd]
  refine rg_assign ?_
  simp only [qz]
  refine rg_nil (ek_next (wk_ret ?_))
  refine ek_ret (fun w hw => ⟨rfl, _, run_results2 rfl rfl (Kn.hd0 hw) Try.underlying29 rfl Kx, ?_⟩)
  (try simp only [qz])
  refine ⟨?_, hw.below⟩
  rw [← hmr.out, small_no (z := y) (fun h => by obtain ⟨hk, h0, h1, h2, h3, h4, h5, h6, h7⟩ := h; omega)]
 (try simp only [qd, ne_eq] at h7)
 simp only [qz]
 refine rf_pick rfl rfl rfl ?_
 simp only [qz]
 refine rg_move ?_
 simp only [qz]
 apply rg_soft_g
 case hg => rfl
 case hy => (intro w hw; have hand := and1; go_simp; (try go_bits); exact Yld.mk _ _)
 simp only [qz]
 refine rfb_leq rfl rfl rfl rfl ?_
 intro x h8
 cases x
 ·(try simp only [qd, ne_eq] at h8)
  simp only [qz]
  refine rf_pick rfl rfl rfl ?_
  simp only [qz]
  refine rg_assign ?_
  simp only [qz]
  refine rg_nil (ek_block (ek_next ?_))
  refine wk_region [0, 0] rfl Kx ?_
  simp only [qy]
  refine rf_add (r := 2) rfl rfl rfl rfl (by decide) ?_
  simp only [qz]
  refine rg_move ?_
  simp only [qz]
  refine rg_nil (ek_again (wk_seq ?_))
  refine wk_region [0] rfl Kx ?_
  simp only [qy]
  refine rf_lss (b := true) rfl rfl rfl rfl (by decide) ?_
  simp only [qz]
  refine rg_nil (ek_next (wk_seq (wk_cond_t rfl (wk_skip (ek_next (wk_seq (wk_block (wk_seq ?_))))))))
  refine wk_region [0, 0] rfl Kx ?_
  simp only [qy]
  apply rg_soft
  case hy => (intro w hw; have hand := and1; go_simp; (try go_bits); exact Yld.mk _ _)
  simp only [qz]
  refine rg_assign ?_
  simp only [qz]
  refine rg_nil (ek_next ?_)
  refine wk_region [0, 0, 0, 0, 0, 0, 0, 0, 0, 0] rfl Kx ?_
  simp only [qy]
  refine rg_move ?_
  simp only [qz]
  refine rg_move ?_
  simp only [qz]
  refine rg_skip Rx ?_
  simp only [qz]
  refine rg_skip Rx ?_
  simp only [qz]
  refine rf_pick rfl rfl rfl ?_
  simp only [qz]
  refine rg_move ?_
  simp only [qz]
  refine rg_skip Rx ?_
  simp only [qz]
  refine rg_skip Rx ?_
  simp only [qz]
  refine rf_pick rfl rfl rfl ?_
  simp only [qz]
  refine rg_assign ?_
  simp only [qz]
  refine rg_nil (ek_block (ek_next ?_))
  refine wk_region [0, 0] rfl Kx ?_
  simp only [qy]
  refine rf_add (r := 3) rfl rfl rfl rfl (by decide) ?_
  simp only [qz]
  refine rg_move ?_
  simp only [qz]
  refine rg_nil (ek_again (wk_seq ?_))
  refine wk_region [0] rfl Kx ?_
  simp only [qy]
  refine rf_lss (b := true) rfl rfl rfl rfl (by decide) ?_
  simp only [qz]
  refine rg_nil (ek_next (wk_seq (wk_cond_t rfl (wk_skip (ek_next (wk_seq (wk_block (wk_seq ?_))))))))
  refine wk_region [0, 0] rfl Kx ?_
  simp only [qy]
  apply rg_soft
  case hy => (intro w hw; have hand := and1; go_simp; (try go_bits); exact Yld.mk _ _)
  simp only [qz]
  refine rg_assign ?_
  simp only [qz]
  refine rg_nil (ek_next ?_)
  refine wk_region [0, 0, 0, 0, 0, 0, 0, 0, 0, 0] rfl Kx ?_
  simp only [qy]
  refine rg_move ?_
  simp only [qz]
  refine rg_move ?_
  simp only [qz]
  refine rg_skip Rx ?_
  simp only [qz]
  refine rg_skip Rx ?_
  simp only [qz]
  refine rf_pick rfl rfl rfl ?_
  simp only [qz]
  refine rg_move ?_
  simp only [qz]
  refine rg_skip Rx ?_
  simp only [qz]
  refine rg_skip Rx ?_
  simp only [qz]
  refine rf_pick rfl rfl rfl ?_
  simp only [qz]
  refine rg_assign ?_
  simp only [qz]
  refine rg_nil (ek_block (ek_next ?_))
  refine wk_region [0, 0] rfl Kx ?_
  simp only [qy]
  refine rf_add (r := 4) rfl rfl rfl rfl (by decide) ?_
  simp only [qz]
  refine rg_move ?_
  simp only [qz]
  refine rg_nil (ek_again (wk_seq ?_))
  refine wk_region [0] rfl Kx ?_
  simp only [qy]
  refine rf_lss (b := false) rfl rfl rfl rfl (by decide) ?_
  simp only [qz]
  refine rg_nil (ek_next (wk_seq (wk_cond_f rfl (wk_exit (ek_then_exit (ek_then_exit (ek_block_exit (ek_next (wk_seq ?_)))))))))
  refine wk_region [0, 0, 1, 0] rfl Kx ?_
  simp only [qy]
  refine rf_loadR (n := 5) rfl rfl rfl Try.underlying143 rfl Kx (fun w hw => Kn.hd0 (Kn.tl hw)) rfl rfl ?_
  simp only [qz]
  refine rg_move ?_
  simp only [qz]
  refine rf_storeR (n := 5) rfl rfl Kx rfl rfl (UpdR.here _ _ _ Nl) Nz ?_
  simp only [qz, Nat.reduceAdd]
  refine rg_assign ?_
  simp only [qz]
  refine rg_nil (ek_next (wk_ret ?_))
  refine ek_ret (fun w hw => ⟨rfl, _, run_results2 rfl rfl (Kn.hd0 hw) Try.underlying29 rfl Kx, ?_⟩)
  (try simp only [qz])
  refine ⟨?_, hw.below⟩
  rw [← hmr.out, small_no (z := y) (fun h => by obtain ⟨hk, h0, h1, h2, h3, h4, h5, h6, h7⟩ := h; omega)]
 (try simp only [qd, ne_eq] at h8)
 simp only [qz]
 refine rf_pick rfl rfl rfl ?_
 simp only [qz]
 refine rg_assign ?_
 simp only [qz]
 refine rg_nil (ek_block (ek_next ?_))
 refine wk_region [0, 0] rfl Kx ?_
 simp only [qy]
 refine rf_add (r := 2) rfl rfl rfl rfl (by decide) ?_
 simp only [qz]
 refine rg_move ?_
 simp only [qz]
 refine rg_nil (ek_again (wk_seq ?_))
 refine wk_region [0] rfl Kx ?_
 simp only [qy]
 refine rf_lss (b := true) rfl rfl rfl rfl (by decide) ?_
 simp only [qz]
 refine rg_nil (ek_next (wk_seq (wk_cond_t rfl (wk_skip (ek_next (wk_seq (wk_block (wk_seq ?_))))))))
 refine wk_region [0, 0] rfl Kx ?_
 simp only [qy]
 apply rg_soft
 case hy => (intro w hw; have hand := and1; go_simp; (try go_bits); exact Yld.mk _ _)
 simp only [qz]
 refine rg_assign ?_
 simp only [qz]
 refine rg_nil (ek_next ?_)
 refine wk_region [0, 0, 0, 0, 0, 0, 0, 0, 0, 0] rfl Kx ?_
 simp only [qy]
 refine rg_move ?_
 simp only [qz]
 refine rg_move ?_
 simp only [qz]
 apply rg_soft_g
 case hg => rfl
 case hy => (intro w hw; have hand := and1; go_simp; (try go_bits); exact Yld.mk _ _)
 simp only [qz]
 refine rfb_leq rfl rfl rfl rfl ?_
 intro x h9
 cases x
 ·(try simp only [qd, ne_eq] at h9)
  simp only [qz]
  refine rf_pick rfl rfl rfl ?_
  simp only [qz]
  refine rg_move ?_
  simp only [qz]
  refine rg_skip Rx ?_
  simp only [qz]
  refine rg_skip Rx ?_
  simp only [qz]
  refine rf_pick rfl rfl rfl ?_
  simp only [qz]
  refine rg_assign ?_
  simp only [qz]
  refine rg_nil (ek_block (ek_next ?_))
  refine wk_region [0, 0] rfl Kx ?_
  simp only [qy]
  refine rf_add (r := 3) rfl rfl rfl rfl (by decide) ?_
  simp only [qz]
  refine rg_move ?_
  simp only [qz]
  refine rg_nil (ek_again (wk_seq ?_))
  refine wk_region [0] rfl Kx ?_
  simp only [qy]
  refine rf_lss (b := true) rfl rfl rfl rfl (by decide) ?_
  simp only [qz]
  refine rg_nil (ek_next (wk_seq (wk_cond_t rfl (wk_skip (ek_next (wk_seq (wk_block (wk_seq ?_))))))))
  refine wk_region [0, 0] rfl Kx ?_
  simp only [qy]
  apply rg_soft
  case hy => (intro w hw; have hand := and1; go_simp; (try go_bits); exact Yld.mk _ _)
  simp only [qz]
  refine rg_assign ?_
  simp only [qz]
  refine rg_nil (ek_next ?_)
  refine wk_region [0, 0, 0, 0, 0, 0, 0, 0, 0, 0] rfl Kx ?_
  simp only [qy]
  refine rg_move ?_
  simp only [qz]
  refine rg_move ?_
  simp only [qz]
  refine rg_skip Rx ?_
  simp only [qz]
  refine rg_skip Rx ?_
  simp only [qz]
  refine rf_pick rfl rfl rfl ?_
  simp only [qz]
  refine rg_move ?_
  simp only [qz]
  refine rg_skip Rx ?_
  simp only [qz]
  refine rg_skip Rx ?_
  simp only [qz]
  refine rf_pick rfl rfl rfl ?_
  simp only [qz]
  refine rg_assign ?_
  simp only [qz]
  refine rg_nil (ek_block (ek_next ?_))
  refine wk_region [0, 0] rfl Kx ?_
  simp only [qy]
  refine rf_add (r := 4) rfl rfl rfl rfl (by decide) ?_
  simp only [qz]
  refine rg_move ?_
  simp only [qz]
  refine rg_nil (ek_again (wk_seq ?_))
  refine wk_region [0] rfl Kx ?_
  simp only [qy]
  refine rf_lss (b := false) rfl rfl rfl rfl (by decide) ?_
  simp only [qz]
  refine rg_nil (ek_next (wk_seq (wk_cond_f rfl (wk_exit (ek_then_exit (ek_then_exit (ek_block_exit (ek_next (wk_seq ?_)))))))))
  refine wk_region [0, 0, 1, 0] rfl Kx ?_
  simp only [qy]
  refine rf_loadR (n := 5) rfl rfl rfl Try.underlying143 rfl Kx (fun w hw => Kn.hd0 (Kn.tl hw)) rfl rfl ?_
  simp only [qz]
  refine rg_move ?_
  simp only [qz]
  refine rf_storeR (n := 5) rfl rfl Kx rfl rfl (UpdR.here _ _ _ Nl) Nz ?_
  simp only [qz, Nat.reduceAdd]
  refine rg_assign ?_
  simp only [qz]
  refine rg_nil (ek_next (wk_ret ?_))
  refine ek_ret (fun w hw => ⟨rfl, _, run_results2 rfl rfl (Kn.hd0 hw) Try.underlying29 rfl Kx, ?_⟩)
  (try simp only [qz])
  refine ⟨?_, hw.below⟩
  rw [← hmr.out, small_no (z := y) (fun h => by obtain ⟨hk, h0, h1, h2, h3, h4, h5, h6, h7⟩ := h; omega)]
 (try simp only [qd, ne_eq] at h9)
 simp only [qz]
 refine rf_pick rfl rfl rfl ?_
 simp only [qz]
 refine rg_move ?_
 simp only [qz]
 apply rg_soft_g
 case hg => rfl
 case hy => (intro w hw; have hand := and1; go_simp; (try go_bits); exact Yld.mk _ _)
 simp only [qz]
 refine rfb_leq rfl rfl rfl rfl ?_
 intro x h10
 cases x
 ·(try simp only [qd, ne_eq] at h10)
  simp only [qz]
  refine rf_pick rfl rfl rfl ?_
  simp only [qz]
  refine rg_assign ?_
  simp only [qz]
  refine rg_nil (ek_block (ek_next ?_))
  refine wk_region [0, 0] rfl Kx ?_
  simp only [qy]
  refine rf_add (r := 3) rfl rfl rfl rfl (by decide) ?_
  simp only [qz]
  refine rg_move ?_
  simp only [qz]
  refine rg_nil (ek_again (wk_seq ?_))
  refine wk_region [0] rfl Kx ?_
  simp only [qy]
  refine rf_lss (b := true) rfl rfl rfl rfl (by decide) ?_
  simp only [qz]
  refine rg_nil (ek_next (wk_seq (wk_cond_t rfl (wk_skip (ek_next (wk_seq (wk_block (wk_seq ?_))))))))
  refine wk_region [0, 0] rfl Kx ?_
  simp only [qy]
  apply rg_soft
  case hy => (intro w hw; have hand := and1; go_simp; (try go_bits); exact Yld.mk _ _)
  simp only [qz]
  refine rg_assign ?_
  simp only [qz]
  refine rg_nil (ek_next ?_)
  refine wk_region [0, 0, 0, 0, 0, 0, 0, 0, 0, 0] rfl Kx ?_
  simp only [qy]
  refine rg_move ?_
  simp only [qz]
  refine rg_move ?_
  simp only [qz]
  refine rg_skip Rx ?_
  simp only [qz]
  refine rg_skip Rx ?_
  simp only [qz]
  refine rf_pick rfl rfl rfl ?_
  simp only [qz]
  refine rg_move ?_
  simp only [qz]
  refine rg_skip Rx ?_
  simp only [qz]
  refine rg_skip Rx ?_
  simp only [qz]
  refine rf_pick rfl rfl rfl ?_
  simp only [qz]
  refine rg_assign ?_
  simp only [qz]
  refine rg_nil (ek_block (ek_next ?_))
  refine wk_region [0, 0] rfl Kx ?_
  simp only [qy]
  refine rf_add (r := 4) rfl rfl rfl rfl (by decide) ?_
  simp only [qz]
  refine rg_move ?_
  simp only [qz]
  refine rg_nil (ek_again (wk_seq ?_))
  refine wk_region [0] rfl Kx ?_
  simp only [qy]
  refine rf_lss (b := false) rfl rfl rfl rfl (by decide) ?_
  simp only [qz]
  refine rg_nil (ek_next (wk_seq (wk_cond_f rfl (wk_exit (ek_then_exit (ek_then_exit (ek_block_exit (ek_next (wk_seq ?_)))))))))
  refine wk_region [0, 0, 1, 0] rfl Kx ?_
  simp only [qy]
  refine rf_loadR (n := 5) rfl rfl rfl Try.underlying143 rfl Kx (fun w hw => Kn.hd0 (Kn.tl hw)) rfl rfl ?_
  simp only [qz]
  refine rg_move ?_
  simp only [qz]
  refine rf_storeR (n := 5) rfl rfl Kx rfl rfl (UpdR.here _ _ _ Nl) Nz ?_
  simp only [qz, Nat.reduceAdd]
  refine rg_assign ?_
  simp only [qz]
  refine rg_nil (ek_next (wk_ret ?_))
  refine ek_ret (fun w hw => ⟨rfl, _, run_results2 rfl rfl (Kn.hd0 hw) Try.underlying29 rfl Kx, ?_⟩)
  (try simp only [qz])
  refine ⟨?_, hw.below⟩
  rw [← hmr.out, small_no (z := y) (fun h => by obtain ⟨hk, h0, h1, h2, h3, h4, h5, h6, h7⟩ := h; omega)]
 (try simp only [qd, ne_eq] at h10)
 simp only [qz]
 refine rf_pick rfl rfl rfl ?_
 simp only [qz]
 refine rg_assign ?_
 simp only [qz]
 refine rg_nil (ek_block (ek_next ?_))
 refine wk_region [0, 0] rfl Kx ?_
 simp only [qy]
 refine rf_add (r := 3) rfl rfl rfl rfl (by decide) ?_
 simp only [qz]
 refine rg_move ?_
 simp only [qz]
 refine rg_nil (ek_again (wk_seq ?_))
 refine wk_region [0] rfl Kx ?_
 simp only [qy]
 refine rf_lss (b := true) rfl rfl rfl rfl (by decide) ?_
 simp only [qz]
 refine rg_nil (ek_next (wk_seq (wk_cond_t rfl (wk_skip (ek_next (wk_seq (wk_block (wk_seq ?_))))))))
 refine wk_region [0, 0] rfl Kx ?_
 simp only [qy]
 apply rg_soft
 case hy => (intro w hw; have hand := and1; go_simp; (try go_bits); exact Yld.mk _ _)
 simp only [qz]
 refine rg_assign ?_
 simp only [qz]
 refine rg_nil (ek_next ?_)
 refine wk_region [0, 0, 0, 0, 0, 0, 0, 0, 0, 0] rfl Kx ?_
 simp only [qy]
 refine rg_move ?_
 simp only [qz]
 refine rg_move ?_
 simp only [qz]
 apply rg_soft_g
 case hg => rfl
 case hy => (intro w hw; have hand := and1; go_simp; (try go_bits); exact Yld.mk _ _)
 simp only [qz]
 refine rfb_leq rfl rfl rfl rfl ?_
 intro x h11
 cases x
 ·(try simp only [qd, ne_eq] at h11)
  simp only [qz]
  refine rf_pick rfl rfl rfl ?_
  simp only [qz]
  refine rg_move ?_
  simp only [qz]
  refine rg_skip Rx ?_
  simp only [qz]
  refine rg_skip Rx ?_
  simp only [qz]
  refine rf_pick rfl rfl rfl ?_
  simp only [qz]
  refine rg_assign ?_
  simp only [qz]
  refine rg_nil (ek_block (ek_next ?_))
  refine wk_region [0, 0] rfl Kx ?_
  simp only [qy]
  refine rf_add (r := 4) rfl rfl rfl rfl (by decide) ?_
  simp only [qz]
  refine rg_move ?_
  simp only [qz]
  refine rg_nil (ek_again (wk_seq ?_))
  refine wk_region [0] rfl Kx ?_
  simp only [qy]
  refine rf_lss (b := false) rfl rfl rfl rfl (by decide) ?_
  simp only [qz]
  refine rg_nil (ek_next (wk_seq (wk_cond_f rfl (wk_exit (ek_then_exit (ek_then_exit (ek_block_exit (ek_next (wk_seq ?_)))))))))
  refine wk_region [0, 0, 1, 0] rfl Kx ?_
  simp only [qy]
  refine rf_loadR (n := 5) rfl rfl rfl Try.underlying143 rfl Kx (fun w hw => Kn.hd0 (Kn.tl hw)) rfl rfl ?_
  simp only [qz]
  refine rg_move ?_
  simp only [qz]
  refine rf_storeR (n := 5) rfl rfl Kx rfl rfl (UpdR.here _ _ _ Nl) Nz ?_
  simp only [qz, Nat.reduceAdd]
  refine rg_assign ?_
  simp only [qz]
  refine rg_nil (ek_next (wk_ret ?_))
  refine ek_ret (fun w hw => ⟨rfl, _, run_results2 rfl rfl (Kn.hd0 hw) Try.underlying29 rfl Kx, ?_⟩)
  (try simp only [qz])
  refine ⟨?_, hw.below⟩
  rw [← hmr.out, small_no (z := y) (fun h => by obtain ⟨hk, h0, h1, h2, h3, h4, h5, h6, h7⟩ := h; omega)]
 (try simp only [qd, ne_eq] at h11)
 simp only [qz]
 refine rf_pick rfl rfl rfl ?_
 simp only [qz]
 refine rg_move ?_
 simp only [qz]
 apply rg_soft_g
 case hg => rfl
 case hy => (intro w hw; have hand := and1; go_simp; (try go_bits); exact Yld.mk _ _)
 simp only [qz]
 refine rfb_leq rfl rfl rfl rfl ?_
 intro x h12
 cases x
 ·(try simp only [qd, ne_eq] at h12)
  simp only [qz]
  refine rf_pick rfl rfl rfl ?_
  simp only [qz]
  refine rg_assign ?_
  simp only [qz]
  refine rg_nil (ek_block (ek_next ?_))
  refine wk_region [0, 0] rfl Kx ?_
  simp only [qy]
  refine rf_add (r := 4) rfl rfl rfl rfl (by decide) ?_
  simp only [qz]
  refine rg_move ?_
  simp only [qz]
  refine rg_nil (ek_again (wk_seq ?_))
  refine wk_region [0] rfl Kx ?_
  simp only [qy]
  refine rf_lss (b := false) rfl rfl rfl rfl (by decide) ?_
  simp only [qz]
  refine rg_nil (ek_next (wk_seq (wk_cond_f rfl (wk_exit (ek_then_exit (ek_then_exit (ek_block_exit (ek_next (wk_seq ?_)))))))))
  refine wk_region [0, 0, 1, 0] rfl Kx ?_
  simp only [qy]
  refine rf_loadR (n := 5) rfl rfl rfl Try.underlying143 rfl Kx (fun w hw => Kn.hd0 (Kn.tl hw)) rfl rfl ?_
  simp only [qz]
  refine rg_move ?_
  simp only [qz]
  refine rf_storeR (n := 5) rfl rfl Kx rfl rfl (UpdR.here _ _ _ Nl) Nz ?_
  simp only [qz, Nat.reduceAdd]
  refine rg_assign ?_
  simp only [qz]
  refine rg_nil (ek_next (wk_ret ?_))
  refine ek_ret (fun w hw => ⟨rfl, _, run_results2 rfl rfl (Kn.hd0 hw) Try.underlying29 rfl Kx, ?_⟩)
  (try simp only [qz])
  refine ⟨?_, hw.below⟩
  rw [← hmr.out, small_no (z := y) (fun h => by obtain ⟨hk, h0, h1, h2, h3, h4, h5, h6, h7⟩ := h; omega)]
 (try simp only [qd, ne_eq] at h12)
 simp only [qz]
 refine rf_pick rfl rfl rfl ?_
 simp only [qz]
 refine rg_assign ?_
 simp only [qz]
 refine rg_nil (ek_block (ek_next ?_))
 refine wk_region [0, 0] rfl Kx ?_
 simp only [qy]
 refine rf_add (r := 4) rfl rfl rfl rfl (by decide) ?_
 simp only [qz]
 refine rg_move ?_
 simp only [qz]
 refine rg_nil (ek_again (wk_seq ?_))
 refine wk_region [0] rfl Kx ?_
 simp only [qy]
 refine rf_lss (b := false) rfl rfl rfl rfl (by decide) ?_
 simp only [qz]
 refine rg_nil (ek_next (wk_seq (wk_cond_f rfl (wk_exit (ek_then_exit (ek_then_exit (ek_block_exit (ek_next (wk_seq ?_)))))))))
 refine wk_region [0, 0, 1, 0] rfl Kx ?_
 simp only [qy]
 refine rf_loadR (n := 5) rfl rfl rfl Try.underlying143 rfl Kx (fun w hw => Kn.hd0 (Kn.tl hw)) rfl rfl ?_
 simp only [qz]
 refine rg_move ?_
 simp only [qz]
 refine rf_storeR (n := 5) rfl rfl Kx rfl rfl (UpdR.here _ _ _ Nl) Nz ?_
 simp only [qz, Nat.reduceAdd]
 refine rg_assign ?_
 simp only [qz]
 refine rg_nil (ek_next (wk_ret ?_))
 refine ek_ret (fun w hw => ⟨rfl, _, run_results2 rfl rfl (Kn.hd0 hw) Try.underlying29 rfl Kx, ?_⟩)
 (try simp only [qz])
 refine ⟨?_, hw.below⟩
 rw [← hmr.out, small_yes (z := y) Ox ⟨by omega, by omega, by omega, by omega, by omega, by omega, by omega, by omega⟩]
theorem arr_eqIn (a b c d a' b' c' d' : Int) (w : World) : (Op.equalIn 9999 27 (.agg #[.int .i64 a, .int .i64 b, .int .i64 c, .int .i64 d]) (.agg #[.int .i64 a', .int .i64 b', .int .i64 c', .int .i64 d'])).run Try.prog w = .ok (decide (a = a' ∧ b = b' ∧ c = c' ∧ d = d')) w := by
 have u3 := Try.underlying3
 have a3 := Try.isAgg3
 have z3 := Try.sizeOf3
 rw [show (9999 : Nat) = 9998 + 1 from rfl, Op.equalIn]
 simp only [Sem.run_bind, run_underlying Try.underlying27, Result.andThen_ok]
 simp only [Std.Legacy.Range.forIn_eq_forIn_range', Std.Legacy.Range.size, Nat.sub_zero, Nat.add_sub_cancel, Nat.div_one, List.range'_succ, List.range'_zero, List.forIn_cons, List.forIn_nil]
 go_simp
 by_cases h1 : a = a' <;> by_cases h2 : b = b' <;> by_cases h3 : c = c' <;> by_cases h4 : d = d' <;> simp [h1, h2, h3, h4]
theorem nm_eqIn (x y : Nm) (w : World) : (Op.equalIn 10000 29 (nmV x) (nmV y)).run Try.prog w = .ok (decide (x = y)) w := by
 have u3 := Try.underlying3
 have a3 := Try.isAgg3
 have z3 := Try.sizeOf3
 have a4 := Try.isAgg27
 have z4 := Try.sizeOf27
 have hS : Try.prog.underlying 29 = some (.struct (Try.prog.fieldsOf 29)) := by kernel_rfl
 have hp : Try.prog.stoodInHeld 29 = false := by kernel_rfl
 have hA := arr_eqIn x.a x.b x.c x.d y.a y.b y.c y.d
 obtain ⟨xa, xb, xc, xd, xk⟩ := x
 obtain ⟨ya, yb, yc, yd, yk⟩ := y
 dsimp only at hA
 rw [show (10000 : Nat) = 9999 + 1 from rfl, run_equalIn_agg w 9999 29 _ _ hS hp]
 simp only [Program.fieldsOf, Try.underlying29]
 go_simp
 by_cases h1 : xa = ya <;> by_cases h2 : xb = yb <;> by_cases h3 : xc = yc <;> by_cases h4 : xd = yd <;> by_cases h5 : xk = yk <;> simp [h1, h2, h3, h4, h5]
theorem nm_guard (op : BinOp) (u v : Operand) (x y : Nm) (w : World) : (eqGuard op 29 u v (nmV x) (nmV y)).run Try.prog w = .ok () w := by
 have h : (Try.prog.eqGuardType Try.prog.depth 29) = false := by kernel_rfl
 unfold eqGuard
 cases op <;> simp [h]
section
variable {R : Option Nat} {ops : Array Oper} {Q : Exit → Act → World → Prop} {B : World} {F : List Nat} {s0 : Option (List Blk × List Blk)}
variable {l : List (Oper × Nat)} {a : Act} {s : List Blk} {d : Option Tmp} {t : TypeId} {p : String} {af : Array Edge} {gd : Option (Nat × Bool)} {m : Nat}
theorem rf_eqN {x y : Operand} {z : TypeId} {u v : Nm} (hm : soft03 m = true) (hg : Region.wanted ⟨d, .binOp .eql 29 x y z, t, p, af, gd⟩ (yielded ops a.tmps) = true)
    (hx : a.eval x = nmV u) (hy : a.eval y = nmV v) (h : Rg R Try.prog ops Q B F s0 l (a.put d (.bool (decide (u = v)))) s) : Rg R Try.prog ops Q B F s0 ((⟨d, .binOp .eql 29 x y z, t, p, af, gd⟩, m) :: l) a s := by
  refine rg_any hm hg (fun w => ?_) h
  unfold Yld
  have hb : (binOp .eql 29 (nmV u) (nmV v)).run Try.prog w = .ok (.bool (decide (u = v))) w := by rw [run_eql_struct, nm_eqIn]; rfl
  have hgd := nm_guard .eql x y u v w
  show ((eqGuard .eql _ x y (a.eval x) (a.eval y) >>= fun _ => binOp .eql _ (a.eval x) (a.eval y)) >>= fun r => pure (Next.value r)).run Try.prog w = _
  rw [hx, hy, Sem.run_bind, Sem.run_bind, hgd, Result.andThen_ok, hb]
  rfl
theorem rfb_eqN {x y : Operand} {z : TypeId} (u v : Nm) (hm : soft03 m = true) (hg : Region.wanted ⟨d, .binOp .eql 29 x y z, t, p, af, gd⟩ (yielded ops a.tmps) = true)
    (hx : a.eval x = nmV u) (hy : a.eval y = nmV v) (h : ∀ b, decide (u = v) = b → Rg R Try.prog ops Q B F s0 l (a.put d (.bool b)) s) : Rg R Try.prog ops Q B F s0 ((⟨d, .binOp .eql 29 x y z, t, p, af, gd⟩, m) :: l) a s := rf_eqN hm hg hx hy (h _ rfl)
end
theorem okB_not {z : Nm} (h : ¬ z.Ok) : z.okB = false := by
 cases hb : z.okB with
 | false => rfl
 | true => exact absurd (okB_iff.1 hb) h
theorem okB_yes {z : Nm} (h : z.Ok) : z.okB = true := okB_iff.2 h
theorem okB_last {z : Nm} (h0 : 0 ≤ z.k) (h1 : z.k ≤ 40) (hf : z.Fit 1000000000) : z.okB = decide (z.nf = z) := by
 rw [Bool.eq_iff_iff, okB_iff, decide_eq_true_eq, nf_self_iff h0]
 exact ⟨fun h => h.form, fun h => ⟨hf, h0, h1, h⟩⟩
theorem amvalid_any (z : Nm) (w : World) : Calls Try.prog 121 #[nmV z] w fun e w' => e = .returned (.bool z.okB) ∧ Below w.heap.size w w' := by
 go_enter Try.func121, Try.ntmps121
 refine wk_start ?_
 refine wk_seq ?_
 refine wk_region [1, 0] rfl Kx ?_
 simp only [qy]
 refine Rgn fun g1 => ?_
 simp only [qz]
 refine rg_assign ?_
 simp only [qz]
 refine rg_nil (ek_next (wk_seq (wk_seq ?_)))
 refine wk_region [0, 0, 0, 0, 0, 0, 0, 0] rfl Kx ?_
 simp only [qy]
 refine rf_field (n := 0) (j := 4) rfl rfl rfl Try.underlying29 rfl Kx rfl ?_
 simp only [qz]
 refine rf_load rfl rfl rfl Try.underlying3 rfl (fun w hw => (Kn.hd0 hw).at rfl) ?_
 simp only [qz]
 refine rfb_lss rfl rfl rfl rfl ?_
 intro x h1
 cases x
 ·(try simp only [qd, ne_eq] at h1)
  simp only [qz]
  refine rg_move ?_
  simp only [qz]
  refine rf_field (n := 0) (j := 4) rfl rfl rfl Try.underlying29 rfl Kx rfl ?_
  simp only [qz]
  refine rf_load rfl rfl rfl Try.underlying3 rfl (fun w hw => (Kn.hd0 hw).at rfl) ?_
  simp only [qz]
  refine rfb_gtr rfl rfl rfl rfl ?_
  intro x h2
  cases x
  ·(try simp only [qd, ne_eq] at h2)
   simp only [qz]
   refine rf_pick rfl rfl rfl ?_
   simp only [qz]
   refine rg_nil (ek_next (wk_cond_f rfl (wk_skip (ek_next (wk_seq (wk_seq ?_))))))
   refine wk_region [0, 0, 0] rfl Kx ?_
   simp only [qy]
   refine rf_field (n := 3) (j := 0) rfl rfl rfl Try.underlying29 rfl Kx rfl ?_
   simp only [qz]
   refine rf_loadR (n := 4) rfl rfl rfl Try.underlying27 rfl Kx (fun w hw => Kn.hd0 hw) rfl rfl ?_
   simp only [qz]
   refine rg_move ?_
   simp only [qz]
   refine rg_nil (ek_next (wk_block ?_))
   refine wk_unroll 4 ?_
   refine wk_seq ?_
   refine wk_region [0] rfl Kx ?_
   simp only [qy]
   refine rf_lss (b := true) rfl rfl rfl rfl (by decide) ?_
   simp only [qz]
   refine rg_nil (ek_next (wk_seq (wk_cond_t rfl (wk_skip (ek_next (wk_seq (wk_block (wk_seq ?_))))))))
   refine wk_region [0, 0] rfl Kx ?_
   simp only [qy]
   apply rg_soft
   case hy => (intro w hw; go_simp; (try go_bits); exact Yld.mk _ _)
   simp only [qz]
   refine rg_assign ?_
   simp only [qz]
   refine rg_nil (ek_next (wk_seq ?_))
   refine wk_region [0, 0, 0, 0, 0, 0] rfl Kx ?_
   simp only [qy]
   refine rg_move ?_
   simp only [qz]
   refine rfb_lss rfl rfl rfl rfl ?_
   intro x h3
   cases x
   ·(try simp only [qd, ne_eq] at h3)
    simp only [qz]
    refine rg_move ?_
    simp only [qz]
    apply rg_soft_g
    case hg => rfl
    case hy => (intro w hw; go_simp; (try go_bits); exact Yld.mk _ _)
    simp only [qz]
    refine rfb_gtr rfl rfl rfl rfl ?_
    intro x h4
    cases x
    ·(try simp only [qd, ne_eq] at h4)
     simp only [qz]
     refine rf_pick rfl rfl rfl ?_
     simp only [qz]
     refine rg_nil (ek_next (wk_cond_f rfl (wk_skip (ek_block (ek_next ?_)))))
     refine wk_region [0, 0] rfl Kx ?_
     simp only [qy]
     refine rf_add (r := 1) rfl rfl rfl rfl (by decide) ?_
     simp only [qz]
     refine rg_move ?_
     simp only [qz]
     refine rg_nil (ek_again (wk_seq ?_))
     refine wk_region [0] rfl Kx ?_
     simp only [qy]
     refine rf_lss (b := true) rfl rfl rfl rfl (by decide) ?_
     simp only [qz]
     refine rg_nil (ek_next (wk_seq (wk_cond_t rfl (wk_skip (ek_next (wk_seq (wk_block (wk_seq ?_))))))))
     refine wk_region [0, 0] rfl Kx ?_
     simp only [qy]
     apply rg_soft
     case hy => (intro w hw; go_simp; (try go_bits); exact Yld.mk _ _)
     simp only [qz]
     refine rg_assign ?_
     simp only [qz]
     refine rg_nil (ek_next (wk_seq ?_))
     refine wk_region [0, 0, 0, 0, 0, 0] rfl Kx ?_
     simp only [qy]
     refine rg_move ?_
     simp only [qz]
     refine rfb_lss rfl rfl rfl rfl ?_
     intro x h5
     cases x
     ·(try simp only [qd, ne_eq] at h5)
      simp only [qz]
      refine rg_move ?_
      simp only [qz]
      apply rg_soft_g
      case hg => rfl
      case hy => (intro w hw; go_simp; (try go_bits); exact Yld.mk _ _)
      simp only [qz]
      refine rfb_gtr rfl rfl rfl rfl ?_
      intro x h6
      cases x
      ·(try simp only [qd, ne_eq] at h6)
       simp only [qz]
       refine rf_pick rfl rfl rfl ?_
       simp only [qz]
       refine rg_nil (ek_next (wk_cond_f rfl (wk_skip (ek_block (ek_next ?_)))))
       refine wk_region [0, 0] rfl Kx ?_
       simp only [qy]
       refine rf_add (r := 2) rfl rfl rfl rfl (by decide) ?_
       simp only [qz]
       refine rg_move ?_
       simp only [qz]
       refine rg_nil (ek_again (wk_seq ?_))
       refine wk_region [0] rfl Kx ?_
       simp only [qy]
       refine rf_lss (b := true) rfl rfl rfl rfl (by decide) ?_
       simp only [qz]
       refine rg_nil (ek_next (wk_seq (wk_cond_t rfl (wk_skip (ek_next (wk_seq (wk_block (wk_seq ?_))))))))
       refine wk_region [0, 0] rfl Kx ?_
       simp only [qy]
       apply rg_soft
       case hy => (intro w hw; go_simp; (try go_bits); exact Yld.mk _ _)
       simp only [qz]
       refine rg_assign ?_
       simp only [qz]
       refine rg_nil (ek_next (wk_seq ?_))
       refine wk_region [0, 0, 0, 0, 0, 0] rfl Kx ?_
       simp only [qy]
       refine rg_move ?_
       simp only [qz]
       refine rfb_lss rfl rfl rfl rfl ?_
       intro x h7
       cases x
       ·(try simp only [qd, ne_eq] at h7)
        simp only [qz]
        refine rg_move ?_
        simp only [qz]
        apply rg_soft_g
        case hg => rfl
        case hy => (intro w hw; go_simp; (try go_bits); exact Yld.mk _ _)
        simp only [qz]
        refine rfb_gtr rfl rfl rfl rfl ?_
        intro x h8
        cases x
        ·(try simp only [qd, ne_eq] at h8)
         simp only [qz]
         refine rf_pick rfl rfl rfl ?_
         simp only [qz]
         refine rg_nil (ek_next (wk_cond_f rfl (wk_skip (ek_block (ek_next ?_)))))
         refine wk_region [0, 0] rfl Kx ?_
         simp only [qy]
         refine rf_add (r := 3) rfl rfl rfl rfl (by decide) ?_
         simp only [qz]
         refine rg_move ?_
         simp only [qz]
         refine rg_nil (ek_again (wk_seq ?_))
         refine wk_region [0] rfl Kx ?_
         simp only [qy]
         refine rf_lss (b := true) rfl rfl rfl rfl (by decide) ?_
         simp only [qz]
         refine rg_nil (ek_next (wk_seq (wk_cond_t rfl (wk_skip (ek_next (wk_seq (wk_block (wk_seq ?_))))))))
         refine wk_region [0, 0] rfl Kx ?_
         simp only [qy]
         apply rg_soft
         case hy => (intro w hw; go_simp; (try go_bits); exact Yld.mk _ _)
         simp only [qz]
         refine rg_assign ?_
         simp only [qz]
         refine rg_nil (ek_next (wk_seq ?_))
         refine wk_region [0, 0, 0, 0, 0, 0] rfl Kx ?_
         simp only [qy]
         refine rg_move ?_
         simp only [qz]
         refine rfb_lss rfl rfl rfl rfl ?_
         intro x h9
         cases x
         ·(try simp only [qd, ne_eq] at h9)
          simp only [qz]
          refine rg_move ?_
          simp only [qz]
          apply rg_soft_g
          case hg => rfl
          case hy => (intro w hw; go_simp; (try go_bits); exact Yld.mk _ _)
          simp only [qz]
          refine rfb_gtr rfl rfl rfl rfl ?_
          intro x h10
          cases x
          ·(try simp only [qd, ne_eq] at h10)
           simp only [qz]
           refine rf_pick rfl rfl rfl ?_
           simp only [qz]
           refine rg_nil (ek_next (wk_cond_f rfl (wk_skip (ek_block (ek_next ?_)))))
           refine wk_region [0, 0] rfl Kx ?_
           simp only [qy]
           refine rf_add (r := 4) rfl rfl rfl rfl (by decide) ?_
           simp only [qz]
           refine rg_move ?_
           simp only [qz]
           refine rg_nil (ek_again (wk_seq ?_))
           refine wk_region [0] rfl Kx ?_
           simp only [qy]
           refine rf_lss (b := false) rfl rfl rfl rfl (by decide) ?_
           simp only [qz]
           refine rg_nil (ek_next (wk_seq (wk_cond_f rfl (wk_exit (ek_then_exit (ek_then_exit (ek_block_exit (ek_next (wk_seq ?_)))))))))
           refine wk_region [0, 1, 0, 0, 0, 1, 1, 0] rfl Kx ?_
           simp only [qy]
           refine rf_loadR (n := 5) rfl rfl rfl Try.underlying29 rfl Kx (fun w hw => Kn.hd0 hw) rfl rfl ?_
           simp only [qz]
           apply rg_pure Rx Kx
           case hargs => exact Ax
           case h => exact fun w hw => reduced_any z ⟨by omega, by omega, by omega, by omega, by omega, by omega, by omega, by omega⟩ Ox w
           case hz => exact Nz
           simp only [qz]
           refine rg_move ?_
           simp only [qz]
           refine rf_extract rfl rfl rfl rfl ?_
           simp only [qz]
           refine rf_extract rfl rfl rfl rfl ?_
           simp only [qz]
           refine Rgn fun g2 => ?_
           simp only [qz]
           refine rf_storeR (n := 5) rfl rfl Kx rfl rfl (UpdR.here _ _ _ Nl) Nz ?_
           simp only [qz, Nat.reduceAdd]
           refine rg_assign ?_
           simp only [qz]
           refine rg_nil (ek_next (wk_seq ?_))
           refine wk_region [0, 0, 0, 0] rfl Kx ?_
           simp only [qy]
           refine rf_loadR (n := 5) rfl rfl rfl Try.underlying29 rfl Kx (fun w hw => Kn.hd0 hw) rfl rfl ?_
           simp only [qz]
           refine rf_loadR (n := 5) rfl rfl rfl Try.underlying29 rfl Kx (fun w hw => Kn.hd0 (Kn.tl hw)) rfl rfl ?_
           simp only [qz]
           refine rf_eqN (u := z.nf) (v := z) rfl rfl rfl rfl ?_
           simp only [qz]
           refine rg_assign ?_
           simp only [qz]
           refine rg_nil (ek_next (wk_ret ?_))
           refine ek_ret (fun w hw => ⟨rfl, _, res_t _ rfl, ?_⟩)
           (try simp only [qz])
           refine ⟨?_, hw.below⟩
           rw [okB_last (z := z) Ox Ox ⟨by omega, by omega, by omega, by omega, by omega, by omega, by omega, by omega⟩]
          (try simp only [qd, ne_eq] at h10)
          simp only [qz]
          refine rf_pick rfl rfl rfl ?_
          simp only [qz]
          refine rg_nil (ek_next (wk_cond_t rfl (wk_seq ?_)))
          refine wk_region [0] rfl Kx ?_
          simp only [qy]
          refine rg_assign ?_
          simp only [qz]
          refine rg_nil (ek_next (wk_ret (ek_block_ret (ek_then_ret (ek_then_ret (ek_block_ret (ek_then_ret ?_)))))))
          refine ek_ret (fun w hw => ⟨rfl, _, res_t _ rfl, ?_⟩)
          (try simp only [qz])
          exact ⟨by rw [okB_not (z := z) (fun h => by obtain ⟨⟨h1, h2, h3, h4, h5, h6, h7, h8⟩, h9, h10, h11⟩ := h; omega)], hw.below⟩
         (try simp only [qd, ne_eq] at h9)
         simp only [qz]
         refine rg_move ?_
         simp only [qz]
         refine rg_skip Rx ?_
         simp only [qz]
         refine rg_skip Rx ?_
         simp only [qz]
         refine rf_pick rfl rfl rfl ?_
         simp only [qz]
         refine rg_nil (ek_next (wk_cond_t rfl (wk_seq ?_)))
         refine wk_region [0] rfl Kx ?_
         simp only [qy]
         refine rg_assign ?_
         simp only [qz]
         refine rg_nil (ek_next (wk_ret (ek_block_ret (ek_then_ret (ek_then_ret (ek_block_ret (ek_then_ret ?_)))))))
         refine ek_ret (fun w hw => ⟨rfl, _, res_t _ rfl, ?_⟩)
         (try simp only [qz])
         exact ⟨by rw [okB_not (z := z) (fun h => by obtain ⟨⟨h1, h2, h3, h4, h5, h6, h7, h8⟩, h9, h10, h11⟩ := h; omega)], hw.below⟩
        (try simp only [qd, ne_eq] at h8)
        simp only [qz]
        refine rf_pick rfl rfl rfl ?_
        simp only [qz]
        refine rg_nil (ek_next (wk_cond_t rfl (wk_seq ?_)))
        refine wk_region [0] rfl Kx ?_
        simp only [qy]
        refine rg_assign ?_
        simp only [qz]
        refine rg_nil (ek_next (wk_ret (ek_block_ret (ek_then_ret (ek_then_ret (ek_block_ret (ek_then_ret ?_)))))))
        refine ek_ret (fun w hw => ⟨rfl, _, res_t _ rfl, ?_⟩)
        (try simp only [qz])
        exact ⟨by rw [okB_not (z := z) (fun h => by obtain ⟨⟨h1, h2, h3, h4, h5, h6, h7, h8⟩, h9, h10, h11⟩ := h; omega)], hw.below⟩
       (try simp only [qd, ne_eq] at h7)
       simp only [qz]
       refine rg_move ?_
       simp only [qz]
       refine rg_skip Rx ?_
       simp only [qz]
       refine rg_skip Rx ?_
       simp only [qz]
       refine rf_pick rfl rfl rfl ?_
       simp only [qz]
       refine rg_nil (ek_next (wk_cond_t rfl (wk_seq ?_)))
       refine wk_region [0] rfl Kx ?_
       simp only [qy]
       refine rg_assign ?_
       simp only [qz]
       refine rg_nil (ek_next (wk_ret (ek_block_ret (ek_then_ret (ek_then_ret (ek_block_ret (ek_then_ret ?_)))))))
       refine ek_ret (fun w hw => ⟨rfl, _, res_t _ rfl, ?_⟩)
       (try simp only [qz])
       exact ⟨by rw [okB_not (z := z) (fun h => by obtain ⟨⟨h1, h2, h3, h4, h5, h6, h7, h8⟩, h9, h10, h11⟩ := h; omega)], hw.below⟩
      (try simp only [qd, ne_eq] at h6)
      simp only [qz]
      refine rf_pick rfl rfl rfl ?_
      simp only [qz]
      refine rg_nil (ek_next (wk_cond_t rfl (wk_seq ?_)))
      refine wk_region [0] rfl Kx ?_
      simp only [qy]
      refine rg_assign ?_
      simp only [qz]
      refine rg_nil (ek_next (wk_ret (ek_block_ret (ek_then_ret (ek_then_ret (ek_block_ret (ek_then_ret ?_)))))))
      refine ek_ret (fun w hw => ⟨rfl, _, res_t _ rfl, ?_⟩)
      (try simp only [qz])
      exact ⟨by rw [okB_not (z := z) (fun h => by obtain ⟨⟨h1, h2, h3, h4, h5, h6, h7, h8⟩, h9, h10, h11⟩ := h; omega)], hw.below⟩
     (try simp only [qd, ne_eq] at h5)
     simp only [qz]
     refine rg_move ?_
     simp only [qz]
     refine rg_skip Rx ?_
     simp only [qz]
     refine rg_skip Rx ?_
     simp only [qz]
     refine rf_pick rfl rfl rfl ?_
     simp only [qz]
     refine rg_nil (ek_next (wk_cond_t rfl (wk_seq ?_)))
     refine wk_region [0] rfl Kx ?_
     simp only [qy]
     refine rg_assign ?_
     simp only [qz]
     refine rg_nil (ek_next (wk_ret (ek_block_ret (ek_then_ret (ek_then_ret (ek_block_ret (ek_then_ret ?_)))))))
     refine ek_ret (fun w hw => ⟨rfl, _, res_t _ rfl, ?_⟩)
     (try simp only [qz])
     exact ⟨by rw [okB_not (z := z) (fun h => by obtain ⟨⟨h1, h2, h3, h4, h5, h6, h7, h8⟩, h9, h10, h11⟩ := h; omega)], hw.below⟩
    (try simp only [qd, ne_eq] at h4)
    simp only [qz]
    refine rf_pick rfl rfl rfl ?_
    simp only [qz]
    refine rg_nil (ek_next (wk_cond_t rfl (wk_seq ?_)))
    refine wk_region [0] rfl Kx ?_
    simp only [qy]
    refine rg_assign ?_
    simp only [qz]
    refine rg_nil (ek_next (wk_ret (ek_block_ret (ek_then_ret (ek_then_ret (ek_block_ret (ek_then_ret ?_)))))))
    refine ek_ret (fun w hw => ⟨rfl, _, res_t _ rfl, ?_⟩)
    (try simp only [qz])
    exact ⟨by rw [okB_not (z := z) (fun h => by obtain ⟨⟨h1, h2, h3, h4, h5, h6, h7, h8⟩, h9, h10, h11⟩ := h; omega)], hw.below⟩
   (try simp only [qd, ne_eq] at h3)
   simp only [qz]
   refine rg_move ?_
   simp only [qz]
   refine rg_skip Rx ?_
   simp only [qz]
   refine rg_skip Rx ?_
   simp only [qz]
   refine rf_pick rfl rfl rfl ?_
   simp only [qz]
   refine rg_nil (ek_next (wk_cond_t rfl (wk_seq ?_)))
   refine wk_region [0] rfl Kx ?_
   simp only [qy]
   refine rg_assign ?_
   simp only [qz]
   refine rg_nil (ek_next (wk_ret (ek_block_ret (ek_then_ret (ek_then_ret (ek_block_ret (ek_then_ret ?_)))))))
   refine ek_ret (fun w hw => ⟨rfl, _, res_t _ rfl, ?_⟩)
   (try simp only [qz])
   exact ⟨by rw [okB_not (z := z) (fun h => by obtain ⟨⟨h1, h2, h3, h4, h5, h6, h7, h8⟩, h9, h10, h11⟩ := h; omega)], hw.below⟩
  (try simp only [qd, ne_eq] at h2)
  simp only [qz]
  refine rf_pick rfl rfl rfl ?_
  simp only [qz]
  refine rg_nil (ek_next (wk_cond_t rfl (wk_seq ?_)))
  refine wk_region [0] rfl Kx ?_
  simp only [qy]
  refine rg_assign ?_
  simp only [qz]
  refine rg_nil (ek_next (wk_ret (ek_then_ret ?_)))
  refine ek_ret (fun w hw => ⟨rfl, _, res_t _ rfl, ?_⟩)
  (try simp only [qz])
  exact ⟨by rw [okB_not (z := z) (fun h => by obtain ⟨⟨h1, h2, h3, h4, h5, h6, h7, h8⟩, h9, h10, h11⟩ := h; omega)], hw.below⟩
 (try simp only [qd, ne_eq] at h1)
 simp only [qz]
 refine rg_move ?_
 simp only [qz]
 refine rg_skip Rx ?_
 simp only [qz]
 refine rg_skip Rx ?_
 simp only [qz]
 refine rg_skip Rx ?_
 simp only [qz]
 refine rf_pick rfl rfl rfl ?_
 simp only [qz]
 refine rg_nil (ek_next (wk_cond_t rfl (wk_seq ?_)))
 refine wk_region [0] rfl Kx ?_
 simp only [qy]
 refine rg_assign ?_
 simp only [qz]
 refine rg_nil (ek_next (wk_ret (ek_then_ret ?_)))
 refine ek_ret (fun w hw => ⟨rfl, _, res_t _ rfl, ?_⟩)
 (try simp only [qz])
 exact ⟨by rw [okB_not (z := z) (fun h => by obtain ⟨⟨h1, h2, h3, h4, h5, h6, h7, h8⟩, h9, h10, h11⟩ := h; omega)], hw.below⟩
theorem atN_range {w : World} {b off : Nat} {z : Nm} (h : NmAt w b off z) : w.rangeAt b off [.int .i64 z.a, .int .i64 z.b, .int .i64 z.c, .int .i64 z.d, .int .i64 z.k] := by
 intro j v hj
 match j, hj with
 | 0, hj => injection hj with hj; subst hj; exact h.c0
 | 1, hj => injection hj with hj; subst hj; exact h.c1
 | 2, hj => injection hj with hj; subst hj; exact h.c2
 | 3, hj => injection hj with hj; subst hj; exact h.c3
 | 4, hj => injection hj with hj; subst hj; exact h.c4
 | n + 5, hj => cases hj
namespace CV
section
variable {R : Option Nat} {P : Program} {ops : Array Oper} {Q : Exit → Act → World → Prop} {B : World} {F : List Nat} {s0 : Option (List Blk × List Blk)}
variable {l : List (Oper × Nat)} {a : Act} {s : List Blk} {d : Option Tmp} {t : TypeId} {p : String} {af : Array Edge}
theorem rg_callV {fo : Operand} {f : Nat} {cargs : Array Operand} {at_ : Array TypeId} {caps vs : Array Value} {v : Value} {gd : Option (Nat × Bool)} (hg : Region.wanted ⟨d, .call ⟨.value fo, cargs, at_⟩, t, p, af, gd⟩ (yielded ops a.tmps) = true)
    (hf : a.eval fo = .func (.func f) #[] caps) (hgo : isGo P f = true) (hargs : cargs.map a.eval = vs)
    (h : ∀ w, Kn B F s w → Calls P f (vs ++ caps) w (fun e w' => e = .returned v ∧ Below w.heap.size w w'))
    (hz : ∀ z ∈ s0, z.1.Sublist s) (k : Rg R P ops Q B F s0 l (a.put d v) s) :
    Rg R P ops Q B F s0 ((⟨d, .call ⟨.value fo, cargs, at_⟩, t, p, af, gd⟩, 1) :: l) a s := by
  refine .inl fun w K => ?_
  unfold hop
  rw [if_pos hg]
  unfold Oper.wp
  have hr : (execOp a.eval ⟨d, .call ⟨.value fo, cargs, at_⟩, t, p, af, gd⟩).run P w = .ok (.enter f (vs ++ caps)) w := by
    have hx : execOp a.eval ⟨d, .call ⟨.value fo, cargs, at_⟩, t, p, af, gd⟩ = (do let d ← resolve a.eval ⟨.value fo, cargs, at_⟩ t; invoke d.target d.args) := rfl
    have hv : (resolve a.eval ⟨.value fo, cargs, at_⟩ t) = pure { target := .fn (.func f) caps, args := #[] ++ vs } := by
      simp only [resolve, hf, hargs, Deferred.ofValue]
    rw [hx, hv]
    have : (#[] ++ vs : Array Value) = vs := by simp
    rw [this]
    exact run_callFunc_go hgo _ w
  rw [hr]
  refine (h w K).mono fun e w' ⟨he, hb⟩ => ?_
  subst he
  exact ⟨s, K.call hb, hz, k⟩
theorem rg_callVb {fo : Operand} {f : Nat} {cargs : Array Operand} {at_ : Array TypeId} {caps vs : Array Value} {b : Bool} {gd : Option (Nat × Bool)} (hg : Region.wanted ⟨d, .call ⟨.value fo, cargs, at_⟩, t, p, af, gd⟩ (yielded ops a.tmps) = true)
    (hf : a.eval fo = .func (.func f) #[] caps) (hgo : isGo P f = true) (hargs : cargs.map a.eval = vs)
    (h : ∀ w, Kn B F s w → Calls P f (vs ++ caps) w (fun e w' => e = .returned (.bool b) ∧ Below w.heap.size w w'))
    (hz : ∀ z ∈ s0, z.1.Sublist s) (k : ∀ x, b = x → Rg R P ops Q B F s0 l (a.put d (.bool x)) s) :
    Rg R P ops Q B F s0 ((⟨d, .call ⟨.value fo, cargs, at_⟩, t, p, af, gd⟩, 1) :: l) a s := rg_callV hg hf hgo hargs h hz (k b rfl)
end
end CV
theorem and7 (x : Int) : bits .and .i64 x 7 = x % 8 := by
 show IntKind.i64.wrap ((BitVec.ofInt 64 x &&& BitVec.ofInt 64 7).toNat : Int) = _
 have h1 : (BitVec.ofInt 64 (7 : Int)).toNat = 2 ^ 3 - 1 := by decide
 rw [BitVec.toNat_and, h1, Nat.and_two_pow_sub_one_eq_mod, BitVec.toNat_ofInt, IntKind.wrap_i64]
 omega
def Nm.turn : Nat → Nm → Nm
  | 0, z => z
  | n + 1, z => (Nm.turn n z).rot
theorem turn_ok {z : Nm} (h : z.Ok) : ∀ n, (Nm.turn n z).Ok
  | 0 => h
  | n + 1 => rot_ok (turn_ok h n)
theorem amchanged_ok (z r : Nm) (hz : z.Ok) (f : Nat) (caps : Array Value) (hgo : isGo Try.prog f = true) (w : World) (hf : ∀ w', Below w.heap.size w w' → Calls Try.prog f (#[nmV z] ++ caps) w' fun e w'' => e = .returned (nmV r) ∧ Below w'.heap.size w' w'') : Calls Try.prog 122 #[nmV z, .func (.func f) #[] caps] w fun e w' => e = .returned (.tuple #[nmV r, .int .i64 0]) ∧ Below w.heap.size w w' := by
 go_enter Try.func122, Try.ntmps122
 refine wk_start ?_
 refine wk_seq ?_
 refine wk_region [1, 1, 0] rfl Kx ?_
 simp only [qy]
 refine Rgn fun g1 => ?_
 simp only [qz]
 refine Rgn fun g2 => ?_
 simp only [qz]
 refine rg_assign ?_
 simp only [qz]
 refine rg_nil (ek_next (wk_seq (wk_seq ?_)))
 refine wk_region [0, 1, 0] rfl Kx ?_
 simp only [qy]
 refine rf_loadR (n := 5) rfl rfl rfl Try.underlying29 rfl Kx (fun w hw => Kn.hd0 (Kn.tl hw)) rfl rfl ?_
 simp only [qz]
 apply rg_pure Rx Kx
 case hargs => exact Ax
 case h => exact fun w hw => by have := amvalid_any z w; rw [okB_yes hz] at this; exact this
 case hz => exact Nz
 simp only [qz]
 refine rf_not rfl rfl rfl ?_
 simp only [qz]
 refine rg_nil (ek_next (wk_cond_f rfl (wk_skip (ek_next (wk_seq ?_)))))
 refine wk_region [0, 0, 1, 1, 0] rfl Kx ?_
 simp only [qy]
 refine rg_move ?_
 simp only [qz]
 refine rf_loadR (n := 5) rfl rfl rfl Try.underlying29 rfl Kx (fun w hw => Kn.hd0 (Kn.tl hw)) rfl rfl ?_
 simp only [qz]
 refine CV.rg_callV (caps := caps) (vs := #[nmV z]) (v := nmV r) Rx rfl hgo (by simp only [qm, qs, Act.eval]) (fun w hw => hf w hw.below) Nz ?_
 simp only [qz]
 refine rf_storeR (n := 5) rfl rfl Kx rfl rfl (UpdR.here _ _ _ Nl) Nz ?_
 simp only [qz, Nat.reduceAdd]
 refine rg_assign ?_
 simp only [qz]
 refine rg_nil (ek_next (wk_ret ?_))
 refine ek_ret (fun w hw => ⟨rfl, _, run_results2 rfl rfl (Kn.hd0 hw) Try.underlying29 rfl Kx, ?_⟩)
 (try simp only [qz])
 first | exact ⟨rfl, hw.below⟩ | exact ⟨trivial, hw.below⟩ | exact hw.below
section
variable {R : Option Nat} {P : Program} {ops : Array Oper} {Q : Exit → Act → World → Prop} {B : World} {F : List Nat} {s0 : Option (List Blk × List Blk)}
variable {l : List (Oper × Nat)} {a : Act} {s s' : List Blk} {d : Option Tmp} {op : Op} {t : TypeId} {p : String} {af : Array Edge} {v : Value} {gd : Option (Nat × Bool)} {m : Nat}
theorem rg_ext {f : Nat} {cargs : Array Operand} {at_ : Array TypeId} {args : Array Value} (hg : Region.wanted ⟨d, .call ⟨.value (.func f), cargs, at_⟩, t, p, af, gd⟩ (yielded ops a.tmps) = true)
    (h : ∀ w : World, (callFunc f args).run P w = .ok (.value v) w) (hargs : cargs.map a.eval = args)
    (hz : ∀ z ∈ s0, z.1.Sublist s) (k : Rg R P ops Q B F s0 l (a.put d v) s) :
    Rg R P ops Q B F s0 ((⟨d, .call ⟨.value (.func f), cargs, at_⟩, t, p, af, gd⟩, 1) :: l) a s :=
  rg_run hg fun w K => ⟨v, w, s, .inl (by
    have he : #[] ++ cargs.map a.eval ++ #[] = args := by simpa using hargs
    rw [execOp_call_go, he]
    exact h w), K, hz, k⟩
theorem rf_quo {x y : Operand} {T z : TypeId} {k : IntKind} {n q r : Int} (hm : soft03 m = true) (hg : Region.wanted ⟨d, .binOp .quo T x y z, t, p, af, gd⟩ (yielded ops a.tmps) = true)
    (hx : a.eval x = .int k n) (hy : a.eval y = .int k q) (hq : q ≠ 0) (hr : k.wrap (n.tdiv q) = r) (h : Rg R P ops Q B F s0 l (a.put d (.int k r)) s) : Rg R P ops Q B F s0 ((⟨d, .binOp .quo T x y z, t, p, af, gd⟩, m) :: l) a s := by
  refine rg_any hm hg (fun w => ?_) h
  unfold Yld
  simp [execOp, hx, hy, eqGuard, binOp, Op.intDiv, hq, hr]
theorem rf_rem {x y : Operand} {T z : TypeId} {k : IntKind} {n q r : Int} (hm : soft03 m = true) (hg : Region.wanted ⟨d, .binOp .rem T x y z, t, p, af, gd⟩ (yielded ops a.tmps) = true)
    (hx : a.eval x = .int k n) (hy : a.eval y = .int k q) (hq : q ≠ 0) (hr : n.tmod q = r) (h : Rg R P ops Q B F s0 l (a.put d (.int k r)) s) : Rg R P ops Q B F s0 ((⟨d, .binOp .rem T x y z, t, p, af, gd⟩, m) :: l) a s := by
  refine rg_any hm hg (fun w => ?_) h
  unfold Yld
  simp [execOp, hx, hy, eqGuard, binOp, Op.intDiv, hq, hr]
theorem rf_and {x y : Operand} {T z : TypeId} {k : IntKind} {n q r : Int} (hm : soft03 m = true) (hg : Region.wanted ⟨d, .binOp .and T x y z, t, p, af, gd⟩ (yielded ops a.tmps) = true)
    (hx : a.eval x = .int k n) (hy : a.eval y = .int k q) (hr : bits .and k n q = r) (h : Rg R P ops Q B F s0 l (a.put d (.int k r)) s) : Rg R P ops Q B F s0 ((⟨d, .binOp .and T x y z, t, p, af, gd⟩, m) :: l) a s := by
  refine rg_any hm hg (fun w => ?_) h
  unfold Yld
  subst hr
  simp [execOp, hx, hy, eqGuard, binOp, Op.intBits, bits]
theorem rf_or {x y : Operand} {T z : TypeId} {k : IntKind} {n q r : Int} (hm : soft03 m = true) (hg : Region.wanted ⟨d, .binOp .or T x y z, t, p, af, gd⟩ (yielded ops a.tmps) = true)
    (hx : a.eval x = .int k n) (hy : a.eval y = .int k q) (hr : bits .or k n q = r) (h : Rg R P ops Q B F s0 l (a.put d (.int k r)) s) : Rg R P ops Q B F s0 ((⟨d, .binOp .or T x y z, t, p, af, gd⟩, m) :: l) a s := by
  refine rg_any hm hg (fun w => ?_) h
  unfold Yld
  subst hr
  simp [execOp, hx, hy, eqGuard, binOp, Op.intBits, bits]
theorem rf_shrV {x y : Operand} {T z : TypeId} {k k' : IntKind} {n q e : Int} {c : Nat} (hm : soft03 m = true) (hg : Region.wanted ⟨d, .binOp .shr T x y z, t, p, af, gd⟩ (yielded ops a.tmps) = true)
    (hx : a.eval x = .int k n) (hy : a.eval y = .int k' e) (he : e = (c : Int)) (hc : c ≤ k.bits) (hq : (2 : Int) ^ c = q) (h : Rg R P ops Q B F s0 l (a.put d (.int k (n / q))) s) : Rg R P ops Q B F s0 ((⟨d, .binOp .shr T x y z, t, p, af, gd⟩, m) :: l) a s := by
  subst he
  exact rf_shr hm hg hx hy (Nat.ble_eq_true_of_le hc) hq h
theorem rf_shlV {x y : Operand} {T z : TypeId} {k k' : IntKind} {n q e r : Int} {c : Nat} (hm : soft03 m = true) (hg : Region.wanted ⟨d, .binOp .shl T x y z, t, p, af, gd⟩ (yielded ops a.tmps) = true)
    (hx : a.eval x = .int k n) (hy : a.eval y = .int k' e) (he : e = (c : Int)) (hc : c ≤ k.bits) (hq : (2 : Int) ^ c = q) (hr : k.wrap (n * q) = r) (h : Rg R P ops Q B F s0 l (a.put d (.int k r)) s) : Rg R P ops Q B F s0 ((⟨d, .binOp .shl T x y z, t, p, af, gd⟩, m) :: l) a s := by
  subst he
  exact rf_shl hm hg hx hy (Nat.ble_eq_true_of_le hc) hq hr h
end
theorem rem_ok {n q : Int} (h0 : 0 ≤ n) : n.tmod q = n % q := Int.tmod_eq_emod_of_nonneg h0
theorem and_mask (x : Int) (m : Nat) (hm : m ≤ 62) : bits .and .i64 x (2 ^ m - 1 : Nat) = x % (2 ^ m : Nat) := by
 show IntKind.i64.wrap ((BitVec.ofInt 64 x &&& BitVec.ofInt 64 ((2 ^ m - 1 : Nat) : Int)).toNat : Int) = _
 have hp : 2 ^ m ≤ 2 ^ 62 := Nat.pow_le_pow_right Ox hm
 have hp0 : 0 < 2 ^ m := Nat.two_pow_pos m
 have h1 : (BitVec.ofInt 64 ((2 ^ m - 1 : Nat) : Int)).toNat = 2 ^ m - 1 := by
  rw [BitVec.toNat_ofInt]
  have : (2 : Nat) ^ 62 = 4611686018427387904 := by decide
  omega
 rw [BitVec.toNat_and, h1, Nat.and_two_pow_sub_one_eq_mod, BitVec.toNat_ofInt, IntKind.wrap_i64]
 have h62 : (2 : Nat) ^ 62 = 4611686018427387904 := by decide
 have hd : ((2 ^ m : Nat) : Int) ∣ 18446744073709551616 := by
  have : (18446744073709551616 : Int) = ((2 ^ m * 2 ^ (64 - m) : Nat) : Int) := by rw [← Nat.pow_add, show m + (64 - m) = 64 by omega]; decide
  rw [this, Int.natCast_mul]
  exact Int.dvd_mul_right _ _
 have h2 : (((x % ((2 ^ 64 : Nat) : Int)).toNat % 2 ^ m : Nat) : Int) = x % (2 ^ m : Nat) := by
  rw [Int.natCast_emod, Int.toNat_of_nonneg (Int.emod_nonneg _ (by decide))]
  exact Int.emod_emod_of_dvd x hd
 rw [h2]
 have h3 := Int.emod_nonneg x (b := ((2 ^ m : Nat) : Int)) Ox
 have h4 := Int.emod_lt_of_pos x (b := ((2 ^ m : Nat) : Int)) Ox
 omega
end Go.Proofs.Ytjeijnjaleldkaa
