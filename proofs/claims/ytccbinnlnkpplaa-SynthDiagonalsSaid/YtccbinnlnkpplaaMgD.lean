/- Several texts in one. -/
import Derived.Test.YtccbinnlnkpplaaMgC
import Derived.Test.YtccbinnlnkpplaaMoPl
import Derived.Test.YtccbinnlnkpplaaZs
import Derived.Test.YtccbinnlnkpplaaSq
import Derived.Test.YtccbinnlnkpplaaMo1
import Derived.Test.YtccbinnlnkpplaaEqA
import Derived.Test.YtccbinnlnkpplaaXi
import Derived.Test.YtccbinnlnkpplaaMt3
import Derived.Test.YtccbinnlnkpplaaMgA
namespace Go.Proofs.Ytccbinnlnkpplaa
set_option linter.all false

theorem empD : (⟨#[]⟩ : ByteArray).toList.isEmpty = true := by
  unfold ByteArray.toList
  unfold ByteArray.toList.loop
  rfl
theorem mk_of_val {x z : Nm} (hz : z.Ok) (hx : 0 ≤ x.k) (hv : x.val = z.val) : x.mk' = .ok z := by
  have h := nf_eq hx hz.k0 (eqv_val hx hz.k0 hv)
  have h2 : z.nf = z := nf_self hz.nf
  unfold Nm.mk'
  rw [h, h2]
  rw [if_pos (small_yes hz.k1 hz.fit)]
theorem mul_of_val {x y z : Nm} (hx : x.Ok) (hy : y.Ok) (hz : z.Ok) (hv : x.val * y.val = z.val) : x.mul y = .ok z :=
  mk_of_val hz (mulR_k hx.k0 hy.k0) (by rw [val_mulR hx.k0 hy.k0]; exact hv)
theorem add_of_val {x y z : Nm} (hx : x.Ok) (hy : y.Ok) (hz : z.Ok) (hv : x.val + y.val = z.val) : x.add y = .ok z :=
  mk_of_val hz (addR_k hx.k0) (by rw [val_addR hx.k0 hy.k0]; exact hv)
/-- A sum of products of which at most the one at i is not 0. -/
theorem prodsR_one {x y : Nat → Nm} {i : Nat} {p : Nm} (hp : p.Ok) (hi : (x i).mul (y i) = .ok p) (h0 : ∀ j, j ≠ i → (x j).mul (y j) = .ok Nm.zero) : ∀ m, prodsR x y m = .ok (if i < m then p else Nm.zero)
  | 0 => by rw [if_neg (by omega)]; rfl
  | m + 1 => by
    simp only [prodsR, prodsR_one hp hi h0 m]
    by_cases h1 : m = i
    · subst h1
      rw [hi, if_neg (by omega), if_pos (by omega)]
      exact add_of_val zero_ok hp hp (by rw [val_zero, Q4.zero_add])
    · rw [h0 m h1]
      by_cases h2 : i < m
      · rw [if_pos h2, if_pos (by omega)]
        exact add_of_val hp zero_ok hp (by rw [val_zero, Q4.add_zero])
      · rw [if_neg h2, if_neg (by omega)]
        exact add_of_val zero_ok zero_ok zero_ok (by rw [val_zero, Q4.add_zero])
/-- A diagonal. -/
def dL (N : Nat) (f : Nat → Nm) : List Nm := (List.range (N * N)).map fun t => if t / N = t % N then f (t / N) else Nm.zero
theorem dL_len (N : Nat) (f : Nat → Nm) : (dL N f).length = N * N := by simp [dL]
theorem dL_nm {N : Nat} (f : Nat → Nm) {t : Nat} (h : t < N * N) : nm (dL N f) t = if t / N = t % N then f (t / N) else Nm.zero := by
  unfold dL
  show El.at NmE _ _ = _
  unfold El.at
  rw [List.getD_eq_getElem?_getD, List.getElem?_map, List.getElem?_range h]
  rfl
theorem dL_at {N : Nat} (f : Nat → Nm) {i k : Nat} (hi : i < N) (hk : k < N) : nm (dL N f) (i * N + k) = if i = k then f i else Nm.zero := by
  rw [dL_nm f (ix_lt hi hk), ix_div hk, ix_mod hk]
theorem dL_congr {N : Nat} {f g : Nat → Nm} (h : ∀ k, k < N → f k = g k) : dL N f = dL N g := by
  unfold dL
  refine List.map_congr_left fun t ht => ?_
  have ht := List.mem_range.1 ht
  split
  · exact h _ (Nat.div_lt_of_lt_mul ht)
  · rfl
theorem dL_ok {N : Nat} {f : Nat → Nm} (h : ∀ k, k < N → (f k).Ok) : allOk (dL N f) = true := by
  refine allOk_true fun t ht => okB_iff.2 ?_
  rw [dL_len] at ht
  rw [dL_nm f ht]
  split
  · exact h _ (Nat.div_lt_of_lt_mul ht)
  · exact zero_ok
theorem dL_valid {N : Nat} {f : Nat → Nm} (h1 : 1 ≤ N) (h6 : N ≤ 6) (h : ∀ k, k < N → (f k).Ok) : validB N (dL N f) = true := by
  have e : ((N * N : Nat) : Int) = (N : Int) * N := Int.natCast_mul N N
  unfold validB
  simp only [Bool.and_eq_true, decide_eq_true_eq]
  exact ⟨by omega, by omega, by rw [dL_len]; omega, dL_ok h⟩
theorem idM_dL {N : Nat} (h1 : 1 ≤ N) (h6 : N ≤ 6) : idM N = dL N fun _ => Nm.one := by
  unfold idM identR
  rw [if_pos (by omega), Int.toNat_natCast]
  have h : madeR N idR = .ok ((List.range (N * N)).map fun t => if t / N = t % N then Nm.one else Nm.zero) := gather_pure _ _
  rw [h]
  rfl
theorem dL_set {N : Nat} {f : Nat → Nm} {i : Nat} (v : Nm) (hi : i < N) : (dL N f).set (i * N + i) v = dL N fun k => if k = i then v else f k := by
  refine NmE.ext_at (by rw [List.length_set, dL_len, dL_len]) fun t ht => ?_
  rw [List.length_set, dL_len] at ht
  rw [El.at_set _ _ _ _ (by rw [dL_len]; exact ix_lt hi hi)]
  have e1 : NmE.at (dL N fun k => if k = i then v else f k) t = if t / N = t % N then (if t / N = i then v else f (t / N)) else Nm.zero := dL_nm _ ht
  have e2 : NmE.at (dL N f) t = if t / N = t % N then f (t / N) else Nm.zero := dL_nm _ ht
  rw [e1, e2]
  have hd := Nat.div_add_mod' t N
  by_cases e : t = i * N + i
  · subst e
    rw [if_pos rfl, ix_div hi, ix_mod hi, if_pos rfl, if_pos rfl]
  · rw [if_neg e]
    split
    · next h =>
      rw [if_neg]
      intro h2
      rw [← h, h2] at hd
      exact e hd.symm
    · rfl
/-- The product of two diagonals of which one is 1 at each place. -/
theorem mulM_dL {N : Nat} {g f h : Nat → Nm} (h1 : 1 ≤ N) (h6 : N ≤ 6) (hg : ∀ k, k < N → (g k).Ok) (hf : ∀ k, k < N → (f k).Ok) (hh : ∀ k, k < N → (h k).Ok ∧ (g k).val * (f k).val = (h k).val) : mulM N N (dL N g) (dL N f) = .ok (dL N h) := by
  unfold mulM
  rw [dL_valid h1 h6 hg, dL_valid h1 h6 hf, Bool.and_self, if_pos rfl, if_pos rfl, Int.toNat_natCast]
  have e : madeR N (mulF N (dL N g) (dL N f)) = madeR N fun i k => .ok (if i = k then h i else Nm.zero) := by
    refine made_congr fun i k hi hk => ?_
    unfold mulF
    have hx : ∀ j, j < N → nm (dL N g) (i * N + j) = if i = j then g i else Nm.zero := fun j hj => dL_at g hi hj
    have hy : ∀ j, j < N → nm (dL N f) (j * N + k) = if j = k then f j else Nm.zero := fun j hj => dL_at f hj hk
    have ok1 : ∀ j, ((if i = j then g i else Nm.zero) : Nm).Ok := fun j => by split; exact hg i hi; exact zero_ok
    have ok2 : ∀ j, j < N → ((if j = k then f j else Nm.zero) : Nm).Ok := fun j hj => by split; exact hf j hj; exact zero_ok
    have e1 : ∀ m, m ≤ N → prodsR (fun j => nm (dL N g) (i * N + j)) (fun j => nm (dL N f) (j * N + k)) m = prodsR (fun j => if i = j then g i else Nm.zero) (fun j => if j < N then (if j = k then f j else Nm.zero) else Nm.zero) m := by
      intro m
      induction m with
      | zero => intro _; rfl
      | succ m ih =>
        intro hm
        simp only [prodsR, ih (by omega)]
        rw [hx m (by omega), hy m (by omega), if_pos (show m < N by omega)]
    rw [e1 N (Nat.le_refl _)]
    have hp : ((if i = k then h i else Nm.zero) : Nm).Ok := by split; exact (hh i hi).1; exact zero_ok
    have := prodsR_one (x := fun j => if i = j then g i else Nm.zero) (y := fun j => if j < N then (if j = k then f j else Nm.zero) else Nm.zero) (i := i) (p := if i = k then h i else Nm.zero) hp ?_ ?_ N
    · rw [this, if_pos hi]
    · show Nm.mul (if i = i then g i else Nm.zero) (if i < N then (if i = k then f i else Nm.zero) else Nm.zero) = _
      rw [if_pos rfl, if_pos hi]
      by_cases hik : i = k
      · rw [if_pos hik, if_pos hik]
        exact mul_of_val (hg i hi) (hf i hi) (hh i hi).1 (hh i hi).2
      · rw [if_neg hik, if_neg hik]
        exact mul_of_val (hg i hi) zero_ok zero_ok (by rw [val_zero, Q4.mul_zero])
    · intro j hj
      show Nm.mul (if i = j then g i else Nm.zero) (if j < N then (if j = k then f j else Nm.zero) else Nm.zero) = _
      rw [if_neg (fun h => hj h.symm)]
      by_cases hjN : j < N
      · rw [if_pos hjN]
        exact mul_of_val zero_ok (ok2 j hjN) zero_ok (by rw [val_zero, Q4.zero_mul])
      · rw [if_neg hjN]
        exact mul_of_val zero_ok zero_ok zero_ok (by rw [val_zero, Q4.zero_mul])
  rw [e]
  exact gather_pure _ _
theorem it_snoc_lt {L : List It} {x : It} {j : Nat} (h : j < L.length) : it (L ++ [x]) j = it L j := by
  unfold it
  rw [List.getD_eq_getElem?_getD, List.getD_eq_getElem?_getD, List.getElem?_append_left h]
theorem it_snoc (L : List It) (x : It) : it (L ++ [x]) L.length = x := by
  unfold it
  rw [List.getD_eq_getElem?_getD, List.getElem?_append_right (Nat.le_refl _)]
  simp
theorem matS_snoc {N : Nat} {L : List It} {x : It} : ∀ j, j ≤ L.length → matS N (L ++ [x]) j = matS N L j
  | 0, _ => rfl
  | j + 1, h => by
    have ih := matS_snoc (N := N) (L := L) (x := x) j (by omega)
    rw [matS, matS, ih, it_snoc_lt (by omega)]
/-- The diagonal after the first i guides. -/
def dv (xs : List Int) (i k : Nat) : Nm := if k < i then Nm.turn (ix xs k).toNat Nm.one else Nm.one
theorem dv_ok (xs : List Int) (i k : Nat) : (dv xs i k).Ok := by
  unfold dv
  split
  · exact turn_ok one_ok _
  · exact one_ok
theorem itL_phs {N i : Nat} {n : Int} (h1 : 1 ≤ N) (h6 : N ≤ 6) (hi : i < N) (hn : 0 ≤ n ∧ n ≤ 7) : itL N (phsI ((i : Int) + 1) n) = dL N fun k => if k = i then Nm.turn n.toNat Nm.one else Nm.one := by
  have e1 : ownN (phsI ((i : Int) + 1) n) = 1 := rfl
  have e2 : ownL (phsI ((i : Int) + 1) n) = [Nm.turn (n % 8).toNat Nm.one] := rfl
  have e3 : ((phsI ((i : Int) + 1) n).at_ - 1).toNat = i := by show ((i : Int) + 1 - 1).toNat = i; omega
  have e4 : (n % 8).toNat = n.toNat := by omega
  unfold itL plcL
  rw [e1, e2, e3, e4]
  show (idM N).set ((i + 0 / 1) * N + i + 0 % 1) _ = _
  rw [idM_dL h1 h6, Nat.zero_div, Nat.add_zero]
  exact dL_set _ hi
theorem dg_mat {xs : List Int} (h1 : 1 ≤ xs.length) (h6 : xs.length ≤ 6) (ht : trnB xs = true) : ∀ i, i ≤ xs.length → matS xs.length (dgS xs i) (dgS xs i).length = .ok (dL xs.length (dv xs i))
  | 0, _ => by
    show Except.ok (idM _) = _
    rw [idM_dL h1 h6]
    exact congrArg _ (dL_congr fun k _ => (if_neg (by omega)).symm)
  | i + 1, hi => by
    have ih := dg_mat h1 h6 ht i (by omega)
    have hx := trn_at ht (show i < xs.length by omega)
    rw [dgS]
    by_cases h0 : 0 < ix xs i
    · rw [if_pos h0, List.length_append]
      show matS _ _ ((dgS xs i).length + 1) = _
      rw [matS, matS_snoc _ (Nat.le_refl _), ih, it_snoc, itL_phs h1 h6 (by omega) hx]
      refine mulM_dL h1 h6 (fun k _ => by split; exact turn_ok one_ok _; exact one_ok) (fun k _ => dv_ok xs i k) fun k hk => ⟨dv_ok xs (i + 1) k, ?_⟩
      unfold dv
      by_cases hki : k = i
      · subst hki
        rw [if_pos rfl, if_neg (by omega), if_pos (by omega), val_one, Q4.mul_one]
      · rw [if_neg hki, val_one, Q4.one_mul]
        by_cases hlt : k < i
        · rw [if_pos hlt, if_pos (by omega)]
        · rw [if_neg hlt, if_neg (by omega)]
    · rw [if_neg h0, ih]
      refine congrArg _ (dL_congr fun k hk => ?_)
      unfold dv
      by_cases hki : k = i
      · subst hki
        rw [if_neg (by omega), if_pos (by omega), show (ix xs k).toNat = 0 by omega]
        rfl
      · by_cases hlt : k < i
        · rw [if_pos hlt, if_pos (by omega)]
        · rw [if_neg hlt, if_neg (by omega)]
theorem dg_fit {xs : List Int} (ht : trnB xs = true) : ∀ i, i ≤ xs.length → ∀ x ∈ dgS xs i, fitB xs.length x = true
  | 0, _, x, hx => by simp [dgS] at hx
  | i + 1, hi, x, hx => by
    have h7 := trn_at ht (show i < xs.length by omega)
    rw [dgS] at hx
    split at hx
    · rcases List.mem_append.1 hx with hx | hx
      · exact dg_fit ht i (by omega) x hx
      · simp at hx
        subst hx
        have hw : wd (phsI ((i : Int) + 1) (ix xs i)) = 1 := by
          unfold wd phsI
          rw [if_pos rfl, if_pos ⟨by show 1 ≤ ix xs i; omega, h7.2, empD⟩]
        exact fitB_true ⟨by rw [hw]; decide, by show (1 : Int) ≤ (i : Int) + 1; omega, by rw [hw]; show (i : Int) + 1 ≤ _; omega⟩
    · exact dg_fit ht i (by omega) x hx
theorem dg_matO {xs : List Int} (h1 : 1 ≤ xs.length) (h6 : xs.length ≤ 6) (ht : trnB xs = true) : matO xs.length (dgS xs xs.length) = .ok (dL xs.length (dv xs xs.length)) := by
  have hlen := dgS_len xs xs.length
  have hv : validI xs.length (dgS xs xs.length) = true := validI_true (by omega) (by omega) (by omega) (List.all_eq_true.2 fun x hx => dg_fit ht _ (Nat.le_refl _) x hx)
  unfold matO
  rw [if_pos (by unfold itemE; rw [if_pos (by omega), if_pos hv]), Int.toNat_natCast]
  exact dg_mat h1 h6 ht _ (Nat.le_refl _)

/-! ### As a monomial matrix -/
theorem tI_turn {t : Nat} (h : t < 8) : tI (Nm.turn t Nm.one) = t := by
  unfold tI
  rw [(turnIx_iff _ t h).2 rfl]
theorem turn_ne0 : ∀ t, t < 8 → Nm.turn t Nm.one ≠ Nm.zero := by decide
theorem dg_col {N : Nat} {f : Nat → Nm} {k : Nat} (hk : k < N) (hf : f k ≠ Nm.zero) : ∀ i, i ≤ N → colT (dL N f) N k i = if k < i then (k, tI (f k), 1) else (0, 0, 0)
  | 0, _ => by rw [if_neg (by omega)]; rfl
  | i + 1, hi => by
    have ih := dg_col hk hf i (by omega)
    have he := dL_at f (show i < N by omega) hk
    by_cases hik : i = k
    · subst hik
      rw [if_pos rfl] at he
      rw [if_neg (by omega)] at ih
      rw [colT_s ih (by rw [he]; exact hf), he, if_pos (by omega)]
    · rw [if_neg hik] at he
      by_cases h2 : k < i
      · rw [if_pos h2] at ih
        rw [colT_z ih he, if_pos (by omega)]
      · rw [if_neg h2] at ih
        rw [colT_z ih he, if_neg (by omega)]
def usd (N k : Nat) : List Bool := List.replicate k true ++ List.replicate (N - k) false
theorem usd_bx {N k : Nat} (h : k < N) : bx (usd N k) k = false := by
  unfold bx usd
  rw [List.getD_eq_getElem?_getD, List.getElem?_append_right (by simp)]
  simp only [List.length_replicate, Nat.sub_self, List.getElem?_replicate]
  split <;> rfl
theorem usd_set {N k : Nat} (h : k < N) : (usd N k).set k true = usd N (k + 1) := by
  unfold usd
  rw [List.set_append_right _ _ (by simp), List.length_replicate, Nat.sub_self]
  obtain ⟨m, hm⟩ : ∃ m, N - k = m + 1 := ⟨N - k - 1, by omega⟩
  rw [hm, List.replicate_succ, List.set_cons_zero, show N - (k + 1) = m by omega, List.replicate_succ', List.append_assoc]
  rfl
theorem dg_mon {N : Nat} {f : Nat → Nm} {s : Nat → Int} (hf : ∀ k, k < N → f k ≠ Nm.zero ∧ tI (f k) = s k ∧ 0 ≤ s k) : ∀ k, k ≤ N → monS (dL N f) N k = some ((List.range k).map (fun j : Nat => (j : Int)), (List.range k).map s, usd N k)
  | 0, _ => by unfold usd; rfl
  | k + 1, hk => by
    have ih := dg_mon hf k (by omega)
    obtain ⟨h1, h2, h3⟩ := hf k (by omega)
    have hc := dg_col (f := f) (show k < N by omega) h1 N (Nat.le_refl _)
    rw [if_pos (by omega), h2] at hc
    have hg := colG_yes (ub := usd N k) hc rfl h3 (usd_bx (by omega))
    rw [monS_yes ih hg, usd_set (by omega), List.range_succ, List.map_append, List.map_append]
    rfl
theorem dg_monomial {xs : List Int} (h1 : 1 ≤ xs.length) (h6 : xs.length ≤ 6) (ht : trnB xs = true) :
    monP xs.length (dL xs.length (dv xs xs.length)) = (List.range xs.length).map (fun j : Nat => (j : Int)) ∧ monU xs.length (dL xs.length (dv xs xs.length)) = xs ∧ monB xs.length (dL xs.length (dv xs xs.length)) = true ∧ monE xs.length (dL xs.length (dv xs xs.length)) = 0 := by
  have hv := dL_valid h1 h6 (fun k (_ : k < xs.length) => dv_ok xs xs.length k)
  have hm := dg_mon (N := xs.length) (f := dv xs xs.length) (s := ix xs) (fun k hk => by
    have h7 := trn_at ht hk
    unfold dv
    rw [if_pos hk]
    exact ⟨turn_ne0 _ (by omega), by rw [tI_turn (by omega)]; omega, h7.1⟩) xs.length (Nat.le_refl _)
  have hxs : (List.range xs.length).map (ix xs) = xs := by
    refine List.ext_getElem (by simp) fun j g1 g2 => ?_
    simp only [List.getElem_map, List.getElem_range]
    unfold ix
    rw [List.getD_eq_getElem?_getD, List.getElem?_eq_getElem g2]
    rfl
  rw [hxs] at hm
  unfold monP monU monB monE
  rw [hv, Int.toNat_natCast, hm]
  exact ⟨rfl, rfl, rfl, rfl⟩
end Go.Proofs.Ytccbinnlnkpplaa
namespace Go.Proofs.Ytccbinnlnkpplaa
set_option linter.all false
open Go.RowKit

theorem Rep.toUpdB {g i t : Nat} {v : Value} {cs : Array Value} {s s' : List Blk} (h : Rep g (.cells cs t) (.cells (cs.setIfInBounds i v) t) s s') : Upd g i v s s' := by
  generalize ho : Obj.cells cs t = o at h
  generalize ho' : Obj.cells (cs.setIfInBounds i v) t = o' at h
  induction h with
  | here s => subst ho ho'; exact Upd.here t cs s
  | there b _ ih => exact .there b ih
abbrev boL (l : List Bool) : List Value := l.map .bool
theorem boInf : (Try.prog.info? 4).map (fun i => (i.zero, i.size, i.bytes)) = some (some (.bool false), 1, 1) := by kernel_rfl
theorem made_boL (n : Nat) : madeCells #[Value.bool false] n = (boL (List.replicate n false)).toArray := by
  unfold madeCells
  apply Array.ext'
  simp only [Array.toList_map, Array.toList_range]
  apply List.ext_getElem
  · simp
  · intro i h1 h2
    simp [Nat.mod_one]
theorem boL_cell {w : World} {g e : Nat} {l : List Bool} (h : Hd w g e (boL l).toArray) {i : Nat} (hi : i < l.length) : w.cell? ⟨g, i, none⟩ = some (.bool (bx l i)) := by
  rw [h.cell]
  simp [bx, hi]
theorem set_boL (l : List Bool) (i : Nat) (x : Bool) : (boL l).toArray.setIfInBounds i (.bool x) = (boL (l.set i x)).toArray := by
  simp [List.map_set]
theorem OwnZ.nil : OwnZ [] (.slice none 0 0) [] := Own.nil _ _
theorem res_tttt {P : Program} {fn : Func} {tmps : Array Value} {w : World} (k j i m : Nat) (h : fn.results = #[.tmp k, .tmp j, .tmp i, .tmp m]) : (results fn tmps).run P w = .ok (.tuple #[tmps.getD k undef, tmps.getD j undef, tmps.getD i undef, tmps.getD m undef]) w := by
  simp [results, h]
/-- Two lists, whether, and an error. -/
def RetMo (w : World) (p t : List Int) (ok : Bool) (c : Int) (e : Ending) (w' : World) : Prop :=
  ∃ v1 v2 u1 u2, e = .returned (.tuple #[v1, v2, .bool ok, .int .i64 c]) ∧ OwnZ u1 v1 p ∧ OwnZ u2 v2 t ∧ Made w (u1 ++ u2) w'
section
variable {R : Option Nat} {ops : Array Oper} {Q : Exit → Act → World → Prop} {B : World} {F : List Nat} {s0 : Option (List Blk × List Blk)}
variable {l : List (Oper × Nat)} {a : Act} {s S : List Blk} {d : Option Tmp} {op : Op} {t : TypeId} {p : String} {af : Array Edge} {v : Value}
theorem rg_makeB {lo co : Operand} {n : Nat} {gd : Option (Nat × Bool)} (hg : Region.wanted ⟨d, .makeSlice 94 lo co, t, p, af, gd⟩ (yielded ops a.tmps) = true) (hl : a.eval lo = .int .i64 n) (hc : a.eval co = .int .i64 n) (hn : n ≤ 1000000)
    (hzz : ∀ z ∈ s0, z.1.Sublist s) (h : ∀ g, Rg R Try.prog ops Q B F s0 l (a.put d (.slice (some ⟨g, 0, none⟩) n n)) ((g, .cells (boL (List.replicate n false)).toArray 4) :: s)) :
    Rg R Try.prog ops Q B F s0 ((⟨d, .makeSlice 94 lo co, t, p, af, gd⟩, 1) :: l) a s := by
  obtain ⟨i, hi, hz, hs, hb⟩ := info_partsN boInf
  refine rg_make (i := i) (z := .bool false) (n := n) hg Try.underlying94 hi hz hl hc (by rw [hb]; omega) (by omega) hzz fun g => ?_
  have : madeCells (Value.bool false).cells (n * i.size) = (boL (List.replicate n false)).toArray := by rw [hs, Nat.mul_one]; exact made_boL n
  rw [this]
  exact h g
theorem rg_appZ {so xo : Operand} {u S : List Blk} {xs : List Int} {g1 : Nat} {x : Int} {gd : Option (Nat × Bool)} (hg : Region.wanted ⟨d, .call ⟨.builtin .append, #[so, xo], #[22, 22]⟩, t, p, af, gd⟩ (yielded ops a.tmps) = true) (hs : a.eval so = v) (hown : OwnZ u v xs) (hx : a.eval xo = .slice (some ⟨g1, 0, none⟩) 1 1) (hn : xs.length ≤ 1000000)
    (hp : S.Perm (u ++ ((g1, .cells #[.int .i64 x] 3) :: s)))
    (hzz : ∀ z ∈ s0, z.1.Sublist s) (h : ∀ u' a' c', OwnZ u' (.slice a' (xs ++ [x]).length c') (xs ++ [x]) → Rg R Try.prog ops Q B F s0 l (a.put d (.slice a' (xs ++ [x]).length c')) (u' ++ s)) :
    Rg R Try.prog ops Q B F s0 ((⟨d, .call ⟨.builtin .append, #[so, xo], #[22, 22]⟩, t, p, af, gd⟩, 1) :: l) a S := by
  obtain ⟨i, hi, hz, hsz, hb⟩ := info_partsN zInfo
  refine rg_append (u := u) (s := (g1, .cells #[.int .i64 x] 3) :: s) (i := i) (z := .int .i64 0) (size := 1) (bytes := 8) (n := xs.length) (m := 1) (c := 1) (xs := zs xs) (news := [.int .i64 x]) (ad := ⟨g1, 0, none⟩) hg
    Try.underlying22 hi hz hsz hb rfl (by decide) hs hown hx (by rfl) ?_ (by simp [Value.oneCell']) (by simp only [maxLen]; omega) (by omega) hp (fun z hz => (hzz z hz).cons _) ?_
  · intro w K j y hj
    have hd := (Kn.hd0 (Kn.perm K (hp.trans List.perm_middle))).cell
    match j, hj with
    | 0, hj => simp only [List.getElem?_cons_zero, Option.some.injEq] at hj; subst hj; exact hd 0
    | j + 1, hj => simp at hj
  · intro u' v' hO _
    have hO' : OwnZ u' v' (xs ++ [x]) := by
      have e : zs (xs ++ [x]) = zs xs ++ [.int .i64 x] := by simp
      unfold OwnZ
      rw [e, List.length_append]
      exact hO
    obtain ⟨a', c', rfl, -⟩ := Own.val hO'
    have := h u' a' c' hO'
    exact rg_sub (List.Sublist.append_left (List.Sublist.cons _ (List.Sublist.refl _)) _) (fun z hz' => (hzz z hz').trans (List.sublist_append_right _ _)) this
theorem rf_storeB {s' : List Blk} {x y : Operand} {g i : Nat} {zs : List Bool} {z : Bool} (hx : a.eval x = .pointer (some ⟨g, i, none⟩)) (hy : a.eval y = .bool z) (hi : i < zs.length)
    (hr : Rep g (.cells (boL zs).toArray 4) (.cells (boL (zs.set i z)).toArray 4) s s') (hz : ∀ z ∈ s0, z.1.Sublist s') (h : Rg R Try.prog ops Q B F s0 l (a.put d undef) s') :
    Rg R Try.prog ops Q B F s0 ((⟨d, .store 4 x y, t, p, af, none⟩, 1) :: l) a s := by
  rw [← set_boL] at hr
  refine rg_store (fun w K => ⟨w.setCell ⟨g, i, none⟩ (.bool z), ?_, K.set hr.toUpdB⟩) hz h
  exact run_store1 hx hy (by kernel_rfl) rfl rfl (there_of (K.hd hr.mem) (by simp; omega))
/-- A call that hands back two lists. -/
theorem rg_retMo {f : Nat} {cargs : Array Operand} {at_ : Array TypeId} {args : Array Value} {c : Int} {ok : Bool} {xp xt : List Int} {P : Program} {gd : Option (Nat × Bool)} (hg : Region.wanted ⟨d, .call ⟨.value (.func f), cargs, at_⟩, t, p, af, gd⟩ (yielded ops a.tmps) = true) (hgo : isGo P f = true)
    (h : ∀ w, Kn B F s w → Calls P f args w (RetMo w xp xt ok c)) (hargs : cargs.map a.eval = args)
    (hz : ∀ z ∈ s0, z.1.Sublist s) (k : ∀ (va vb : Option Addr) (vc vd : Nat) (u1 u2 : List Blk), OwnZ u1 (.slice va xp.length vc) xp → OwnZ u2 (.slice vb xt.length vd) xt → Rg R P ops Q B F s0 l (a.put d (.tuple #[.slice va xp.length vc, .slice vb xt.length vd, .bool ok, .int .i64 c])) (u1 ++ (u2 ++ s))) :
    Rg R P ops Q B F s0 ((⟨d, .call ⟨.value (.func f), cargs, at_⟩, t, p, af, gd⟩, 1) :: l) a s :=
  rg_call hg hgo hargs fun w K => (h w K).mono fun e w' ⟨v1, v2, u1, u2, he, hO1, hO2, hm⟩ => by
    obtain ⟨a', c', rfl, -⟩ := Own.val hO1
    obtain ⟨b', d', rfl, -⟩ := Own.val hO2
    refine ⟨_, u1 ++ (u2 ++ s), he, ?_, fun z hz' => (hz z hz').trans (List.Sublist.trans (List.sublist_append_right _ _) (List.sublist_append_right _ _)), k a' b' c' d' u1 u2 hO1 hO2⟩
    have := K.add hm
    rwa [List.append_assoc] at this
end
end Go.Proofs.Ytccbinnlnkpplaa
namespace Go.Proofs.Ytccbinnlnkpplaa
set_option linter.all false
open Go.RowKit

def tV (z : Nm) : Int := match turnIx z with
  | some t => t
  | none => 0
def tB (z : Nm) : Bool := (turnIx z).isSome
theorem tV_some {z : Nm} {t : Nat} (h : turnIx z = some t) : tV z = t ∧ tB z = true := by
  unfold tV tB; rw [h]; exact ⟨rfl, rfl⟩
theorem tn0 {z : Nm} (h : ¬ (z.k = 0 ∧ (z.a = z.a ∧ z.b = 0 ∧ z.c = 0 ∧ z.d = 0) ∧ (z.a = 1 ∨ z.a = -1))) : turnIx z ≠ some 0 ∧ turnIx z ≠ some 4 := by
  constructor
  · intro e
    have := (turnIx_iff z 0 (by decide)).1 e
    subst this; exact h (by decide)
  intro e
  have := (turnIx_iff z 4 (by decide)).1 e
  subst this; exact h (by decide)
theorem ty0 {z : Nm} (hk : z.k = 0) (h : z.a = z.a ∧ z.b = 0 ∧ z.c = 0 ∧ z.d = 0) : (z.a = 1 → tV z = 0 ∧ tB z = true) ∧ (z.a = -1 → tV z = 4 ∧ tB z = true) := by
  obtain ⟨a, b, c, d, k⟩ := z
  simp only at hk h
  constructor
  · intro h1; simp only at h1; simp_all; decide
  intro h1; simp only at h1; simp_all; decide
theorem tn1 {z : Nm} (h : ¬ (z.k = 0 ∧ (z.a = 0 ∧ z.b = z.b ∧ z.c = 0 ∧ z.d = 0) ∧ (z.b = 1 ∨ z.b = -1))) : turnIx z ≠ some 1 ∧ turnIx z ≠ some 5 := by
  constructor
  · intro e
    have := (turnIx_iff z 1 (by decide)).1 e
    subst this; exact h (by decide)
  intro e
  have := (turnIx_iff z 5 (by decide)).1 e
  subst this; exact h (by decide)
theorem ty1 {z : Nm} (hk : z.k = 0) (h : z.a = 0 ∧ z.b = z.b ∧ z.c = 0 ∧ z.d = 0) : (z.b = 1 → tV z = 1 ∧ tB z = true) ∧ (z.b = -1 → tV z = 5 ∧ tB z = true) := by
  obtain ⟨a, b, c, d, k⟩ := z
  simp only at hk h
  constructor
  · intro h1; simp only at h1; simp_all; decide
  intro h1; simp only at h1; simp_all; decide
theorem tn2 {z : Nm} (h : ¬ (z.k = 0 ∧ (z.a = 0 ∧ z.b = 0 ∧ z.c = z.c ∧ z.d = 0) ∧ (z.c = 1 ∨ z.c = -1))) : turnIx z ≠ some 2 ∧ turnIx z ≠ some 6 := by
  constructor
  · intro e
    have := (turnIx_iff z 2 (by decide)).1 e
    subst this; exact h (by decide)
  intro e
  have := (turnIx_iff z 6 (by decide)).1 e
  subst this; exact h (by decide)
theorem ty2 {z : Nm} (hk : z.k = 0) (h : z.a = 0 ∧ z.b = 0 ∧ z.c = z.c ∧ z.d = 0) : (z.c = 1 → tV z = 2 ∧ tB z = true) ∧ (z.c = -1 → tV z = 6 ∧ tB z = true) := by
  obtain ⟨a, b, c, d, k⟩ := z
  simp only at hk h
  constructor
  · intro h1; simp only at h1; simp_all; decide
  intro h1; simp only at h1; simp_all; decide
theorem tn3 {z : Nm} (h : ¬ (z.k = 0 ∧ (z.a = 0 ∧ z.b = 0 ∧ z.c = 0 ∧ z.d = z.d) ∧ (z.d = 1 ∨ z.d = -1))) : turnIx z ≠ some 3 ∧ turnIx z ≠ some 7 := by
  constructor
  · intro e
    have := (turnIx_iff z 3 (by decide)).1 e
    subst this; exact h (by decide)
  intro e
  have := (turnIx_iff z 7 (by decide)).1 e
  subst this; exact h (by decide)
theorem ty3 {z : Nm} (hk : z.k = 0) (h : z.a = 0 ∧ z.b = 0 ∧ z.c = 0 ∧ z.d = z.d) : (z.d = 1 → tV z = 3 ∧ tB z = true) ∧ (z.d = -1 → tV z = 7 ∧ tB z = true) := by
  obtain ⟨a, b, c, d, k⟩ := z
  simp only at hk h
  constructor
  · intro h1; simp only at h1; simp_all; decide
  intro h1; simp only at h1; simp_all; decide
theorem tn_all {z : Nm} (h0 : turnIx z ≠ some 0 ∧ turnIx z ≠ some 4) (h1 : turnIx z ≠ some 1 ∧ turnIx z ≠ some 5) (h2 : turnIx z ≠ some 2 ∧ turnIx z ≠ some 6) (h3 : turnIx z ≠ some 3 ∧ turnIx z ≠ some 7) : tV z = 0 ∧ tB z = false := by
  have hn : turnIx z = none := by
    cases h : turnIx z with
    | none => rfl
    | some t =>
      have := turnIx_lt h
      rw [h] at h0 h1 h2 h3
      rcases (by omega : t = 0 ∨ t = 1 ∨ t = 2 ∨ t = 3 ∨ t = 4 ∨ t = 5 ∨ t = 6 ∨ t = 7) with rfl | rfl | rfl | rfl | rfl | rfl | rfl | rfl
      · exact absurd rfl h0.1
      · exact absurd rfl h1.1
      · exact absurd rfl h2.1
      · exact absurd rfl h3.1
      · exact absurd rfl h0.2
      · exact absurd rfl h1.2
      · exact absurd rfl h2.2
      · exact absurd rfl h3.2
  unfold tV tB; rw [hn]; exact ⟨rfl, rfl⟩
set_option maxRecDepth 100000 in
set_option maxHeartbeats 1000000 in
theorem mturn_any (z : Nm) (hz : z.Ok) (w : World) : Calls Try.prog 79 #[nmV z] w fun e w' => e = .returned (.tuple #[.int .i64 (tV z), .bool (tB z)]) ∧ Below w.heap.size w w' := by
  go_enter Try.func79, Try.ntmps79
  refine wk_start ?_
  refine wk_seq ?_
  refine wk_region [1, 0, 0] rfl Kx ?_
  simp only [qy]
  refine Rgn fun g1 => ?_
  simp only [qz]
  refine rg_assign ?_
  simp only [qz]
  refine rg_assign ?_
  simp only [qz]
  refine rg_nil (ek_next (wk_seq (wk_seq ?_)))
  refine wk_region [0, 0, 0] rfl Kx ?_
  simp only [qy]
  refine rf_field (n := 3) (j := 0) rfl rfl rfl Try.underlying45 rfl Kx rfl ?_
  simp only [qz]
  refine rf_loadR (n := 4) rfl rfl rfl Try.underlying43 rfl Kx (fun w hw => Kn.hd0 hw) rfl rfl ?_
  simp only [qz]
  refine rg_move ?_
  simp only [qz]
  refine rg_nil (ek_next (wk_block ?_))
  refine wk_unroll 4 ?_
  refine wk_seq ?_
  refine wk_region [0] rfl Kx ?_
  simp only [qy]
  refine rf_lss (b := true) rfl rfl rfl rfl (by decide) ?_
  simp only [qz]
  refine rg_nil (ek_next (wk_seq (wk_cond_t rfl (wk_skip (ek_next ?_)))))
  refine wk_cutF [2, 3, 4, 5, 6, 11, 12, 13, 14, 15, 16, 17, 18, 19, 20, 21, 22, 23, 24, 25, 26, 27, 28, 29, 30, 31, 32, 33, 34, 35, 36, 37] (fun f s => s = ((g1, .cells #[.int .i64 z.a, .int .i64 z.b, .int .i64 z.c, .int .i64 z.d, .int .i64 z.k] 45) :: []) ∧ (turnIx z ≠ some 0 ∧ turnIx z ≠ some 4)) ?_ ?_
  · refine wk_block (wk_seq ?_)
    refine wk_region [0, 0, 0, 0] rfl Kx ?_
    simp only [qy]
    refine rg_move ?_
    simp only [qz]
    refine rf_idx1 (n := 0) (v := .int .i64 z.a) rfl rfl rfl rfl Try.underlying43 Try.underlying3 rfl Kx (by decide) rfl ?_
    simp only [qz]
    refine rg_assign ?_
    simp only [qz]
    refine rg_assign ?_
    simp only [qz]
    refine rg_nil (ek_next (wk_seq ?_))
    refine wk_region [1] rfl Kx ?_
    simp only [qy]
    refine Rgn fun g2 => ?_
    simp only [qz]
    refine rg_nil (ek_next (wk_seq ?_))
    refine wk_region [0, 0, 0, 1] rfl Kx ?_
    simp only [qy]
    refine rg_move ?_
    simp only [qz]
    refine rg_move ?_
    simp only [qz]
    refine rf_indexA (n := 0) (sz := 1) (j := 0) rfl rfl rfl rfl Try.underlying43 Kx (by decide) rfl ?_
    simp only [qz]
    refine rf_store rfl rfl Kx rfl rfl (UpdR.here _ _ _ Nl) Nz ?_
    simp only [qz]
    refine rg_nil (ek_next (wk_seq ?_))
    refine wk_region [0, 0, 0, 0, 0, 0, 0, 0, 0, 0, 0, 0, 0, 0, 0, 0, 0] rfl Kx ?_
    simp only [qy]
    refine rf_field (n := 0) (j := 4) rfl rfl rfl Try.underlying45 rfl Kx rfl ?_
    simp only [qz]
    refine rf_load rfl rfl rfl Try.underlying3 rfl (fun w hw => (Kn.hd0 (Kn.tl hw)).at rfl) ?_
    simp only [qz]
    refine rfb_eql rfl rfl rfl rfl ?_
    intro x h1
    cases x
    · (try simp only [qd, ne_eq] at h1)
      simp only [qz]
      refine rg_move ?_
      simp only [qz]
      refine rg_skip Rx ?_
      simp only [qz]
      refine rg_skip Rx ?_
      simp only [qz]
      refine rg_skip Rx ?_
      simp only [qz]
      refine rg_skip Rx ?_
      simp only [qz]
      refine rf_pick rfl rfl rfl ?_
      simp only [qz]
      refine rg_move ?_
      simp only [qz]
      refine rg_skip Rx ?_
      simp only [qz]
      refine rg_skip Rx ?_
      simp only [qz]
      refine rg_skip Rx ?_
      simp only [qz]
      refine rg_skip Rx ?_
      simp only [qz]
      refine rg_skip Rx ?_
      simp only [qz]
      refine rg_skip Rx ?_
      simp only [qz]
      refine rf_pick rfl rfl rfl ?_
      simp only [qz]
      refine rg_nil (ek_next (wk_cond_f rfl (wk_skip (ek_block ?_))))
      have hne := tn0 (z := z) (fun ⟨hh1, hh2, hh3⟩ => by omega)
      refine ek_sub (sk _ (sc _ sn)) ?_
      refine ek_midF Kx ?_
      exact ⟨by rfl, hne⟩
    (try simp only [qd, ne_eq] at h1)
    simp only [qz]
    refine rg_move ?_
    simp only [qz]
    refine rf_field (n := 3) (j := 0) rfl rfl rfl Try.underlying45 rfl Kx rfl ?_
    simp only [qz]
    refine rf_loadR (n := 4) rfl rfl rfl Try.underlying43 rfl Kx (fun w hw => Kn.hd0 (Kn.tl hw)) rfl rfl ?_
    simp only [qz]
    refine rf_loadR (n := 4) rfl rfl rfl Try.underlying43 rfl Kx (fun w hw => Kn.hd0 hw) rfl rfl ?_
    simp only [qz]
    refine rf_eqA4 rfl rfl rfl rfl ?_
    rcases he0 : decide (z.a = z.a ∧ z.b = 0 ∧ z.c = 0 ∧ z.d = 0) with _ | _
    · simp only [Act.put, Act.eval, qn, qv, Nat.reduceAdd]
      refine rf_pick rfl rfl rfl ?_
      simp only [qz]
      refine rg_move ?_
      simp only [qz]
      refine rg_skip Rx ?_
      simp only [qz]
      refine rg_skip Rx ?_
      simp only [qz]
      refine rg_skip Rx ?_
      simp only [qz]
      refine rg_skip Rx ?_
      simp only [qz]
      refine rg_skip Rx ?_
      simp only [qz]
      refine rg_skip Rx ?_
      simp only [qz]
      refine rf_pick rfl rfl rfl ?_
      simp only [qz]
      refine rg_nil (ek_next (wk_cond_f rfl (wk_skip (ek_block ?_))))
      have hne := tn0 (z := z) (fun ⟨hh1, hh2, hh3⟩ => by exact absurd hh2 (of_decide_eq_false he0))
      refine ek_sub (sk _ (sc _ sn)) ?_
      refine ek_midF Kx ?_
      exact ⟨by rfl, hne⟩
    simp only [Act.put, Act.eval, qn, qv, Nat.reduceAdd]
    refine rf_pick rfl rfl rfl ?_
    simp only [qz]
    refine rg_move ?_
    simp only [qz]
    apply rg_soft_g
    case hg => rfl
    case hy => (intro w hw; go_simp; (try go_bits); exact Yld.mk _ _)
    simp only [qz]
    refine rfb_eql rfl rfl rfl rfl ?_
    intro x h2
    cases x
    · (try simp only [qd, ne_eq] at h2)
      simp only [qz]
      apply rg_soft_g
      case hg => rfl
      case hy => (intro w hw; go_simp; (try go_bits); exact Yld.mk _ _)
      simp only [qz]
      apply rg_soft_g
      case hg => rfl
      case hy => (intro w hw; go_simp; (try go_bits); exact Yld.mk _ _)
      simp only [qz]
      refine rfb_eql rfl rfl rfl rfl ?_
      intro x h3
      cases x
      · (try simp only [qd, ne_eq] at h3)
        simp only [qz]
        refine rf_pick rfl rfl rfl ?_
        simp only [qz]
        refine rf_pick rfl rfl rfl ?_
        simp only [qz]
        refine rg_nil (ek_next (wk_cond_f rfl (wk_skip (ek_block ?_))))
        have hne := tn0 (z := z) (fun ⟨hh1, hh2, hh3⟩ => by omega)
        refine ek_sub (sk _ (sc _ sn)) ?_
        refine ek_midF Kx ?_
        exact ⟨by rfl, hne⟩
      (try simp only [qd, ne_eq] at h3)
      simp only [qz]
      refine rf_pick rfl rfl rfl ?_
      simp only [qz]
      refine rf_pick rfl rfl rfl ?_
      simp only [qz]
      refine rg_nil (ek_next (wk_cond_t rfl (wk_seq ?_)))
      refine wk_region [0, 0, 0, 0, 0, 0, 0] rfl Kx ?_
      simp only [qy]
      refine rg_move ?_
      simp only [qz]
      refine rf_add (r := 2) rfl rfl rfl rfl (by decide) ?_
      simp only [qz]
      refine rg_move ?_
      simp only [qz]
      refine rf_mul rfl rfl rfl rfl (wrap_ok Ox Ox) ?_
      simp only [qz]
      refine rf_sub rfl rfl rfl rfl (wrap_ok Ox Ox) ?_
      simp only [qz]
      refine rg_assign ?_
      simp only [qz]
      refine rg_assign ?_
      simp only [qz]
      refine rg_nil (ek_next (wk_ret (ek_block_ret (ek_then_ret (ek_then_ret (ek_block_ret (ek_then_ret ?_)))))))
      refine ek_ret (fun w hw => ⟨rfl, _, res_tt _ _ rfl, ?_⟩)
      (try simp only [qz])
      have hy := (ty0 (z := z) (by simpa using h1) (of_decide_eq_true he0)).2 h3
      exact ⟨by rw [hy.1, hy.2, h3]; rfl, hw.below⟩
    (try simp only [qd, ne_eq] at h2)
    simp only [qz]
    apply rg_soft_g
    case hg => rfl
    case hy => (intro w hw; go_simp; (try go_bits); exact Yld.mk _ _)
    simp only [qz]
    refine rg_skip Rx ?_
    simp only [qz]
    refine rg_skip Rx ?_
    simp only [qz]
    refine rf_pick rfl rfl rfl ?_
    simp only [qz]
    refine rf_pick rfl rfl rfl ?_
    simp only [qz]
    refine rg_nil (ek_next (wk_cond_t rfl (wk_seq ?_)))
    refine wk_region [0, 0, 0, 0, 0, 0, 0] rfl Kx ?_
    simp only [qy]
    refine rg_move ?_
    simp only [qz]
    refine rf_add (r := 2) rfl rfl rfl rfl (by decide) ?_
    simp only [qz]
    refine rg_move ?_
    simp only [qz]
    refine rf_mul rfl rfl rfl rfl (wrap_ok Ox Ox) ?_
    simp only [qz]
    refine rf_sub rfl rfl rfl rfl (wrap_ok Ox Ox) ?_
    simp only [qz]
    refine rg_assign ?_
    simp only [qz]
    refine rg_assign ?_
    simp only [qz]
    refine rg_nil (ek_next (wk_ret (ek_block_ret (ek_then_ret (ek_then_ret (ek_block_ret (ek_then_ret ?_)))))))
    refine ek_ret (fun w hw => ⟨rfl, _, res_tt _ _ rfl, ?_⟩)
    (try simp only [qz])
    have hy := (ty0 (z := z) (by simpa using h1) (of_decide_eq_true he0)).1 h2
    exact ⟨by rw [hy.1, hy.2, h2]; rfl, hw.below⟩
  rintro f1 s ⟨rfl, hm0⟩
  simp only [Act.putF, List.foldl_cons, List.foldl_nil, Act.put, Act.eval, q1, q2, q3, q4, q5, q6, q7, q8, q9, q10, q11, q12, q13, q14, q15, q16, q17, q18, Nat.reduceAdd, Bool.not_true, Bool.not_false]
  refine wk_region [0, 0] rfl Kx ?_
  simp only [qy]
  refine rf_add (r := 1) rfl rfl rfl rfl (by decide) ?_
  simp only [qz]
  refine rg_move ?_
  simp only [qz]
  refine rg_nil (ek_again (wk_seq ?_))
  refine wk_region [0] rfl Kx ?_
  simp only [qy]
  refine rf_lss (b := true) rfl rfl rfl rfl (by decide) ?_
  simp only [qz]
  refine rg_nil (ek_next (wk_seq (wk_cond_t rfl (wk_skip (ek_next ?_)))))
  refine wk_cutF [2, 3, 4, 5, 6, 11, 12, 13, 14, 15, 16, 17, 18, 19, 20, 21, 22, 23, 24, 25, 26, 27, 28, 29, 30, 31, 32, 33, 34, 35, 36, 37] (fun f s => s = ((g1, .cells #[.int .i64 z.a, .int .i64 z.b, .int .i64 z.c, .int .i64 z.d, .int .i64 z.k] 45) :: []) ∧ (turnIx z ≠ some 1 ∧ turnIx z ≠ some 5)) ?_ ?_
  · refine wk_block (wk_seq ?_)
    refine wk_region [0, 0, 0, 0] rfl Kx ?_
    simp only [qy]
    refine rg_move ?_
    simp only [qz]
    refine rf_idx1 (n := 1) (v := .int .i64 z.b) rfl rfl rfl rfl Try.underlying43 Try.underlying3 rfl Kx (by decide) rfl ?_
    simp only [qz]
    refine rg_assign ?_
    simp only [qz]
    refine rg_assign ?_
    simp only [qz]
    refine rg_nil (ek_next (wk_seq ?_))
    refine wk_region [1] rfl Kx ?_
    simp only [qy]
    refine Rgn fun g3 => ?_
    simp only [qz]
    refine rg_nil (ek_next (wk_seq ?_))
    refine wk_region [0, 0, 0, 1] rfl Kx ?_
    simp only [qy]
    refine rg_move ?_
    simp only [qz]
    refine rg_move ?_
    simp only [qz]
    refine rf_indexA (n := 1) (sz := 1) (j := 1) rfl rfl rfl rfl Try.underlying43 Kx (by decide) rfl ?_
    simp only [qz]
    refine rf_store rfl rfl Kx rfl rfl (UpdR.here _ _ _ Nl) Nz ?_
    simp only [qz]
    refine rg_nil (ek_next (wk_seq ?_))
    refine wk_region [0, 0, 0, 0, 0, 0, 0, 0, 0, 0, 0, 0, 0, 0, 0, 0, 0] rfl Kx ?_
    simp only [qy]
    refine rf_field (n := 0) (j := 4) rfl rfl rfl Try.underlying45 rfl Kx rfl ?_
    simp only [qz]
    refine rf_load rfl rfl rfl Try.underlying3 rfl (fun w hw => (Kn.hd0 (Kn.tl hw)).at rfl) ?_
    simp only [qz]
    refine rfb_eql rfl rfl rfl rfl ?_
    intro x h4
    cases x
    · (try simp only [qd, ne_eq] at h4)
      simp only [qz]
      refine rg_move ?_
      simp only [qz]
      refine rg_skip Rx ?_
      simp only [qz]
      refine rg_skip Rx ?_
      simp only [qz]
      refine rg_skip Rx ?_
      simp only [qz]
      refine rg_skip Rx ?_
      simp only [qz]
      refine rf_pick rfl rfl rfl ?_
      simp only [qz]
      refine rg_move ?_
      simp only [qz]
      refine rg_skip Rx ?_
      simp only [qz]
      refine rg_skip Rx ?_
      simp only [qz]
      refine rg_skip Rx ?_
      simp only [qz]
      refine rg_skip Rx ?_
      simp only [qz]
      refine rg_skip Rx ?_
      simp only [qz]
      refine rg_skip Rx ?_
      simp only [qz]
      refine rf_pick rfl rfl rfl ?_
      simp only [qz]
      refine rg_nil (ek_next (wk_cond_f rfl (wk_skip (ek_block ?_))))
      have hne := tn1 (z := z) (fun ⟨hh1, hh2, hh3⟩ => by omega)
      refine ek_sub (sk _ (sc _ sn)) ?_
      refine ek_midF Kx ?_
      exact ⟨by rfl, hne⟩
    (try simp only [qd, ne_eq] at h4)
    simp only [qz]
    refine rg_move ?_
    simp only [qz]
    refine rf_field (n := 3) (j := 0) rfl rfl rfl Try.underlying45 rfl Kx rfl ?_
    simp only [qz]
    refine rf_loadR (n := 4) rfl rfl rfl Try.underlying43 rfl Kx (fun w hw => Kn.hd0 (Kn.tl hw)) rfl rfl ?_
    simp only [qz]
    refine rf_loadR (n := 4) rfl rfl rfl Try.underlying43 rfl Kx (fun w hw => Kn.hd0 hw) rfl rfl ?_
    simp only [qz]
    refine rf_eqA4 rfl rfl rfl rfl ?_
    rcases he1 : decide (z.a = 0 ∧ z.b = z.b ∧ z.c = 0 ∧ z.d = 0) with _ | _
    · simp only [Act.put, Act.eval, qn, qv, Nat.reduceAdd]
      refine rf_pick rfl rfl rfl ?_
      simp only [qz]
      refine rg_move ?_
      simp only [qz]
      refine rg_skip Rx ?_
      simp only [qz]
      refine rg_skip Rx ?_
      simp only [qz]
      refine rg_skip Rx ?_
      simp only [qz]
      refine rg_skip Rx ?_
      simp only [qz]
      refine rg_skip Rx ?_
      simp only [qz]
      refine rg_skip Rx ?_
      simp only [qz]
      refine rf_pick rfl rfl rfl ?_
      simp only [qz]
      refine rg_nil (ek_next (wk_cond_f rfl (wk_skip (ek_block ?_))))
      have hne := tn1 (z := z) (fun ⟨hh1, hh2, hh3⟩ => by exact absurd hh2 (of_decide_eq_false he1))
      refine ek_sub (sk _ (sc _ sn)) ?_
      refine ek_midF Kx ?_
      exact ⟨by rfl, hne⟩
    simp only [Act.put, Act.eval, qn, qv, Nat.reduceAdd]
    refine rf_pick rfl rfl rfl ?_
    simp only [qz]
    refine rg_move ?_
    simp only [qz]
    apply rg_soft_g
    case hg => rfl
    case hy => (intro w hw; go_simp; (try go_bits); exact Yld.mk _ _)
    simp only [qz]
    refine rfb_eql rfl rfl rfl rfl ?_
    intro x h5
    cases x
    · (try simp only [qd, ne_eq] at h5)
      simp only [qz]
      apply rg_soft_g
      case hg => rfl
      case hy => (intro w hw; go_simp; (try go_bits); exact Yld.mk _ _)
      simp only [qz]
      apply rg_soft_g
      case hg => rfl
      case hy => (intro w hw; go_simp; (try go_bits); exact Yld.mk _ _)
      simp only [qz]
      refine rfb_eql rfl rfl rfl rfl ?_
      intro x h6
      cases x
      · (try simp only [qd, ne_eq] at h6)
        simp only [qz]
        refine rf_pick rfl rfl rfl ?_
        simp only [qz]
        refine rf_pick rfl rfl rfl ?_
        simp only [qz]
        refine rg_nil (ek_next (wk_cond_f rfl (wk_skip (ek_block ?_))))
        have hne := tn1 (z := z) (fun ⟨hh1, hh2, hh3⟩ => by omega)
        refine ek_sub (sk _ (sc _ sn)) ?_
        refine ek_midF Kx ?_
        exact ⟨by rfl, hne⟩
      (try simp only [qd, ne_eq] at h6)
      simp only [qz]
      refine rf_pick rfl rfl rfl ?_
      simp only [qz]
      refine rf_pick rfl rfl rfl ?_
      simp only [qz]
      refine rg_nil (ek_next (wk_cond_t rfl (wk_seq ?_)))
      refine wk_region [0, 0, 0, 0, 0, 0, 0] rfl Kx ?_
      simp only [qy]
      refine rg_move ?_
      simp only [qz]
      refine rf_add (r := 3) rfl rfl rfl rfl (by decide) ?_
      simp only [qz]
      refine rg_move ?_
      simp only [qz]
      refine rf_mul rfl rfl rfl rfl (wrap_ok Ox Ox) ?_
      simp only [qz]
      refine rf_sub rfl rfl rfl rfl (wrap_ok Ox Ox) ?_
      simp only [qz]
      refine rg_assign ?_
      simp only [qz]
      refine rg_assign ?_
      simp only [qz]
      refine rg_nil (ek_next (wk_ret (ek_block_ret (ek_then_ret (ek_then_ret (ek_block_ret (ek_then_ret ?_)))))))
      refine ek_ret (fun w hw => ⟨rfl, _, res_tt _ _ rfl, ?_⟩)
      (try simp only [qz])
      have hy := (ty1 (z := z) (by simpa using h4) (of_decide_eq_true he1)).2 h6
      exact ⟨by rw [hy.1, hy.2, h6]; rfl, hw.below⟩
    (try simp only [qd, ne_eq] at h5)
    simp only [qz]
    apply rg_soft_g
    case hg => rfl
    case hy => (intro w hw; go_simp; (try go_bits); exact Yld.mk _ _)
    simp only [qz]
    refine rg_skip Rx ?_
    simp only [qz]
    refine rg_skip Rx ?_
    simp only [qz]
    refine rf_pick rfl rfl rfl ?_
    simp only [qz]
    refine rf_pick rfl rfl rfl ?_
    simp only [qz]
    refine rg_nil (ek_next (wk_cond_t rfl (wk_seq ?_)))
    refine wk_region [0, 0, 0, 0, 0, 0, 0] rfl Kx ?_
    simp only [qy]
    refine rg_move ?_
    simp only [qz]
    refine rf_add (r := 3) rfl rfl rfl rfl (by decide) ?_
    simp only [qz]
    refine rg_move ?_
    simp only [qz]
    refine rf_mul rfl rfl rfl rfl (wrap_ok Ox Ox) ?_
    simp only [qz]
    refine rf_sub rfl rfl rfl rfl (wrap_ok Ox Ox) ?_
    simp only [qz]
    refine rg_assign ?_
    simp only [qz]
    refine rg_assign ?_
    simp only [qz]
    refine rg_nil (ek_next (wk_ret (ek_block_ret (ek_then_ret (ek_then_ret (ek_block_ret (ek_then_ret ?_)))))))
    refine ek_ret (fun w hw => ⟨rfl, _, res_tt _ _ rfl, ?_⟩)
    (try simp only [qz])
    have hy := (ty1 (z := z) (by simpa using h4) (of_decide_eq_true he1)).1 h5
    exact ⟨by rw [hy.1, hy.2, h5]; rfl, hw.below⟩
  rintro f2 s ⟨rfl, hm1⟩
  simp only [Act.putF, List.foldl_cons, List.foldl_nil, Act.put, Act.eval, q1, q2, q3, q4, q5, q6, q7, q8, q9, q10, q11, q12, q13, q14, q15, q16, q17, q18, Nat.reduceAdd, Bool.not_true, Bool.not_false]
  refine wk_region [0, 0] rfl Kx ?_
  simp only [qy]
  refine rf_add (r := 2) rfl rfl rfl rfl (by decide) ?_
  simp only [qz]
  refine rg_move ?_
  simp only [qz]
  refine rg_nil (ek_again (wk_seq ?_))
  refine wk_region [0] rfl Kx ?_
  simp only [qy]
  refine rf_lss (b := true) rfl rfl rfl rfl (by decide) ?_
  simp only [qz]
  refine rg_nil (ek_next (wk_seq (wk_cond_t rfl (wk_skip (ek_next ?_)))))
  refine wk_cutF [2, 3, 4, 5, 6, 11, 12, 13, 14, 15, 16, 17, 18, 19, 20, 21, 22, 23, 24, 25, 26, 27, 28, 29, 30, 31, 32, 33, 34, 35, 36, 37] (fun f s => s = ((g1, .cells #[.int .i64 z.a, .int .i64 z.b, .int .i64 z.c, .int .i64 z.d, .int .i64 z.k] 45) :: []) ∧ (turnIx z ≠ some 2 ∧ turnIx z ≠ some 6)) ?_ ?_
  · refine wk_block (wk_seq ?_)
    refine wk_region [0, 0, 0, 0] rfl Kx ?_
    simp only [qy]
    refine rg_move ?_
    simp only [qz]
    refine rf_idx1 (n := 2) (v := .int .i64 z.c) rfl rfl rfl rfl Try.underlying43 Try.underlying3 rfl Kx (by decide) rfl ?_
    simp only [qz]
    refine rg_assign ?_
    simp only [qz]
    refine rg_assign ?_
    simp only [qz]
    refine rg_nil (ek_next (wk_seq ?_))
    refine wk_region [1] rfl Kx ?_
    simp only [qy]
    refine Rgn fun g4 => ?_
    simp only [qz]
    refine rg_nil (ek_next (wk_seq ?_))
    refine wk_region [0, 0, 0, 1] rfl Kx ?_
    simp only [qy]
    refine rg_move ?_
    simp only [qz]
    refine rg_move ?_
    simp only [qz]
    refine rf_indexA (n := 2) (sz := 1) (j := 2) rfl rfl rfl rfl Try.underlying43 Kx (by decide) rfl ?_
    simp only [qz]
    refine rf_store rfl rfl Kx rfl rfl (UpdR.here _ _ _ Nl) Nz ?_
    simp only [qz]
    refine rg_nil (ek_next (wk_seq ?_))
    refine wk_region [0, 0, 0, 0, 0, 0, 0, 0, 0, 0, 0, 0, 0, 0, 0, 0, 0] rfl Kx ?_
    simp only [qy]
    refine rf_field (n := 0) (j := 4) rfl rfl rfl Try.underlying45 rfl Kx rfl ?_
    simp only [qz]
    refine rf_load rfl rfl rfl Try.underlying3 rfl (fun w hw => (Kn.hd0 (Kn.tl hw)).at rfl) ?_
    simp only [qz]
    refine rfb_eql rfl rfl rfl rfl ?_
    intro x h7
    cases x
    · (try simp only [qd, ne_eq] at h7)
      simp only [qz]
      refine rg_move ?_
      simp only [qz]
      refine rg_skip Rx ?_
      simp only [qz]
      refine rg_skip Rx ?_
      simp only [qz]
      refine rg_skip Rx ?_
      simp only [qz]
      refine rg_skip Rx ?_
      simp only [qz]
      refine rf_pick rfl rfl rfl ?_
      simp only [qz]
      refine rg_move ?_
      simp only [qz]
      refine rg_skip Rx ?_
      simp only [qz]
      refine rg_skip Rx ?_
      simp only [qz]
      refine rg_skip Rx ?_
      simp only [qz]
      refine rg_skip Rx ?_
      simp only [qz]
      refine rg_skip Rx ?_
      simp only [qz]
      refine rg_skip Rx ?_
      simp only [qz]
      refine rf_pick rfl rfl rfl ?_
      simp only [qz]
      refine rg_nil (ek_next (wk_cond_f rfl (wk_skip (ek_block ?_))))
      have hne := tn2 (z := z) (fun ⟨hh1, hh2, hh3⟩ => by omega)
      refine ek_sub (sk _ (sc _ sn)) ?_
      refine ek_midF Kx ?_
      exact ⟨by rfl, hne⟩
    (try simp only [qd, ne_eq] at h7)
    simp only [qz]
    refine rg_move ?_
    simp only [qz]
    refine rf_field (n := 3) (j := 0) rfl rfl rfl Try.underlying45 rfl Kx rfl ?_
    simp only [qz]
    refine rf_loadR (n := 4) rfl rfl rfl Try.underlying43 rfl Kx (fun w hw => Kn.hd0 (Kn.tl hw)) rfl rfl ?_
    simp only [qz]
    refine rf_loadR (n := 4) rfl rfl rfl Try.underlying43 rfl Kx (fun w hw => Kn.hd0 hw) rfl rfl ?_
    simp only [qz]
    refine rf_eqA4 rfl rfl rfl rfl ?_
    rcases he2 : decide (z.a = 0 ∧ z.b = 0 ∧ z.c = z.c ∧ z.d = 0) with _ | _
    · simp only [Act.put, Act.eval, qn, qv, Nat.reduceAdd]
      refine rf_pick rfl rfl rfl ?_
      simp only [qz]
      refine rg_move ?_
      simp only [qz]
      refine rg_skip Rx ?_
      simp only [qz]
      refine rg_skip Rx ?_
      simp only [qz]
      refine rg_skip Rx ?_
      simp only [qz]
      refine rg_skip Rx ?_
      simp only [qz]
      refine rg_skip Rx ?_
      simp only [qz]
      refine rg_skip Rx ?_
      simp only [qz]
      refine rf_pick rfl rfl rfl ?_
      simp only [qz]
      refine rg_nil (ek_next (wk_cond_f rfl (wk_skip (ek_block ?_))))
      have hne := tn2 (z := z) (fun ⟨hh1, hh2, hh3⟩ => by exact absurd hh2 (of_decide_eq_false he2))
      refine ek_sub (sk _ (sc _ sn)) ?_
      refine ek_midF Kx ?_
      exact ⟨by rfl, hne⟩
    simp only [Act.put, Act.eval, qn, qv, Nat.reduceAdd]
    refine rf_pick rfl rfl rfl ?_
    simp only [qz]
    refine rg_move ?_
    simp only [qz]
    apply rg_soft_g
    case hg => rfl
    case hy => (intro w hw; go_simp; (try go_bits); exact Yld.mk _ _)
    simp only [qz]
    refine rfb_eql rfl rfl rfl rfl ?_
    intro x h8
    cases x
    · (try simp only [qd, ne_eq] at h8)
      simp only [qz]
      apply rg_soft_g
      case hg => rfl
      case hy => (intro w hw; go_simp; (try go_bits); exact Yld.mk _ _)
      simp only [qz]
      apply rg_soft_g
      case hg => rfl
      case hy => (intro w hw; go_simp; (try go_bits); exact Yld.mk _ _)
      simp only [qz]
      refine rfb_eql rfl rfl rfl rfl ?_
      intro x h9
      cases x
      · (try simp only [qd, ne_eq] at h9)
        simp only [qz]
        refine rf_pick rfl rfl rfl ?_
        simp only [qz]
        refine rf_pick rfl rfl rfl ?_
        simp only [qz]
        refine rg_nil (ek_next (wk_cond_f rfl (wk_skip (ek_block ?_))))
        have hne := tn2 (z := z) (fun ⟨hh1, hh2, hh3⟩ => by omega)
        refine ek_sub (sk _ (sc _ sn)) ?_
        refine ek_midF Kx ?_
        exact ⟨by rfl, hne⟩
      (try simp only [qd, ne_eq] at h9)
      simp only [qz]
      refine rf_pick rfl rfl rfl ?_
      simp only [qz]
      refine rf_pick rfl rfl rfl ?_
      simp only [qz]
      refine rg_nil (ek_next (wk_cond_t rfl (wk_seq ?_)))
      refine wk_region [0, 0, 0, 0, 0, 0, 0] rfl Kx ?_
      simp only [qy]
      refine rg_move ?_
      simp only [qz]
      refine rf_add (r := 4) rfl rfl rfl rfl (by decide) ?_
      simp only [qz]
      refine rg_move ?_
      simp only [qz]
      refine rf_mul rfl rfl rfl rfl (wrap_ok Ox Ox) ?_
      simp only [qz]
      refine rf_sub rfl rfl rfl rfl (wrap_ok Ox Ox) ?_
      simp only [qz]
      refine rg_assign ?_
      simp only [qz]
      refine rg_assign ?_
      simp only [qz]
      refine rg_nil (ek_next (wk_ret (ek_block_ret (ek_then_ret (ek_then_ret (ek_block_ret (ek_then_ret ?_)))))))
      refine ek_ret (fun w hw => ⟨rfl, _, res_tt _ _ rfl, ?_⟩)
      (try simp only [qz])
      have hy := (ty2 (z := z) (by simpa using h7) (of_decide_eq_true he2)).2 h9
      exact ⟨by rw [hy.1, hy.2, h9]; rfl, hw.below⟩
    (try simp only [qd, ne_eq] at h8)
    simp only [qz]
    apply rg_soft_g
    case hg => rfl
    case hy => (intro w hw; go_simp; (try go_bits); exact Yld.mk _ _)
    simp only [qz]
    refine rg_skip Rx ?_
    simp only [qz]
    refine rg_skip Rx ?_
    simp only [qz]
    refine rf_pick rfl rfl rfl ?_
    simp only [qz]
    refine rf_pick rfl rfl rfl ?_
    simp only [qz]
    refine rg_nil (ek_next (wk_cond_t rfl (wk_seq ?_)))
    refine wk_region [0, 0, 0, 0, 0, 0, 0] rfl Kx ?_
    simp only [qy]
    refine rg_move ?_
    simp only [qz]
    refine rf_add (r := 4) rfl rfl rfl rfl (by decide) ?_
    simp only [qz]
    refine rg_move ?_
    simp only [qz]
    refine rf_mul rfl rfl rfl rfl (wrap_ok Ox Ox) ?_
    simp only [qz]
    refine rf_sub rfl rfl rfl rfl (wrap_ok Ox Ox) ?_
    simp only [qz]
    refine rg_assign ?_
    simp only [qz]
    refine rg_assign ?_
    simp only [qz]
    refine rg_nil (ek_next (wk_ret (ek_block_ret (ek_then_ret (ek_then_ret (ek_block_ret (ek_then_ret ?_)))))))
    refine ek_ret (fun w hw => ⟨rfl, _, res_tt _ _ rfl, ?_⟩)
    (try simp only [qz])
    have hy := (ty2 (z := z) (by simpa using h7) (of_decide_eq_true he2)).1 h8
    exact ⟨by rw [hy.1, hy.2, h8]; rfl, hw.below⟩
  rintro f3 s ⟨rfl, hm2⟩
  simp only [Act.putF, List.foldl_cons, List.foldl_nil, Act.put, Act.eval, q1, q2, q3, q4, q5, q6, q7, q8, q9, q10, q11, q12, q13, q14, q15, q16, q17, q18, Nat.reduceAdd, Bool.not_true, Bool.not_false]
  refine wk_region [0, 0] rfl Kx ?_
  simp only [qy]
  refine rf_add (r := 3) rfl rfl rfl rfl (by decide) ?_
  simp only [qz]
  refine rg_move ?_
  simp only [qz]
  refine rg_nil (ek_again (wk_seq ?_))
  refine wk_region [0] rfl Kx ?_
  simp only [qy]
  refine rf_lss (b := true) rfl rfl rfl rfl (by decide) ?_
  simp only [qz]
  refine rg_nil (ek_next (wk_seq (wk_cond_t rfl (wk_skip (ek_next ?_)))))
  refine wk_cutF [2, 3, 4, 5, 6, 11, 12, 13, 14, 15, 16, 17, 18, 19, 20, 21, 22, 23, 24, 25, 26, 27, 28, 29, 30, 31, 32, 33, 34, 35, 36, 37] (fun f s => s = ((g1, .cells #[.int .i64 z.a, .int .i64 z.b, .int .i64 z.c, .int .i64 z.d, .int .i64 z.k] 45) :: []) ∧ (turnIx z ≠ some 3 ∧ turnIx z ≠ some 7)) ?_ ?_
  · refine wk_block (wk_seq ?_)
    refine wk_region [0, 0, 0, 0] rfl Kx ?_
    simp only [qy]
    refine rg_move ?_
    simp only [qz]
    refine rf_idx1 (n := 3) (v := .int .i64 z.d) rfl rfl rfl rfl Try.underlying43 Try.underlying3 rfl Kx (by decide) rfl ?_
    simp only [qz]
    refine rg_assign ?_
    simp only [qz]
    refine rg_assign ?_
    simp only [qz]
    refine rg_nil (ek_next (wk_seq ?_))
    refine wk_region [1] rfl Kx ?_
    simp only [qy]
    refine Rgn fun g5 => ?_
    simp only [qz]
    refine rg_nil (ek_next (wk_seq ?_))
    refine wk_region [0, 0, 0, 1] rfl Kx ?_
    simp only [qy]
    refine rg_move ?_
    simp only [qz]
    refine rg_move ?_
    simp only [qz]
    refine rf_indexA (n := 3) (sz := 1) (j := 3) rfl rfl rfl rfl Try.underlying43 Kx (by decide) rfl ?_
    simp only [qz]
    refine rf_store rfl rfl Kx rfl rfl (UpdR.here _ _ _ Nl) Nz ?_
    simp only [qz]
    refine rg_nil (ek_next (wk_seq ?_))
    refine wk_region [0, 0, 0, 0, 0, 0, 0, 0, 0, 0, 0, 0, 0, 0, 0, 0, 0] rfl Kx ?_
    simp only [qy]
    refine rf_field (n := 0) (j := 4) rfl rfl rfl Try.underlying45 rfl Kx rfl ?_
    simp only [qz]
    refine rf_load rfl rfl rfl Try.underlying3 rfl (fun w hw => (Kn.hd0 (Kn.tl hw)).at rfl) ?_
    simp only [qz]
    refine rfb_eql rfl rfl rfl rfl ?_
    intro x h10
    cases x
    · (try simp only [qd, ne_eq] at h10)
      simp only [qz]
      refine rg_move ?_
      simp only [qz]
      refine rg_skip Rx ?_
      simp only [qz]
      refine rg_skip Rx ?_
      simp only [qz]
      refine rg_skip Rx ?_
      simp only [qz]
      refine rg_skip Rx ?_
      simp only [qz]
      refine rf_pick rfl rfl rfl ?_
      simp only [qz]
      refine rg_move ?_
      simp only [qz]
      refine rg_skip Rx ?_
      simp only [qz]
      refine rg_skip Rx ?_
      simp only [qz]
      refine rg_skip Rx ?_
      simp only [qz]
      refine rg_skip Rx ?_
      simp only [qz]
      refine rg_skip Rx ?_
      simp only [qz]
      refine rg_skip Rx ?_
      simp only [qz]
      refine rf_pick rfl rfl rfl ?_
      simp only [qz]
      refine rg_nil (ek_next (wk_cond_f rfl (wk_skip (ek_block ?_))))
      have hne := tn3 (z := z) (fun ⟨hh1, hh2, hh3⟩ => by omega)
      refine ek_sub (sk _ (sc _ sn)) ?_
      refine ek_midF Kx ?_
      exact ⟨by rfl, hne⟩
    (try simp only [qd, ne_eq] at h10)
    simp only [qz]
    refine rg_move ?_
    simp only [qz]
    refine rf_field (n := 3) (j := 0) rfl rfl rfl Try.underlying45 rfl Kx rfl ?_
    simp only [qz]
    refine rf_loadR (n := 4) rfl rfl rfl Try.underlying43 rfl Kx (fun w hw => Kn.hd0 (Kn.tl hw)) rfl rfl ?_
    simp only [qz]
    refine rf_loadR (n := 4) rfl rfl rfl Try.underlying43 rfl Kx (fun w hw => Kn.hd0 hw) rfl rfl ?_
    simp only [qz]
    refine rf_eqA4 rfl rfl rfl rfl ?_
    rcases he3 : decide (z.a = 0 ∧ z.b = 0 ∧ z.c = 0 ∧ z.d = z.d) with _ | _
    · simp only [Act.put, Act.eval, qn, qv, Nat.reduceAdd]
      refine rf_pick rfl rfl rfl ?_
      simp only [qz]
      refine rg_move ?_
      simp only [qz]
      refine rg_skip Rx ?_
      simp only [qz]
      refine rg_skip Rx ?_
      simp only [qz]
      refine rg_skip Rx ?_
      simp only [qz]
      refine rg_skip Rx ?_
      simp only [qz]
      refine rg_skip Rx ?_
      simp only [qz]
      refine rg_skip Rx ?_
      simp only [qz]
      refine rf_pick rfl rfl rfl ?_
      simp only [qz]
      refine rg_nil (ek_next (wk_cond_f rfl (wk_skip (ek_block ?_))))
      have hne := tn3 (z := z) (fun ⟨hh1, hh2, hh3⟩ => by exact absurd hh2 (of_decide_eq_false he3))
      refine ek_sub (sk _ (sc _ sn)) ?_
      refine ek_midF Kx ?_
      exact ⟨by rfl, hne⟩
    simp only [Act.put, Act.eval, qn, qv, Nat.reduceAdd]
    refine rf_pick rfl rfl rfl ?_
    simp only [qz]
    refine rg_move ?_
    simp only [qz]
    apply rg_soft_g
    case hg => rfl
    case hy => (intro w hw; go_simp; (try go_bits); exact Yld.mk _ _)
    simp only [qz]
    refine rfb_eql rfl rfl rfl rfl ?_
    intro x h11
    cases x
    · (try simp only [qd, ne_eq] at h11)
      simp only [qz]
      apply rg_soft_g
      case hg => rfl
      case hy => (intro w hw; go_simp; (try go_bits); exact Yld.mk _ _)
      simp only [qz]
      apply rg_soft_g
      case hg => rfl
      case hy => (intro w hw; go_simp; (try go_bits); exact Yld.mk _ _)
      simp only [qz]
      refine rfb_eql rfl rfl rfl rfl ?_
      intro x h12
      cases x
      · (try simp only [qd, ne_eq] at h12)
        simp only [qz]
        refine rf_pick rfl rfl rfl ?_
        simp only [qz]
        refine rf_pick rfl rfl rfl ?_
        simp only [qz]
        refine rg_nil (ek_next (wk_cond_f rfl (wk_skip (ek_block ?_))))
        have hne := tn3 (z := z) (fun ⟨hh1, hh2, hh3⟩ => by omega)
        refine ek_sub (sk _ (sc _ sn)) ?_
        refine ek_midF Kx ?_
        exact ⟨by rfl, hne⟩
      (try simp only [qd, ne_eq] at h12)
      simp only [qz]
      refine rf_pick rfl rfl rfl ?_
      simp only [qz]
      refine rf_pick rfl rfl rfl ?_
      simp only [qz]
      refine rg_nil (ek_next (wk_cond_t rfl (wk_seq ?_)))
      refine wk_region [0, 0, 0, 0, 0, 0, 0] rfl Kx ?_
      simp only [qy]
      refine rg_move ?_
      simp only [qz]
      refine rf_add (r := 5) rfl rfl rfl rfl (by decide) ?_
      simp only [qz]
      refine rg_move ?_
      simp only [qz]
      refine rf_mul rfl rfl rfl rfl (wrap_ok Ox Ox) ?_
      simp only [qz]
      refine rf_sub rfl rfl rfl rfl (wrap_ok Ox Ox) ?_
      simp only [qz]
      refine rg_assign ?_
      simp only [qz]
      refine rg_assign ?_
      simp only [qz]
      refine rg_nil (ek_next (wk_ret (ek_block_ret (ek_then_ret (ek_then_ret (ek_block_ret (ek_then_ret ?_)))))))
      refine ek_ret (fun w hw => ⟨rfl, _, res_tt _ _ rfl, ?_⟩)
      (try simp only [qz])
      have hy := (ty3 (z := z) (by simpa using h10) (of_decide_eq_true he3)).2 h12
      exact ⟨by rw [hy.1, hy.2, h12]; rfl, hw.below⟩
    (try simp only [qd, ne_eq] at h11)
    simp only [qz]
    apply rg_soft_g
    case hg => rfl
    case hy => (intro w hw; go_simp; (try go_bits); exact Yld.mk _ _)
    simp only [qz]
    refine rg_skip Rx ?_
    simp only [qz]
    refine rg_skip Rx ?_
    simp only [qz]
    refine rf_pick rfl rfl rfl ?_
    simp only [qz]
    refine rf_pick rfl rfl rfl ?_
    simp only [qz]
    refine rg_nil (ek_next (wk_cond_t rfl (wk_seq ?_)))
    refine wk_region [0, 0, 0, 0, 0, 0, 0] rfl Kx ?_
    simp only [qy]
    refine rg_move ?_
    simp only [qz]
    refine rf_add (r := 5) rfl rfl rfl rfl (by decide) ?_
    simp only [qz]
    refine rg_move ?_
    simp only [qz]
    refine rf_mul rfl rfl rfl rfl (wrap_ok Ox Ox) ?_
    simp only [qz]
    refine rf_sub rfl rfl rfl rfl (wrap_ok Ox Ox) ?_
    simp only [qz]
    refine rg_assign ?_
    simp only [qz]
    refine rg_assign ?_
    simp only [qz]
    refine rg_nil (ek_next (wk_ret (ek_block_ret (ek_then_ret (ek_then_ret (ek_block_ret (ek_then_ret ?_)))))))
    refine ek_ret (fun w hw => ⟨rfl, _, res_tt _ _ rfl, ?_⟩)
    (try simp only [qz])
    have hy := (ty3 (z := z) (by simpa using h10) (of_decide_eq_true he3)).1 h11
    exact ⟨by rw [hy.1, hy.2, h11]; rfl, hw.below⟩
  rintro f4 s ⟨rfl, hm3⟩
  simp only [Act.putF, List.foldl_cons, List.foldl_nil, Act.put, Act.eval, q1, q2, q3, q4, q5, q6, q7, q8, q9, q10, q11, q12, q13, q14, q15, q16, q17, q18, Nat.reduceAdd, Bool.not_true, Bool.not_false]
  refine wk_region [0, 0] rfl Kx ?_
  simp only [qy]
  refine rf_add (r := 4) rfl rfl rfl rfl (by decide) ?_
  simp only [qz]
  refine rg_move ?_
  simp only [qz]
  refine rg_nil (ek_again (wk_seq ?_))
  refine wk_region [0] rfl Kx ?_
  simp only [qy]
  refine rf_lss (b := false) rfl rfl rfl rfl (by decide) ?_
  simp only [qz]
  refine rg_nil (ek_next (wk_seq (wk_cond_f rfl (wk_exit (ek_then_exit (ek_then_exit (ek_block_exit (ek_next (wk_seq ?_)))))))))
  refine wk_region [0, 0] rfl Kx ?_
  simp only [qy]
  refine rg_assign ?_
  simp only [qz]
  refine rg_assign ?_
  simp only [qz]
  refine rg_nil (ek_next (wk_ret ?_))
  refine ek_ret (fun w hw => ⟨rfl, _, res_tt _ _ rfl, ?_⟩)
  (try simp only [qz])
  have hz := tn_all hm0 hm1 hm2 hm3
  exact ⟨by rw [hz.1, hz.2], hw.below⟩

end Go.Proofs.Ytccbinnlnkpplaa
namespace Go.Proofs.Ytccbinnlnkpplaa
set_option linter.all false
open Go.RowKit

theorem tB_yes {z : Nm} (h : tB z = true) : tV z = tI z ∧ 0 ≤ tI z := by
  unfold tB at h
  unfold tV tI
  cases e : turnIx z with
  | none => rw [e] at h; cases h
  | some t => exact ⟨rfl, by show (0 : Int) ≤ t; omega⟩
theorem tB_no {z : Nm} (h : tB z = false) : tI z < 0 := by
  unfold tB at h
  unfold tI
  cases e : turnIx z with
  | none => show (-1 : Int) < 0; decide
  | some t => rw [e] at h; cases h
theorem mon_bad {n : Int} {xs : List Nm} (h : validB n xs = false) : monP n xs = [] ∧ monU n xs = [] ∧ monB n xs = false ∧ monE n xs = 20 := by
  unfold monP monU monB monE; rw [h]; exact ⟨rfl, rfl, rfl, rfl⟩
theorem mon_yes {N : Nat} {xs : List Nm} {p t : List Int} {u : List Bool} (h : validB N xs = true) (hm : monS xs N N = some (p, t, u)) : monP N xs = p ∧ monU N xs = t ∧ monB N xs = true ∧ monE N xs = 0 := by
  unfold monP monU monB monE; rw [h, Int.toNat_natCast, hm]; exact ⟨rfl, rfl, rfl, rfl⟩
theorem mon_none {N : Nat} {xs : List Nm} (h : validB N xs = true) (hm : monS xs N N = none) : monP N xs = [] ∧ monU N xs = [] ∧ monB N xs = false ∧ monE N xs = 0 := by
  unfold monP monU monB monE; rw [h, Int.toNat_natCast, hm]; exact ⟨rfl, rfl, rfl, rfl⟩
set_option maxRecDepth 100000 in
set_option maxHeartbeats 1000000 in
theorem mmonomial_any (n : Int) (xs : List Nm) (a : Option Addr) (c : Nat) (hl : xs.length ≤ 1000000) (w : World) (hA : AS w a (nms xs)) : Calls Try.prog 40 #[.agg #[.int .i64 n, .slice a xs.length c]] w fun e w' => RetMo w (monP n xs) (monU n xs) (monB n xs) (monE n xs) e w' := by
  go_enter Try.func40, Try.ntmps40
  refine wk_start ?_
  refine wk_seq ?_
  refine wk_region [1, 0, 0, 0, 0] rfl Kx ?_
  simp only [qy]
  refine Rgn fun g1 => ?_
  simp only [qz]
  refine rg_assign ?_
  simp only [qz]
  refine rg_assign ?_
  simp only [qz]
  refine rg_assign ?_
  simp only [qz]
  refine rg_assign ?_
  simp only [qz]
  refine rg_nil (ek_next (wk_seq (wk_seq ?_)))
  refine wk_region [0, 1, 0] rfl Kx ?_
  simp only [qy]
  refine rf_loadR (n := 2) rfl rfl rfl Try.underlying38 rfl Kx (fun w hw => Kn.hd0 hw) rfl rfl ?_
  simp only [qz]
  apply rg_pureb Rx Kx
  case hargs => exact Ax
  case h => exact fun w hw => mvalid_any n xs a c hl w (hA.kn0 hw)
  case hz => exact Nz
  intro x h1
  cases x
  · (try simp only [qd, ne_eq] at h1)
    simp only [qz]
    refine rf_not rfl rfl rfl ?_
    simp only [qz]
    refine rg_nil (ek_next (wk_cond_t rfl (wk_seq ?_)))
    refine wk_region [0, 0, 0, 0] rfl Kx ?_
    simp only [qy]
    refine rg_assign ?_
    simp only [qz]
    refine rg_assign ?_
    simp only [qz]
    refine rg_assign ?_
    simp only [qz]
    refine rg_assign ?_
    simp only [qz]
    refine rg_nil (ek_next (wk_ret (ek_then_ret ?_)))
    refine ek_ret (fun w hw => ⟨rfl, _, res_tttt _ _ _ _ rfl, ?_⟩)
    (try simp only [qz])
    obtain ⟨e1, e2, e3, e4⟩ := mon_bad h1
    rw [e1, e2, e3, e4]
    exact ⟨_, _, [], [], rfl, OwnZ.nil, OwnZ.nil, .nil hw.below⟩
  (try simp only [qd, ne_eq] at h1)
  simp only [qz]
  have hv := h1
  obtain ⟨N, rfl, hN1, hN, hlx, hlx36, hox⟩ := validB_N' hv
  replace hlx := Lib.hid hlx
  refine rf_not rfl rfl rfl ?_
  simp only [qz]
  refine rg_nil (ek_next (wk_cond_f rfl (wk_skip (ek_next (wk_seq ?_)))))
  refine wk_region [0, 0, 1, 1] rfl Kx ?_
  simp only [qy]
  refine rf_loadR (n := 2) rfl rfl rfl Try.underlying38 rfl Kx (fun w hw => Kn.hd0 hw) rfl rfl ?_
  simp only [qz]
  refine rf_build (cs := fun a => #[cellAt (a.eval (.tmp 18)) 0, cellAt (a.eval (.tmp 18)) 1]) rfl rfl Kx ?_
  simp only [qz]
  refine Rgn fun g2 => ?_
  simp only [qz]
  refine rf_storeR (n := 2) rfl rfl Kx rfl rfl (UpdR.here _ _ _ Nl) Nz ?_
  simp only [qz, Nat.reduceAdd]
  refine rg_nil (ek_next (wk_seq ?_))
  refine wk_region [0, 0, 1, 0] rfl Kx ?_
  simp only [qy]
  refine rf_field (n := 0) (j := 0) rfl rfl rfl Try.underlying38 rfl Kx rfl ?_
  simp only [qz]
  refine rf_load rfl rfl rfl Try.underlying3 rfl (fun w hw => (Kn.hd0 (Kn.tl hw)).at rfl) ?_
  simp only [qz]
  refine rg_makeB (n := N) Rx rfl rfl Ox Nz (fun g3 => ?_)
  simp only [qz]
  refine rg_assign ?_
  simp only [qz]
  refine rg_nil (ek_next (wk_seq (wk_seq ?_)))
  refine wk_region [0, 0, 0] rfl Kx ?_
  simp only [qy]
  refine rf_field (n := 0) (j := 0) rfl rfl rfl Try.underlying38 rfl Kx rfl ?_
  simp only [qz]
  refine rf_load rfl rfl rfl Try.underlying3 rfl (fun w hw => (Kn.hd0 (Kn.tl (Kn.tl hw))).at rfl) ?_
  simp only [qz]
  refine rg_move ?_
  simp only [qz]
  refine rg_nil (ek_next (wk_block ?_))
  refine wk_loopF [2, 3, 4, 5, 8, 9, 10, 11, 12, 13, 14, 25, 26, 27, 28, 29, 30, 31, 32, 33, 34, 35, 36, 37, 38, 39, 40, 41, 42, 43, 44, 45, 46, 47, 48, 49, 50, 51, 52, 53, 54, 55, 56, 57, 58, 59, 60, 61, 62, 63, 64, 65, 66, 67, 68, 69, 70, 71, 72, 73] (fun mz f s => ∃ (k : Nat) (pp tt : List Int) (ub : List Bool) (va vb : Option Addr) (vc vd : Nat) (u1 u2 : List Blk), f 2 = .slice va pp.length vc ∧ f 3 = .slice vb tt.length vd ∧ f 25 = .int .i64 k ∧ s = (u1 ++ (u2 ++ ((g3, .cells (boL ub).toArray 4) :: ((g2, .cells #[.int .i64 N, .slice a xs.length c] 93) :: ((g1, .cells #[.int .i64 N, .slice a xs.length c] 38) :: []))))) ∧ mz = N - k ∧ k ≤ N ∧ Hid (monS xs N k = some (pp, tt, ub)) ∧ OwnZ u1 (.slice va pp.length vc) pp ∧ OwnZ u2 (.slice vb tt.length vd) tt) ((fun (k : Nat) (pp tt : List Int) (ub : List Bool) (va vb : Option Addr) (vc vd : Nat) (u1 u2 : List Blk) => N - k) (0) ([]) ([]) (List.replicate N false) (none) (none) (0) (0) ([]) ([])) ?_ Kx ?_
  · exact ⟨0, [], [], List.replicate N false, none, none, 0, 0, [], [], rfl, rfl, rfl, rfl, rfl, by omega, Lib.hid rfl, OwnZ.nil, OwnZ.nil⟩
  rintro mz f1 s ⟨k, pp, tt, ub, va, vb, vc, vd, u1, u2, hs1_2, hs1_3, hs1_25, rfl, hn, hd1, hd2, hd3, hd4⟩
  simp only [Act.putF, List.foldl_cons, List.foldl_nil, hs1_2, hs1_3, hs1_25, Act.put, Act.eval, q1, q2, q3, q4, q5, q6, q7, q8, q9, q10, q11, q12, q13, q14, q15, q16, q17, q18, Nat.reduceAdd, Bool.not_true, Bool.not_false]
  clear hs1_2 hs1_3 hs1_25
  obtain ⟨hlp, hlt, hlu⟩ := monS_len hd2.out
  refine wk_seq ?_
  refine wk_region [0] rfl Kx ?_
  simp only [qy]
  refine rfb_lss rfl rfl rfl rfl ?_
  intro x h2
  cases x
  · (try simp only [qd, ne_eq] at h2)
    simp only [qz]
    refine rg_nil (ek_next (wk_seq (wk_cond_f rfl (wk_exit (ek_then_exit (ek_then_exit (ek_block_exit (ek_next (wk_seq ?_)))))))))
    refine wk_region [0, 0, 0, 0, 0, 0] rfl Kx ?_
    simp only [qy]
    refine rg_move ?_
    simp only [qz]
    refine rg_move ?_
    simp only [qz]
    refine rg_assign ?_
    simp only [qz]
    refine rg_assign ?_
    simp only [qz]
    refine rg_assign ?_
    simp only [qz]
    refine rg_assign ?_
    simp only [qz]
    refine rg_nil (ek_next (wk_ret ?_))
    refine ek_ret (fun w hw => ⟨rfl, _, res_tttt _ _ _ _ rfl, ?_⟩)
    (try simp only [qz])
    obtain rfl : N = k := by omega
    obtain ⟨e1, e2, e3, e4⟩ := mon_yes hv hd2.out
    rw [e1, e2, e3, e4]
    exact ⟨_, _, u1, u2, rfl, hd3, hd4, hw.made (List.Sublist.append_left (List.sublist_append_left _ _) _)⟩
  (try simp only [qd, ne_eq] at h2)
  simp only [qz]
  refine rg_nil (ek_next (wk_seq (wk_cond_t rfl (wk_skip (ek_next (wk_seq (wk_block (wk_seq ?_))))))))
  refine wk_region [0, 0] rfl Kx ?_
  simp only [qy]
  refine rg_move ?_
  simp only [qz]
  refine rg_assign ?_
  simp only [qz]
  refine rg_nil (ek_next (wk_seq ?_))
  refine wk_region [0, 0, 0] rfl Kx ?_
  simp only [qy]
  refine rg_assign ?_
  simp only [qz]
  refine rg_assign ?_
  simp only [qz]
  refine rg_assign ?_
  simp only [qz]
  refine rg_nil (ek_next (wk_seq (wk_seq ?_)))
  refine wk_region [0, 0, 0] rfl Kx ?_
  simp only [qy]
  refine rf_field (n := 0) (j := 0) rfl rfl rfl Try.underlying38 rfl Kx rfl ?_
  simp only [qz]
  refine rf_load rfl rfl rfl Try.underlying3 rfl (fun w hw => (Kn.hd0 (Kn.tl (Kn.tl (Kn.tlU (Kn.tlU hw))))).at rfl) ?_
  simp only [qz]
  refine rg_move ?_
  simp only [qz]
  refine rg_nil (ek_next (wk_block ?_))
  refine wk_loopF [2, 3, 4, 5, 9, 10, 11, 12, 13, 14, 30, 31, 32, 33, 34, 35, 36, 37, 38, 39, 40, 41, 42, 43, 44, 45, 46, 47, 48, 49, 50, 51, 52, 53, 54, 55, 56, 57, 58, 59] (fun mz f s => ∃ (i r ct : Nat) (tn : Int), f 2 = .slice va pp.length vc ∧ f 3 = .slice vb tt.length vd ∧ f 9 = .int .i64 r ∧ f 10 = .int .i64 tn ∧ f 11 = .int .i64 ct ∧ f 30 = .int .i64 i ∧ s = (u1 ++ (u2 ++ ((g3, .cells (boL ub).toArray 4) :: ((g2, .cells #[.int .i64 N, .slice a xs.length c] 93) :: ((g1, .cells #[.int .i64 N, .slice a xs.length c] 38) :: []))))) ∧ mz = N - i ∧ i ≤ N ∧ Hid (colT xs N k i = (r, tn, ct)) ∧ Hid (∀ j, j < i → nm xs (j * N + k) ≠ Nm.zero → 0 ≤ tI (nm xs (j * N + k)) ∧ bx ub j = false)) ((fun (i r ct : Nat) (tn : Int) => N - i) (0) (0) (0) (0)) ?_ Kx ?_
  · exact ⟨0, 0, 0, 0, rfl, rfl, rfl, rfl, rfl, rfl, rfl, rfl, by omega, Lib.hid rfl, Lib.hid (fun _ h => by omega)⟩
  rintro mz f2 s ⟨i, r, ct, tn, hs2_2, hs2_3, hs2_9, hs2_10, hs2_11, hs2_30, rfl, hn, he1, he2, he3⟩
  simp only [Act.putF, List.foldl_cons, List.foldl_nil, hs2_2, hs2_3, hs2_9, hs2_10, hs2_11, hs2_30, Act.put, Act.eval, q1, q2, q3, q4, q5, q6, q7, q8, q9, q10, q11, q12, q13, q14, q15, q16, q17, q18, Nat.reduceAdd, Bool.not_true, Bool.not_false]
  clear hs2_2 hs2_3 hs2_9 hs2_10 hs2_11 hs2_30
  have hcr := colT_r he2.out
  refine wk_seq ?_
  refine wk_region [0] rfl Kx ?_
  simp only [qy]
  refine rfb_lss rfl rfl rfl rfl ?_
  intro x h3
  cases x
  · (try simp only [qd, ne_eq] at h3)
    simp only [qz]
    refine rg_nil (ek_next (wk_seq (wk_cond_f rfl (wk_exit (ek_then_exit (ek_then_exit (ek_block_exit (ek_next (wk_seq (wk_seq ?_))))))))))
    refine wk_region [0, 0] rfl Kx ?_
    simp only [qy]
    refine rg_move ?_
    simp only [qz]
    refine rfb_neq rfl rfl rfl rfl ?_
    intro x h4
    cases x
    · (try simp only [qd, ne_eq] at h4)
      simp only [qz]
      refine rg_nil (ek_next (wk_cond_f rfl (wk_skip (ek_next (wk_seq ?_)))))
      obtain rfl : N = i := by omega
      obtain rfl : ct = 1 := by omega
      have hcg := colG_end he2.out he3.out rfl
      have hcat : r < N := (colT_at he2.out Ox).1
      refine wk_region [0, 0, 0, 1] rfl Kx ?_
      simp only [qy]
      refine rg_move ?_
      simp only [qz]
      refine rg_move ?_
      simp only [qz]
      refine rf_indexS (n := r) (sz := 1) (j := r) rfl rfl rfl rfl Try.underlying94 Kx Ox Ox Ox ?_
      simp only [qz]
      refine rf_storeB (i := r) (zs := ub) (z := true) rfl rfl Ox (Rep.app _ (Rep.app _ (Rep.here _))) Nz ?_
      simp only [qz]
      refine rg_nil (ek_next ?_)
      refine wk_region [0, 0, 1, 1, 0, 0, 1, 1, 0, 0] rfl Kx ?_
      simp only [qy]
      refine rg_move ?_
      simp only [qz]
      refine rg_move ?_
      simp only [qz]
      refine rg_newS (cs := ?_) (ty := ?_) (n := 1) (c := 1) Rx (fun w => ?_) Nz (fun g4 => ?_); rotate_left 2
      focus (go_simp; rfl)
      simp only [qz]
      refine rg_appZ (xs := pp) (x := (r : Int)) Rx rfl hd3 rfl Ox (perm_atU (l := [_]) (u := u1) (List.Perm.refl _)) Nz (fun uP aNuP cNuP hOuP => ?_)
      simp only [qz]
      refine rg_move ?_
      simp only [qz]
      refine rg_move ?_
      simp only [qz]
      refine rg_newS (cs := ?_) (ty := ?_) (n := 1) (c := 1) Rx (fun w => ?_) Nz (fun g5 => ?_); rotate_left 2
      focus (go_simp; rfl)
      simp only [qz]
      refine rg_appZ (xs := tt) (x := tn) Rx rfl hd4 rfl Ox ((((((List.Perm.refl _).append_left _).trans (List.perm_append_comm_assoc uP u2 _)).cons _).trans (List.perm_middle (l₁ := u2)).symm).trans ((List.Perm.refl _).append_left _)) Nz (fun uT aNuT cNuT hOuT => ?_)
      simp only [qz]
      refine rg_assign ?_
      simp only [qz]
      refine rg_assign ?_
      simp only [qz]
      refine rg_nil (ek_block (ek_next ?_))
      refine wk_region [0, 0] rfl Kx ?_
      simp only [qy]
      refine rf_add rfl rfl rfl rfl (wrap_ok Ox Ox) ?_
      simp only [qz]
      refine rg_move ?_
      simp only [qz]
      refine rg_nil ?_
      have hmn := monS_yes hd2.out hcg
      have hlz := monS_len hmn
      refine ek_perm ((((List.Perm.refl _).append_left _).trans (List.perm_append_comm_assoc uT uP _)).trans ((List.Perm.refl _).append_left _)) ?_
      refine ek_roundF (N - (k + 1)) Ox Kx ?_
      exact ⟨k + 1, pp ++ [(r : Int)], tt ++ [tn], ub.set r true, aNuP, aNuT, cNuP, cNuT, uP, uT, rfl, rfl, rfl, by rfl, by rfl, Ox, (Lib.hid hmn), hOuP, hOuT⟩
    (try simp only [qd, ne_eq] at h4)
    simp only [qz]
    refine rg_nil (ek_next (wk_cond_t rfl (wk_seq ?_)))
    refine wk_region [0, 0, 0, 0] rfl Kx ?_
    simp only [qy]
    refine rg_assign ?_
    simp only [qz]
    refine rg_assign ?_
    simp only [qz]
    refine rg_assign ?_
    simp only [qz]
    refine rg_assign ?_
    simp only [qz]
    refine rg_nil (ek_next (wk_ret (ek_then_ret (ek_block_ret (ek_then_ret (ek_then_ret (ek_block_ret (ek_then_ret ?_))))))))
    refine ek_ret (fun w hw => ⟨rfl, _, res_tttt _ _ _ _ rfl, ?_⟩)
    (try simp only [qz])
    obtain rfl : N = i := by omega
    have hcg := colG_no (ub := ub) he2.out (.inl Ox)
    obtain ⟨e1, e2, e3, e4⟩ := mon_none hv (monS_no hd2.out hcg N Ox)
    rw [e1, e2, e3, e4]
    exact ⟨_, _, [], [], rfl, OwnZ.nil, OwnZ.nil, .nil hw.below⟩
  (try simp only [qd, ne_eq] at h3)
  simp only [qz]
  refine rg_nil (ek_next (wk_seq (wk_cond_t rfl (wk_skip (ek_next (wk_seq (wk_block (wk_seq ?_))))))))
  refine wk_region [0, 0] rfl Kx ?_
  simp only [qy]
  refine rg_move ?_
  simp only [qz]
  refine rg_assign ?_
  simp only [qz]
  refine rg_nil (ek_next (wk_seq (wk_seq ?_)))
  refine wk_region [0, 0, 0, 1, 0, 0] rfl Kx ?_
  simp only [qy]
  refine rf_loadR (n := 2) rfl rfl rfl Try.underlying93 rfl Kx (fun w hw => Kn.hd0 (Kn.tl (Kn.tlU (Kn.tlU hw)))) rfl rfl ?_
  simp only [qz]
  refine rg_move ?_
  simp only [qz]
  refine rg_move ?_
  simp only [qz]
  apply rg_pure Rx Kx
  case hargs => exact Ax
  case h => exact fun w hw => at_any N i k xs a c hlx.out hN Ox Ox w (hA.kn0 hw)
  case hz => exact Nz
  simp only [qz]
  refine rf_build (cs := fun a => #[.int .i64 0, .int .i64 0, .int .i64 0, .int .i64 0, .int .i64 0]) rfl rfl Kx ?_
  simp only [qz]
  refine rfb_eqN (nm xs (i * N + k)) (Nm.zero) rfl rfl rfl rfl ?_
  intro x h5
  cases x
  · (try simp only [qd, ne_eq] at h5)
    simp only [qz]
    refine rg_nil (ek_next (wk_cond_f rfl (wk_skip (ek_next (wk_seq ?_)))))
    refine wk_region [0, 0, 0, 1, 1, 0, 0, 0, 0, 0] rfl Kx ?_
    simp only [qy]
    refine rf_loadR (n := 2) rfl rfl rfl Try.underlying93 rfl Kx (fun w hw => Kn.hd0 (Kn.tl (Kn.tlU (Kn.tlU hw)))) rfl rfl ?_
    simp only [qz]
    refine rg_move ?_
    simp only [qz]
    refine rg_move ?_
    simp only [qz]
    apply rg_pure Rx Kx
    case hargs => exact Ax
    case h => exact fun w hw => at_any N i k xs a c hlx.out hN Ox Ox w (hA.kn0 hw)
    case hz => exact Nz
    simp only [qz]
    apply rg_pure Rx Kx
    case hargs => exact Ax
    case h => exact fun w hw => mturn_any (nm xs (i * N + k)) (ok_at hox (by have := ix_lt (show i < N by omega) (show k < N by omega); have := hlx.out; omega)) w
    case hz => exact Nz
    rcases h6 : tB (nm xs (i * N + k)) with _ | _
    · have htv := tB_no h6
      simp only [qz]
      refine rg_move ?_
      simp only [qz]
      refine rf_extract rfl rfl rfl rfl ?_
      simp only [qz]
      refine rf_extract rfl rfl rfl rfl ?_
      simp only [qz]
      refine rg_assign ?_
      simp only [qz]
      refine rg_assign ?_
      simp only [qz]
      refine rg_nil (ek_next (wk_seq (wk_seq ?_)))
      refine wk_region [0, 0, 0, 0, 0, 0, 0, 0] rfl Kx ?_
      simp only [qy]
      refine rg_move ?_
      simp only [qz]
      refine rf_not rfl rfl rfl ?_
      simp only [qz]
      refine rg_move ?_
      simp only [qz]
      refine rg_skip Rx ?_
      simp only [qz]
      refine rg_skip Rx ?_
      simp only [qz]
      refine rg_skip Rx ?_
      simp only [qz]
      refine rg_skip Rx ?_
      simp only [qz]
      refine rf_pick rfl rfl rfl ?_
      simp only [qz]
      refine rg_nil (ek_next (wk_cond_t rfl (wk_seq ?_)))
      refine wk_region [0, 0, 0, 0] rfl Kx ?_
      simp only [qy]
      refine rg_assign ?_
      simp only [qz]
      refine rg_assign ?_
      simp only [qz]
      refine rg_assign ?_
      simp only [qz]
      refine rg_assign ?_
      simp only [qz]
      refine rg_nil (ek_next (wk_ret (ek_then_ret (ek_block_ret (ek_then_ret (ek_then_ret (ek_block_ret (ek_then_ret (ek_block_ret (ek_then_ret (ek_then_ret (ek_block_ret (ek_then_ret ?_)))))))))))))
      refine ek_ret (fun w hw => ⟨rfl, _, res_tttt _ _ _ _ rfl, ?_⟩)
      (try simp only [qz])
      have hcg := colG_stop (ub := ub) (show i < N by omega) h5 (.inl htv)
      obtain ⟨e1, e2, e3, e4⟩ := mon_none hv (monS_no hd2.out hcg N Ox)
      rw [e1, e2, e3, e4]
      exact ⟨_, _, [], [], rfl, OwnZ.nil, OwnZ.nil, .nil hw.below⟩
    have htv := tB_yes h6
    simp only [qz]
    refine rg_move ?_
    simp only [qz]
    refine rf_extract rfl rfl rfl rfl ?_
    simp only [qz]
    refine rf_extract rfl rfl rfl rfl ?_
    simp only [qz]
    refine rg_assign ?_
    simp only [qz]
    refine rg_assign ?_
    simp only [qz]
    refine rg_nil (ek_next (wk_seq (wk_seq ?_)))
    refine wk_region [0, 0, 0, 0, 0, 0, 0, 0] rfl Kx ?_
    simp only [qy]
    refine rg_move ?_
    simp only [qz]
    refine rf_not rfl rfl rfl ?_
    simp only [qz]
    refine rg_move ?_
    simp only [qz]
    apply rg_soft_g
    case hg => rfl
    case hy => (intro w hw; go_simp; (try go_bits); exact Yld.mk _ _)
    simp only [qz]
    apply rg_soft_g
    case hg => rfl
    case hy => (intro w hw; go_simp; (try go_bits); exact Yld.mk _ _)
    simp only [qz]
    refine rf_indexS (n := i) (sz := 1) (j := i) rfl rfl rfl rfl Try.underlying94 Kx Ox Ox Ox ?_
    simp only [qz]
    refine rf_load rfl rfl rfl Try.underlying4 rfl (fun w hw => boL_cell (Kn.hd0 (Kn.tlU (Kn.tlU hw))) (i := i) Ox) ?_
    rcases h7 : bx ub i with _ | _
    · simp only [Act.put, Act.eval, qn, qv, Nat.reduceAdd]
      refine rf_pick rfl rfl rfl ?_
      simp only [qz]
      refine rg_nil (ek_next (wk_cond_f rfl (wk_skip (ek_next (wk_seq ?_)))))
      refine wk_region [0, 0, 0, 0] rfl Kx ?_
      simp only [qy]
      refine rg_move ?_
      simp only [qz]
      refine rg_move ?_
      simp only [qz]
      refine rg_assign ?_
      simp only [qz]
      refine rg_assign ?_
      simp only [qz]
      refine rg_nil (ek_next ?_)
      refine wk_region [0, 0, 0] rfl Kx ?_
      simp only [qy]
      refine rg_move ?_
      simp only [qz]
      refine rf_add rfl rfl rfl rfl (wrap_ok Ox Ox) ?_
      simp only [qz]
      refine rg_assign ?_
      simp only [qz]
      refine rg_nil (ek_block (ek_next ?_))
      refine wk_region [0, 0] rfl Kx ?_
      simp only [qy]
      refine rf_add rfl rfl rfl rfl (wrap_ok Ox Ox) ?_
      simp only [qz]
      refine rg_move ?_
      simp only [qz]
      refine rg_nil ?_
      refine ek_roundF (N - (i + 1)) Ox Kx ?_
      exact ⟨i + 1, i, ct + 1, tV (nm xs (i * N + k)), rfl, rfl, rfl, rfl, rfl, rfl, by rfl, by rfl, Ox, (Lib.hid (by rw [colT_s he2.out h5, htv.1])), (Lib.hid (fun j hj hz => by rcases (by omega : j < i ∨ j = i) with h | rfl; exact he3.out j h hz; exact ⟨htv.2, h7⟩))⟩
    simp only [Act.put, Act.eval, qn, qv, Nat.reduceAdd]
    refine rf_pick rfl rfl rfl ?_
    simp only [qz]
    refine rg_nil (ek_next (wk_cond_t rfl (wk_seq ?_)))
    refine wk_region [0, 0, 0, 0] rfl Kx ?_
    simp only [qy]
    refine rg_assign ?_
    simp only [qz]
    refine rg_assign ?_
    simp only [qz]
    refine rg_assign ?_
    simp only [qz]
    refine rg_assign ?_
    simp only [qz]
    refine rg_nil (ek_next (wk_ret (ek_then_ret (ek_block_ret (ek_then_ret (ek_then_ret (ek_block_ret (ek_then_ret (ek_block_ret (ek_then_ret (ek_then_ret (ek_block_ret (ek_then_ret ?_)))))))))))))
    refine ek_ret (fun w hw => ⟨rfl, _, res_tttt _ _ _ _ rfl, ?_⟩)
    (try simp only [qz])
    have hcg := colG_stop (ub := ub) (show i < N by omega) h5 (.inr h7)
    obtain ⟨e1, e2, e3, e4⟩ := mon_none hv (monS_no hd2.out hcg N Ox)
    rw [e1, e2, e3, e4]
    exact ⟨_, _, [], [], rfl, OwnZ.nil, OwnZ.nil, .nil hw.below⟩
  (try simp only [qd, ne_eq] at h5)
  simp only [qz]
  refine rg_nil (ek_next (wk_cond_t rfl (wk_exit (ek_then_exit (ek_block_exit (ek_next ?_))))))
  refine wk_region [0, 0] rfl Kx ?_
  simp only [qy]
  refine rf_add rfl rfl rfl rfl (wrap_ok Ox Ox) ?_
  simp only [qz]
  refine rg_move ?_
  simp only [qz]
  refine rg_nil ?_
  refine ek_roundF (N - (i + 1)) Ox Kx ?_
  exact ⟨i + 1, r, ct, tn, rfl, rfl, rfl, rfl, rfl, rfl, by rfl, by rfl, Ox, (Lib.hid (colT_z he2.out h5)), (Lib.hid (fun j hj hz => by rcases (by omega : j < i ∨ j = i) with h | rfl; exact he3.out j h hz; exact absurd h5 hz))⟩

end Go.Proofs.Ytccbinnlnkpplaa
namespace Go.Proofs.Ytccbinnlnkpplaa
set_option linter.all false
open Go.RowKit

theorem dgE_zero {xs : List Int} (h : dgE xs = 0) : (1 ≤ xs.length ∧ xs.length ≤ 6) ∧ trnB xs = true := by
  unfold dgE at h
  split at h
  · next hh =>
    unfold dgOk at hh
    rw [Bool.and_eq_true, decide_eq_true_eq] at hh
    exact hh
  cases h
theorem OwnZ.asD {B w : World} {F : List Nat} {u s : List Blk} {a : Option Addr} {n c : Nat} {xs : List Int} (h : OwnZ u (.slice a n c) xs) (K : Kn B F (u ++ s) w) : AS w a (zs xs) := by
  obtain ⟨a', c', e, h'⟩ := Own.as h K
  cases e
  exact h'
theorem dgL_len (xs : List Int) (h : xs.length ≤ 1000000) : (dgL xs).length ≤ 1000000 := by
  unfold dgL
  split
  · exact Nat.le_trans (dgS_len xs _) h
  exact Nat.zero_le _
set_option maxRecDepth 100000 in
set_option maxHeartbeats 1000000 in
theorem synthDiagonals_any (xs : List Int) (a : Option Addr) (c : Nat) (w : World) (hA : AS w a (ints xs)) : Calls Try.prog 9 #[.slice a xs.length c] w fun e w' => e = .returned (.bool true) ∧ Below w.heap.size w w' := by
  go_enter Try.func9, Try.ntmps9
  refine wk_start ?_
  refine wk_seq ?_
  refine wk_region [0] rfl (by kernel_rfl) ?_
  simp only [qy]
  refine rg_assign ?_
  simp only [qz]
  refine rg_nil (ek_next (wk_seq (wk_seq ?_)))
  refine wk_region [0, 0, 0] rfl (by kernel_rfl) ?_
  simp only [qy]
  refine rg_move ?_
  simp only [qz]
  refine rf_len rfl rfl rfl Try.underlying22 ?_
  simp only [qz]
  refine rfb_gtr rfl rfl rfl rfl ?_
  intro x h1
  cases x
  · (try simp only [qd, ne_eq] at h1)
    simp only [qz]
    have hlx : xs.length ≤ 1000000 := by omega
    refine rg_nil (ek_next (wk_cond_f rfl (wk_skip (ek_next (wk_seq ?_)))))
    refine wk_region [0, 1, 0, 0, 0, 0, 0] rfl (by kernel_rfl) ?_
    simp only [qy]
    refine rg_move ?_
    simp only [qz]
    apply rg_retS (by rfl) (by kernel_rfl)
    case hargs => (simp only [qm, qs, Act.eval]; exact rfl)
    case h => exact fun w hw => mdiag_any xs a c hlx w (hA.kn0 hw)
    case hz => exact (fun _ h => by cases h)
    intro va1 vc1 u1 hO1
    simp only [qz]
    refine rg_move ?_
    simp only [qz]
    refine rf_extract rfl rfl rfl rfl ?_
    simp only [qz]
    refine rf_extract rfl rfl rfl rfl ?_
    simp only [qz]
    refine rg_assign ?_
    simp only [qz]
    refine rg_assign ?_
    simp only [qz]
    refine rg_nil (ek_next (wk_seq ?_))
    refine wk_region [0, 1, 0, 0, 0, 0, 0] rfl (by kernel_rfl) ?_
    simp only [qy]
    refine rg_move ?_
    simp only [qz]
    apply rg_retS (by rfl) (by kernel_rfl)
    case hargs => (simp only [qm, qs, Act.eval]; exact rfl)
    case h => exact fun w hw => rdiag_any xs a c hlx w (hA.kn0 hw)
    case hz => exact (fun _ h => by cases h)
    intro va2 vc2 u2 hO2
    simp only [qz]
    refine rg_move ?_
    simp only [qz]
    refine rf_extract rfl rfl rfl rfl ?_
    simp only [qz]
    refine rf_extract rfl rfl rfl rfl ?_
    simp only [qz]
    refine rg_assign ?_
    simp only [qz]
    refine rg_assign ?_
    simp only [qz]
    refine rg_nil (ek_next (wk_seq (wk_seq ?_)))
    refine wk_region [0, 0, 1, 0, 0, 0, 0, 0, 0, 0, 1, 0, 0] rfl (by kernel_rfl) ?_
    simp only [qy]
    refine rg_move ?_
    simp only [qz]
    refine rg_move ?_
    simp only [qz]
    apply rg_pure (by rfl) (by kernel_rfl)
    case hargs => (simp only [qm, qs, Act.eval]; exact rfl)
    case h => exact fun w hw => sameItems_eq _ _ _ _ _ (dgL_len xs hlx) w (hO1.asT (hw.perm ((((List.Perm.refl _).append_left _).trans (List.perm_append_comm_assoc u2 u1 _)).trans ((List.Perm.refl _).append_left _)))) (hO2.asT (hw.perm (List.Perm.refl _)))
    case hz => exact (fun _ h => by cases h)
    simp only [qz]
    refine rf_not rfl rfl rfl ?_
    simp only [qz]
    refine rg_move ?_
    simp only [qz]
    apply rg_soft_g
    case hg => rfl
    case hy => (intro w hw; go_simp; (try go_bits); exact Yld.mk _ _)
    simp only [qz]
    apply rg_soft_g
    case hg => rfl
    case hy => (intro w hw; go_simp; (try go_bits); exact Yld.mk _ _)
    simp only [qz]
    refine rfb_neq rfl rfl rfl rfl ?_
    intro x h2
    obtain rfl : x = false := by (refine h2.symm.trans ?_; exact decide_eq_false (by omega))
    clear h2
    simp only [qz]
    refine rf_pick rfl rfl rfl ?_
    simp only [qz]
    refine rg_move ?_
    simp only [qz]
    apply rg_pure (by rfl) (by kernel_rfl)
    case hargs => (simp only [qm, qs, Act.eval]; exact rfl)
    case h => exact fun w hw => sane_any w
    case hz => exact (fun _ h => by cases h)
    simp only [qz]
    refine rf_not rfl rfl rfl ?_
    simp only [qz]
    refine rf_pick rfl rfl rfl ?_
    simp only [qz]
    refine rg_nil (ek_next (wk_cond_f rfl (wk_skip (ek_next (wk_seq (wk_seq ?_))))))
    refine wk_region [0, 0] rfl (by kernel_rfl) ?_
    simp only [qy]
    refine rg_move ?_
    simp only [qz]
    refine rfb_neq rfl rfl rfl rfl ?_
    intro x h3
    cases x
    · (try simp only [qd, ne_eq] at h3)
      simp only [qz]
      have hdz := dgE_zero (xs := xs) (by simpa using h3)
      clear h3
      refine rg_nil (ek_next (wk_cond_f rfl (wk_skip (ek_next (wk_seq ?_)))))
      refine wk_region [0, 0, 0, 1, 0, 0, 0, 1, 1, 0] rfl (by kernel_rfl) ?_
      simp only [qy]
      refine rg_move ?_
      simp only [qz]
      refine rf_len rfl rfl rfl Try.underlying22 ?_
      simp only [qz]
      refine rg_move ?_
      simp only [qz]
      have hmo : matO (xs.length : Int) (dgL xs) = .ok (dL xs.length (dv xs xs.length)) := by (rw [(dg_yes hdz.1 hdz.2).1]; exact dg_matO hdz.1.1 hdz.1.2 hdz.2)
      obtain ⟨L, hL⟩ : ∃ L, dL xs.length (dv xs xs.length) = L := ⟨_, rfl⟩
      obtain ⟨hm1, hm2, hm3, hm4⟩ := dg_monomial hdz.1.1 hdz.1.2 hdz.2
      have hLl := dL_len xs.length (dv xs xs.length)
      rw [hL] at hmo hm1 hm2 hm3 hm4 hLl
      have hLm := Nat.mul_le_mul hdz.1.2 hdz.1.2
      have hLb : L.length ≤ 1000000 := by omega
      obtain ⟨P, hP⟩ : ∃ P, ((List.range xs.length).map (fun j : Nat => (j : Int))) = P := ⟨_, rfl⟩
      rw [hP] at hm1
      have hPl : P.length = xs.length := by rw [← hP]; simp
      have hPg : ∀ i, i < xs.length → P[i]? = some (i : Int) := fun i hi => by rw [← hP, List.getElem?_map, List.getElem?_range hi]; rfl
      replace hmo := Lib.hid hmo
      replace hm1 := Lib.hid hm1
      replace hm2 := Lib.hid hm2
      replace hm3 := Lib.hid hm3
      replace hm4 := Lib.hid hm4
      have hPb : P.length ≤ 6 := by omega
      replace hPl := Lib.hid hPl
      clear hP hL hLl hLm
      apply (rg_retM (n := (xs.length : Int)) (zs := L) (c := 0)) (by rfl) (by kernel_rfl)
      case hargs => (simp only [qm, qs, Act.eval]; exact rfl)
      case h => exact fun w hw => by have := matrixOf_any xs.length (dgL xs) va1 vc1 w (hO1.asT (hw.perm ((((List.Perm.refl _).append_left _).trans (List.perm_append_comm_assoc u2 u1 _)).trans ((List.Perm.refl _).append_left _)))); rw [hmo.out, Int.toNat_natCast] at this; exact this
      case hz => exact (fun _ h => by cases h)
      intro va3 vc3 u3 hO3
      simp only [qz]
      refine rg_move ?_
      simp only [qz]
      refine rf_extract rfl rfl rfl rfl ?_
      simp only [qz]
      refine rf_extract rfl rfl rfl rfl ?_
      simp only [qz]
      refine rg_new (cs := ?_) (ty := ?_) (by rfl) (fun w => ?_) (fun _ h => by cases h) (fun g4 => ?_); rotate_left 2
      focus (go_simp; rfl)
      simp only [qz]
      refine rf_storeR (n := 2) rfl rfl (by kernel_rfl) rfl rfl (UpdR.here _ _ _ (Nat.le_of_ble_eq_true rfl)) (fun _ h => by cases h) ?_
      simp only [qz, Nat.reduceAdd]
      refine rg_assign ?_
      simp only [qz]
      refine rg_nil (ek_next (wk_seq ?_))
      refine wk_region [0, 1, 0, 0, 0, 0, 0, 0, 0, 0, 0] rfl (by kernel_rfl) ?_
      simp only [qy]
      refine rf_loadR (n := 2) rfl rfl rfl Try.underlying38 rfl (by kernel_rfl) (fun w hw => Kn.hd0 hw) rfl rfl ?_
      simp only [qz]
      apply (rg_retMo (xp := P) (xt := xs) (ok := true) (c := 0)) (by rfl) (by kernel_rfl)
      case hargs => (simp only [qm, qs, Act.eval]; exact rfl)
      case h => exact fun w hw => by have := mmonomial_any xs.length L va3 vc3 hLb w (hO3.asM (hw.perm (perm_atU (l := [_]) (u := u3) (List.Perm.refl _)))); rw [hm1.out, hm2.out, hm3.out, hm4.out] at this; exact this
      case hz => exact (fun _ h => by cases h)
      intro vp vt cp ct up ut hP hU
      simp only [qz]
      refine rg_move ?_
      simp only [qz]
      refine rf_extract rfl rfl rfl rfl ?_
      simp only [qz]
      refine rf_extract rfl rfl rfl rfl ?_
      simp only [qz]
      refine rf_extract rfl rfl rfl rfl ?_
      simp only [qz]
      refine rf_extract rfl rfl rfl rfl ?_
      simp only [qz]
      refine rg_assign ?_
      simp only [qz]
      refine rg_assign ?_
      simp only [qz]
      refine rg_assign ?_
      simp only [qz]
      refine rg_assign ?_
      simp only [qz]
      refine rg_nil (ek_next (wk_seq (wk_seq ?_)))
      refine wk_region [0, 0, 0, 0, 0, 0, 0, 0, 0, 0, 0, 0, 0, 1, 0, 0] rfl (by kernel_rfl) ?_
      simp only [qy]
      refine rg_move ?_
      simp only [qz]
      refine rf_neq (b := false) rfl rfl rfl rfl (by decide) ?_
      simp only [qz]
      refine rg_move ?_
      simp only [qz]
      apply rg_soft_g
      case hg => rfl
      case hy => (intro w hw; go_simp; (try go_bits); exact Yld.mk _ _)
      simp only [qz]
      refine rf_neq (b := false) rfl rfl rfl rfl (by decide) ?_
      simp only [qz]
      refine rf_pick rfl rfl rfl ?_
      simp only [qz]
      refine rg_move ?_
      simp only [qz]
      apply rg_soft_g
      case hg => rfl
      case hy => (intro w hw; go_simp; (try go_bits); exact Yld.mk _ _)
      simp only [qz]
      refine rf_not rfl rfl rfl ?_
      simp only [qz]
      refine rf_pick rfl rfl rfl ?_
      simp only [qz]
      refine rg_move ?_
      simp only [qz]
      apply rg_soft_g
      case hg => rfl
      case hy => (intro w hw; go_simp; (try go_bits); exact Yld.mk _ _)
      simp only [qz]
      apply rg_soft_g
      case hg => rfl
      case hy => (intro w hw; go_simp; (try go_bits); exact Yld.mk _ _)
      simp only [qz]
      apply rg_pure (by rfl) (by kernel_rfl)
      case hargs => (simp only [qm, qs, Act.eval]; exact rfl)
      case h => exact fun w hw => by have := same_any xs xs vt ct a c (by omega) (by omega) w (hU.asD (hw.perm ((((List.Perm.refl _).append_left _).trans (List.perm_append_comm_assoc up ut _)).trans ((List.Perm.refl _).append_left _)))) (hA.kn0 hw); rw [show sameB xs xs = true from decide_eq_true rfl] at this; exact this
      case hz => exact (fun _ h => by cases h)
      simp only [qz]
      refine rf_not rfl rfl rfl ?_
      simp only [qz]
      refine rf_pick rfl rfl rfl ?_
      simp only [qz]
      refine rg_nil (ek_next (wk_cond_f rfl (wk_skip (ek_next (wk_seq (wk_seq ?_))))))
      obtain ⟨gp, capp, rp, hup, hvp, hlp⟩ := hP.open1 (by have := hPl.out; omega)
      subst hup
      cases hvp
      simp only [List.cons_append, List.nil_append]
      clear hlp
      refine wk_region [0] rfl (by kernel_rfl) ?_
      simp only [qy]
      refine rg_assign ?_
      simp only [qz]
      refine rg_nil (ek_next (wk_block ?_))
      refine wk_loopF [2, 13, 73, 74, 75, 76, 77, 78, 79, 80, 81, 82, 83, 84] (fun mz f s => ∃ (i : Nat), f 13 = .int .i64 i ∧ s = ((gp, .cells (zs P ++ rp).toArray 3) :: (ut ++ ((g4, .cells #[.int .i64 xs.length, .slice va3 L.length vc3] 38) :: (u3 ++ (u2 ++ (u1 ++ [])))))) ∧ mz = P.length - i ∧ i ≤ P.length) ((fun (i : Nat) => P.length - i) (0)) ?_ (by kernel_rfl) ?_
      · exact ⟨0, rfl, rfl, rfl, by omega⟩
      rintro mz f1 s ⟨i, hs1_13, rfl, hn, hd1⟩
      simp only [Act.putF, List.foldl_cons, List.foldl_nil, hs1_13, Act.put, Act.eval, q1, q2, q3, q4, q5, q6, q7, q8, q9, q10, q11, q12, q13, q14, q15, q16, q17, q18, Nat.reduceAdd, Bool.not_true, Bool.not_false]
      clear hs1_13
      refine wk_seq (wk_seq ?_)
      refine wk_region [0, 0, 0, 0] rfl (by kernel_rfl) ?_
      simp only [qy]
      refine rg_move ?_
      simp only [qz]
      refine rg_move ?_
      simp only [qz]
      refine rf_len rfl rfl rfl Try.underlying22 ?_
      simp only [qz]
      refine rfb_lss rfl rfl rfl rfl ?_
      intro x h4
      cases x
      · (try simp only [qd, ne_eq] at h4)
        simp only [qz]
        refine rg_nil (ek_next (wk_cond_f rfl (wk_exit (ek_then_exit (ek_then_exit (ek_block_exit (ek_next (wk_seq ?_))))))))
        refine wk_region [0] rfl (by kernel_rfl) ?_
        simp only [qy]
        refine rg_assign ?_
        simp only [qz]
        refine rg_nil (ek_next (wk_ret ?_))
        refine ek_ret (fun w hw => ⟨rfl, _, res_t _ rfl, ?_⟩)
        (try simp only [qz])
        first | exact ⟨rfl, hw.below⟩ | exact ⟨trivial, hw.below⟩ | exact hw.below
      (try simp only [qd, ne_eq] at h4)
      simp only [qz]
      refine rg_nil (ek_next (wk_cond_t rfl (wk_skip (ek_next (wk_seq (wk_block (wk_seq ?_)))))))
      refine wk_region [0, 0, 0, 0, 0, 0] rfl (by kernel_rfl) ?_
      simp only [qy]
      refine rg_move ?_
      simp only [qz]
      refine rg_move ?_
      simp only [qz]
      refine rf_indexS (n := i) (sz := 1) (j := i) rfl rfl rfl rfl Try.underlying22 (by kernel_rfl) (by omega) (by omega) (by omega) ?_
      simp only [qz]
      refine rf_load (v := .int .i64 (i : Int)) rfl rfl rfl Try.underlying3 rfl (fun w hw => (Kn.hd0 hw).at (by rw [List.getElem?_append_left (by rw [List.length_map]; omega), List.getElem?_map, hPg i (by have := hPl.out; omega)]; rfl)) ?_
      simp only [qz]
      refine rg_move ?_
      simp only [qz]
      refine rfb_neq rfl rfl rfl rfl ?_
      intro x h5
      obtain rfl : x = false := by (refine h5.symm.trans ?_; exact decide_eq_false (by omega))
      clear h5
      simp only [qz]
      refine rg_nil (ek_next (wk_cond_f rfl (wk_skip (ek_block (ek_next ?_)))))
      refine wk_region [0, 0, 0] rfl (by kernel_rfl) ?_
      simp only [qy]
      refine rg_move ?_
      simp only [qz]
      refine rf_add rfl rfl rfl rfl (wrap_ok (by omega) (by omega)) ?_
      simp only [qz]
      refine rg_assign ?_
      simp only [qz]
      refine rg_nil ?_
      refine ek_roundF (P.length - (i + 1)) (by omega) (by kernel_rfl) ?_
      exact ⟨i + 1, rfl, by rfl, by rfl, (by omega)⟩
    (try simp only [qd, ne_eq] at h3)
    simp only [qz]
    refine rg_nil (ek_next (wk_cond_t rfl (wk_seq ?_)))
    refine wk_region [0] rfl (by kernel_rfl) ?_
    simp only [qy]
    refine rg_assign ?_
    simp only [qz]
    refine rg_nil (ek_next (wk_ret (ek_then_ret ?_)))
    refine ek_ret (fun w hw => ⟨rfl, _, res_t _ rfl, ?_⟩)
    (try simp only [qz])
    first | exact ⟨rfl, hw.below⟩ | exact ⟨trivial, hw.below⟩ | exact hw.below
  (try simp only [qd, ne_eq] at h1)
  simp only [qz]
  refine rg_nil (ek_next (wk_cond_t rfl (wk_seq ?_)))
  refine wk_region [1, 0] rfl (by kernel_rfl) ?_
  simp only [qy]
  apply rg_pure (by rfl) (by kernel_rfl)
  case hargs => (simp only [qm, qs, Act.eval]; exact rfl)
  case h => exact fun w hw => sane_any w
  case hz => exact (fun _ h => by cases h)
  simp only [qz]
  refine rg_assign ?_
  simp only [qz]
  refine rg_nil (ek_next (wk_ret (ek_then_ret ?_)))
  refine ek_ret (fun w hw => ⟨rfl, _, res_t _ rfl, ?_⟩)
  (try simp only [qz])
  first | exact ⟨rfl, hw.below⟩ | exact ⟨trivial, hw.below⟩ | exact hw.below

end Go.Proofs.Ytccbinnlnkpplaa
