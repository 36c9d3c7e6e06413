/- Rows of a block that the call owns: read, replaced. -/
import Derived.Test.YtccbinnlnkpplaaSq
import Derived.Test.YtccbinnlnkpplaaSg
import Derived.Test.YtccbinnlnkpplaaFa
namespace Go.Proofs.Ytccbinnlnkpplaa
set_option linter.all false
open Go.RowKit

theorem setMany_list : ∀ (vs l : List Value) (i : Nat), i + vs.length ≤ l.length → setMany l.toArray i vs = (l.take i ++ (vs ++ l.drop (i + vs.length))).toArray
  | [], l, i, _ => by
    show l.toArray = (l.take i ++ ([] ++ l.drop (i + 0))).toArray
    rw [List.nil_append, Nat.add_zero, List.take_append_drop]
  | v :: vs, l, i, h => by
    have hi : i < l.length := by simp at h; omega
    have e1 : l.toArray.setIfInBounds i v = (l.set i v).toArray := by simp
    rw [setMany, e1, setMany_list vs (l.set i v) (i + 1) (by simp at h ⊢; omega)]
    congr 1
    have e2 : (l.set i v).take (i + 1) = l.take i ++ [v] := by
      rw [List.take_add_one, List.take_set_of_le (Nat.le_refl i), List.getElem?_set_self hi]
      rfl
    have e3 : (l.set i v).drop (i + 1 + vs.length) = l.drop (i + (v :: vs).length) := by
      rw [List.drop_set_of_lt Ox]
      congr 1
      simp only [List.length_cons]; omega
    rw [e2, e3, List.append_assoc]
    rfl
section
variable {α : Type} {E : El α}
theorem El.row_get : ∀ (xs : List α) (rest : List Value) (k : Nat), k < xs.length → ((E.flat xs ++ rest).drop (k * E.sz)).take E.sz = E.ec (E.at xs k)
  | [], _, k, h => by simp at h
  | x :: t, rest, 0, _ => by
    rw [El.flat_cons, Nat.zero_mul, List.drop_zero, List.append_assoc, List.take_append_of_le_length (by rw [E.len]; exact Nat.le_refl _), List.take_of_length_le (by rw [E.len]; exact Nat.le_refl _)]
    rfl
  | x :: t, rest, k + 1, h => by
    have e : (k + 1) * E.sz = (E.ec x).length + k * E.sz := by rw [E.len, Nat.add_mul]; omega
    rw [El.flat_cons, List.append_assoc, e, List.drop_append, List.drop_eq_nil_of_le Ox, List.nil_append, Nat.add_sub_cancel_left, El.row_get t rest k (by simpa using h)]
    rfl
theorem fl_range {w : World} {g t k : Nat} {xs : List α} {rest : List Value} (h : Hd w g t (E.flat xs ++ rest).toArray) (hk : k < xs.length) : w.rangeAt g (0 + k * E.sz) (E.ec (E.at xs k)) := by
  have := cells_range h (0 + k * E.sz) E.sz
  rw [Nat.zero_add] at this ⊢
  have e : (((E.flat xs ++ rest).toArray.toList.drop (k * E.sz)).take E.sz) = E.ec (E.at xs k) := El.row_get xs rest k hk
  rwa [e] at this
theorem El.flat_set : ∀ (xs : List α) (k : Nat) (y : α) (rest : List Value), k < xs.length → (E.flat xs ++ rest).take (k * E.sz) ++ (E.ec y ++ (E.flat xs ++ rest).drop (k * E.sz + E.sz)) = E.flat (xs.set k y) ++ rest
  | [], k, _, _, h => by simp at h
  | x :: t, 0, y, rest, _ => by
    have hx := E.len x
    rw [List.set_cons_zero, El.flat_cons, El.flat_cons, Nat.zero_mul, List.take_zero, List.nil_append, Nat.zero_add, List.append_assoc, List.append_assoc, ← hx, List.drop_left]
  | x :: t, k + 1, y, rest, h => by
    have hx := E.len x
    have e : (k + 1) * E.sz = (E.ec x).length + k * E.sz := by rw [hx, Nat.add_mul]; omega
    rw [List.set_cons_succ, El.flat_cons, El.flat_cons, List.append_assoc, List.append_assoc, e, List.take_length_add_append, List.append_assoc, Nat.add_assoc, List.drop_length_add_append, El.flat_set t k y rest (by simpa using h)]
theorem fl_set {xs : List α} {k : Nat} {y : α} {rest : List Value} (hk : k < xs.length) : setMany (E.flat xs ++ rest).toArray (0 + k * E.sz) (E.ec y) = (E.flat (xs.set k y) ++ rest).toArray := by
  have hl := E.flat_len xs
  have hb := Nat.mul_le_mul_right E.sz (show k + 1 ≤ xs.length by omega)
  rw [Nat.add_mul, Nat.one_mul] at hb
  rw [Nat.zero_add, setMany_list _ _ _ (by rw [E.len, List.length_append]; omega), E.len, El.flat_set xs k y rest hk]
theorem fl_size {xs : List α} {k : Nat} {rest : List Value} {y : α} (hk : k < xs.length) : 0 + k * E.sz + (E.ec y).length ≤ ((E.flat xs ++ rest).toArray).size := by
  have hl := E.flat_len xs
  have hb := Nat.mul_le_mul_right E.sz (show k + 1 ≤ xs.length by omega)
  rw [Nat.add_mul, Nat.one_mul] at hb
  rw [E.len]
  simp only [List.size_toArray, List.length_append]
  omega
theorem El.at_set (xs : List α) (k j : Nat) (y : α) (hk : k < xs.length) : E.at (xs.set k y) j = if j = k then y else E.at xs j := by
  unfold El.at
  rw [List.getD_eq_getElem?_getD, List.getElem?_set, List.getD_eq_getElem?_getD]
  by_cases h : k = j
  · subst h; rw [if_pos rfl, if_pos hk, if_pos rfl]; rfl
  · rw [if_neg h, if_neg (fun e => h e.symm)]
theorem made_fl (x : α) (n : Nat) : madeCells (E.ec x).toArray (n * E.sz) = (E.flat (List.replicate n x)).toArray := by
  have hp := E.pos
  refine Array.ext (by rw [size_madeCells]; simp [El.flat_len]) fun i h1 h2 => ?_
  rw [size_madeCells] at h1
  have hq : i / E.sz < n := Nat.div_lt_of_lt_mul (by rw [Nat.mul_comm]; exact h1)
  have hr : i % E.sz < E.sz := Nat.mod_lt _ hp
  have hg := E.get (List.replicate n x) (i / E.sz) (i % E.sz) (by simpa using hq) hr
  have hi : i / E.sz * E.sz + i % E.sz = i := by rw [Nat.mul_comm]; exact Nat.div_add_mod i E.sz
  have ha : E.at (List.replicate n x) (i / E.sz) = x := by
    unfold El.at
    rw [List.getD_eq_getElem?_getD, List.getElem?_replicate, if_pos hq]
    rfl
  rw [hi, ha] at hg
  have hx : i % E.sz < (E.ec x).length := by rw [E.len]; exact hr
  have e1 : (E.flat (List.replicate n x))[i]? = some ((E.ec x)[i % E.sz]) := by rw [hg, List.getElem?_eq_getElem hx]
  have hl : i < (E.flat (List.replicate n x)).length := by simpa using h2
  have e2 : (E.flat (List.replicate n x))[i] = (E.ec x)[i % E.sz] := by
    rw [List.getElem?_eq_getElem hl] at e1
    exact Option.some.inj e1
  simp only [List.getElem_toArray]
  rw [e2]
  unfold madeCells
  simp only [Array.getElem_map, Array.getElem_range, List.size_toArray, E.len]
  rw [getElem!_pos _ _ (by simpa [E.len] using hr)]
  rfl
end
end Go.Proofs.Ytccbinnlnkpplaa
