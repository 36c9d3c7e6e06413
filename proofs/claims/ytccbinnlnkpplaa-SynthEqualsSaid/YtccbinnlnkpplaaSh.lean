/- Short names for lemmas that printed walks use at every step. -/
import Derived.Test.YtccbinnlnkpplaaSl
namespace Go.Proofs.Ytccbinnlnkpplaa
set_option linter.all false
theorem q1 {α : Type} {xs : List α} {i : Nat} {a : α} : xs.toArray.setIfInBounds i a = (xs.set i a).toArray := List.setIfInBounds_toArray ..
theorem q2 {α : Type} {x a : α} {xs : List α} : (x :: xs).set 0 a = a :: xs := rfl
theorem q3 {α : Type} {x a : α} {xs : List α} {n : Nat} : (x :: xs).set (n + 1) a = x :: xs.set n a := rfl
theorem q4 {α : Type} {xs : Array α} {i : Nat} {d : α} : xs.getD i d = xs[i]?.getD d := Array.getD_eq_getD_getElem? ..
theorem q5 {α : Type} {xs : List α} {i : Nat} : xs.toArray[i]? = xs[i]? := List.getElem?_toArray ..
theorem q6 {α : Type} {x : α} {xs : List α} : (x :: xs)[0]? = some x := rfl
theorem q7 {α : Type} {x : α} {xs : List α} {n : Nat} : (x :: xs)[n + 1]? = xs[n]? := rfl
theorem q8 {α : Type} {x y : α} : (some x).getD y = x := rfl
theorem sn {α : Type} : ([] : List α).Sublist [] := .slnil
theorem sc {α : Type} {l m : List α} (a : α) (h : l.Sublist m) : (a :: l).Sublist (a :: m) := h.cons₂ a
theorem sk {α : Type} {l m : List α} (a : α) (h : l.Sublist m) : l.Sublist (a :: m) := .cons a h
end Go.Proofs.Ytccbinnlnkpplaa
