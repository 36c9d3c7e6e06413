/- What a method leaves that changes one block that was there before. -/
import Derived.Test.YtpbbbfglecbceaaEn12
namespace Go.Proofs.Ytpbbbfglecbceaa
set_option linter.all false
open Go.RowKit

/-- All blocks but g are what they were. -/
structure But (g : Nat) (w w' : World) : Prop where
  os : w'.os = w.os
  tape : w'.tape = w.tape
  output : w'.output = w.output
  size : w.heap.size ≤ w'.heap.size
  block : ∀ k, k < w.heap.size → k ≠ g → w'.heap[k]? = w.heap[k]?

theorem But.refl (g : Nat) (w : World) : But g w w := ⟨rfl, rfl, rfl, Nat.le_refl _, fun _ _ _ => rfl⟩
theorem But.trans {g : Nat} {a b c : World} (h : But g a b) (k : But g b c) : But g a c :=
  ⟨k.os.trans h.os, k.tape.trans h.tape, k.output.trans h.output, Nat.le_trans h.size k.size, fun i hi hg => (k.block i (Nat.lt_of_lt_of_le hi h.size) hg).trans (h.block i hi hg)⟩
theorem But.below {g : Nat} {a b c : World} (h : But g a b) (k : Below b.heap.size b c) : But g a c :=
  ⟨k.os.trans h.os, k.tape.trans h.tape, k.output.trans h.output, Nat.le_trans h.size k.size, fun i hi hg => (k.block i (Nat.lt_of_lt_of_le hi h.size)).trans (h.block i hi hg)⟩
theorem But.drew {g : Nat} {a w : World} (h : But g a w) : But g a w.drew := ⟨h.os, h.tape, h.output, h.size, h.block⟩
theorem But.alloc {g : Nat} {a w : World} (h : But g a w) (o : Obj) : But g a (w.alloc o) :=
  h.below ((Below.refl _ w).alloc (Nat.le_refl _) o)
theorem But.set {g : Nat} {a w : World} (h : But g a w) {p : Addr} (hp : p.block = g ∨ a.heap.size ≤ p.block) (u : Value) : But g a (w.setCell p u) :=
  ⟨h.os, h.tape, h.output, by rw [World.size_setCell]; exact h.size, fun k hk hg => (Below.heap_setCell w p u k (by omega)).trans (h.block k hk hg)⟩
theorem Hd.but {w w' : World} {g a t : Nat} {cs : Array Value} (h : Hd w a t cs) (hb : But g w w') (hne : a ≠ g) : Hd w' a t cs := (hb.block a h.lt hne).trans h
/-- Where g is no older than B, what lies below B is kept. -/
theorem But.far {B g : Nat} {a w w' : World} (hw : Below B a w) (h : But g w w') (hg : B ≤ g) (hB : B ≤ w.heap.size) : Below B a w' :=
  ⟨h.os.trans hw.os, h.tape.trans hw.tape, h.output.trans hw.output, Nat.le_trans hw.size h.size, fun k hk => (h.block k (by omega) (by omega)).trans (hw.block k hk)⟩
end Go.Proofs.Ytpbbbfglecbceaa
