/- Lists whose elements lie in rows of cells of one length; lists that the call owns; calls that hand back a number or an error. -/
import Derived.Test.YtccbinnlnkpplaaSl
import Derived.Test.YtccbinnlnkpplaaNmPl
namespace Go.Proofs.Ytccbinnlnkpplaa
set_option linter.all false
open Go.RowKit

/-- Elements as rows of cells. -/
structure El (α : Type) where
  sz : Nat
  ec : α → List Value
  dflt : α
  pos : 0 < sz
  len : ∀ x, (ec x).length = sz
  one : ∀ x, ∀ v ∈ ec x, v.oneCell' = true
section
variable {α : Type} (E : El α)
def El.flat (xs : List α) : List Value := xs.flatMap E.ec
def El.at (xs : List α) (k : Nat) : α := xs.getD k E.dflt
theorem El.flat_cons (x : α) (xs : List α) : E.flat (x :: xs) = E.ec x ++ E.flat xs := by simp [El.flat]
theorem El.flat_app (xs ys : List α) : E.flat (xs ++ ys) = E.flat xs ++ E.flat ys := by simp [El.flat]
theorem El.flat_one (x : α) : E.flat [x] = E.ec x := by simp [El.flat]
theorem El.flat_len : ∀ xs : List α, (E.flat xs).length = xs.length * E.sz
  | [] => by simp [El.flat]
  | x :: xs => by rw [E.flat_cons, List.length_append, E.len, El.flat_len xs, List.length_cons, Nat.add_mul]; omega
theorem El.at_mem {xs : List α} {k : Nat} (h : k < xs.length) : E.at xs k ∈ xs := by
  unfold El.at; rw [List.getD_eq_getElem?_getD, List.getElem?_eq_getElem h]; exact List.getElem_mem h
theorem El.at_app {xs : List α} {k : Nat} (ys : List α) (h : k < xs.length) : E.at (xs ++ ys) k = E.at xs k := by
  unfold El.at; rw [List.getD_eq_getElem?_getD, List.getD_eq_getElem?_getD, List.getElem?_append_left h]
theorem El.at_snoc (xs : List α) (y : α) : E.at (xs ++ [y]) xs.length = y := by
  unfold El.at; rw [List.getD_eq_getElem?_getD]; simp
theorem El.get : ∀ (l : List α) (k r : Nat), k < l.length → r < E.sz → (E.flat l)[k * E.sz + r]? = (E.ec (E.at l k))[r]?
  | [], k, r, hk, _ => by simp at hk
  | x :: l, 0, r, _, hr => by
    rw [E.flat_cons, Nat.zero_mul, Nat.zero_add, List.getElem?_append_left (by rw [E.len]; exact hr)]
    simp [El.at]
  | x :: l, k + 1, r, hk, hr => by
    have e2 : (k + 1) * E.sz + r - (E.ec x).length = k * E.sz + r := by rw [E.len, Nat.add_mul]; omega
    rw [E.flat_cons, List.getElem?_append_right (by rw [E.len, Nat.add_mul]; omega), e2, El.get l k r (by simpa using hk) hr]
    simp [El.at]
theorem El.flat_one' (xs : List α) : ∀ v ∈ E.flat xs, v.oneCell' = true := by
  intro v hv
  obtain ⟨x, _, hx⟩ := List.mem_flatMap.1 hv
  exact E.one x v hx
theorem El.ext_at {xs ys : List α} (hl : xs.length = ys.length) (h : ∀ k, k < xs.length → E.at xs k = E.at ys k) : xs = ys := by
  apply List.ext_getElem hl
  intro j h1 h2
  have := h j h1
  unfold El.at at this
  rw [List.getD_eq_getElem?_getD, List.getD_eq_getElem?_getD, List.getElem?_eq_getElem h1, List.getElem?_eq_getElem h2] at this
  simpa using this
/-- An element at its place. -/
def At (w : World) (b off : Nat) (x : α) : Prop := ∀ r, r < E.sz → w.cell? ⟨b, off + r, none⟩ = (E.ec x)[r]?
variable {E}
theorem AS.openG {w : World} {a : Option Addr} {xs : List α} (h : AS w a (E.flat xs)) (hn : 0 < xs.length) :
    ∃ b off, a = some ⟨b, off, none⟩ ∧ b < w.heap.size ∧ ∀ j, j < xs.length → At E w b (off + j * E.sz) (E.at xs j) := by
  have hl := E.flat_len xs
  have hp := E.pos
  have hne : E.flat xs ≠ [] := by
    intro e
    rw [e, List.length_nil] at hl
    have := Nat.mul_pos hn hp
    omega
  obtain ⟨b, off, rfl, hlt, hc⟩ := h hne
  refine ⟨b, off, rfl, hlt, fun j hj r hr => ?_⟩
  rw [Nat.add_assoc, hc (j * E.sz + r) (by rw [hl]; have := Nat.mul_le_mul_right E.sz (show j + 1 ≤ xs.length by omega); rw [Nat.add_mul] at this; omega)]
  exact E.get xs j r hj hr
theorem At.kn {B w : World} {F : List Nat} {s : List Blk} {b off : Nat} {x : α} (h : At E B b off x) (K : Kn B F s w) (hb : b < B.heap.size) (hF : b ∉ F) : At E w b off x :=
  fun r hr => (K.cellB hb hF _).trans (h r hr)
theorem At.below {w w' : World} {b off : Nat} {x : α} (h : At E w b off x) (hb : b < w.heap.size) (hB : Below w.heap.size w w') : At E w' b off x :=
  fun r hr => (hB.cell (p := ⟨b, off + r, none⟩) hb).trans (h r hr)
/-- A list that the call owns; e: the elements' type. -/
def OwnG (E : El α) (e : Nat) (u : List Blk) (v : Value) (xs : List α) : Prop := Own e E.sz u v xs.length (E.flat xs)
theorem OwnG.nil {e : Nat} : OwnG E e [] (.slice none 0 0) [] := Own.nil _ _
theorem OwnG.as {e : Nat} {u s : List Blk} {v : Value} {xs : List α} {B w : World} {F : List Nat} (h : OwnG E e u v xs) (K : Kn B F (u ++ s) w) : ∃ a cap, v = .slice a xs.length cap ∧ AS w a (E.flat xs) := Own.as h K
/-- A call that hands back a new list. -/
def RetG (E : El α) (e : Nat) (w : World) (f : Value → Value) (T : List α → Prop) (en : Ending) (w' : World) : Prop := ∃ v u zs, en = .returned (f v) ∧ OwnG E e u v zs ∧ T zs ∧ Made w u w'
end

section
variable {R : Option Nat} {P : Program} {ops : Array Oper} {Q : Exit → Act → World → Prop} {B : World} {F : List Nat} {s0 : Option (List Blk × List Blk)}
variable {l : List (Oper × Nat)} {a : Act} {s S : List Blk} {d : Option Tmp} {op : Op} {t : TypeId} {p : String} {af : Array Edge} {v : Value}
variable {α : Type} {E : El α}
/-- append of known elements. -/
theorem rg_appendG {so xo : Operand} {ty e : Nat} {i : TypeInfo} {z : Value} {u : List Blk} {xs ys : List α} {ad : Addr} {c m : Nat} {gd : Option (Nat × Bool)} (hg : Region.wanted ⟨d, .call ⟨.builtin .append, #[so, xo], #[ty, ty]⟩, t, p, af, gd⟩ (yielded ops a.tmps) = true)
    (ht : P.underlying ty = some (.slice e)) (hi : P.info? e = some i) (hz : i.zero = some z) (hsize : i.size = E.sz) (hzs : z.cells.size = E.sz) (hby : i.bytes ≤ 1000)
    (hs : a.eval so = v) (hown : OwnG E e u v xs) (hx : a.eval xo = .slice (some ad) m c) (hm : m = ys.length) (hn : xs.length + ys.length ≤ 100000000) (hp : S.Perm (u ++ s))
    (hnews : ∀ w, Kn B F S w → ∀ j x, (E.flat ys)[j]? = some x → w.cell? (ad.add j) = some x)
    (hzz : ∀ z ∈ s0, z.1.Sublist s) (h : ∀ u' v', OwnG E e u' v' (xs ++ ys) → Rg R P ops Q B F s0 l (a.put d v') (u' ++ s)) :
    Rg R P ops Q B F s0 ((⟨d, .call ⟨.builtin .append, #[so, xo], #[ty, ty]⟩, t, p, af, gd⟩, 1) :: l) a S := by
  subst hm
  refine rg_append (u := u) (s := s) (i := i) (z := z) (size := E.sz) (bytes := i.bytes) (n := xs.length) (m := ys.length) (c := c) (xs := E.flat xs) (news := E.flat ys) (ad := ad) hg ht hi hz hsize rfl hzs E.pos hs hown hx
    (E.flat_len ys) hnews (E.flat_one' ys) (by simp only [maxLen]; omega) (by have := Nat.mul_le_mul hn hby; omega) hp hzz ?_
  intro u' v' hO _
  refine h u' v' ?_
  unfold OwnG
  rw [E.flat_app, List.length_append]
  exact hO
/-- append of one element that stands in a block of its own. -/
theorem rg_append1 {so xo : Operand} {ty e : Nat} {i : TypeInfo} {z : Value} {u : List Blk} {xs : List α} {x : α} {g : Nat} {gd : Option (Nat × Bool)} (hg : Region.wanted ⟨d, .call ⟨.builtin .append, #[so, xo], #[ty, ty]⟩, t, p, af, gd⟩ (yielded ops a.tmps) = true)
    (ht : P.underlying ty = some (.slice e)) (hi : P.info? e = some i) (hz : i.zero = some z) (hsize : i.size = E.sz) (hzs : z.cells.size = E.sz) (hby : i.bytes ≤ 1000)
    (hs : a.eval so = v) (hown : OwnG E e u v xs) (hx : a.eval xo = .slice (some ⟨g, 0, none⟩) 1 1) (hn : xs.length ≤ 10000000) (hp : S.Perm (u ++ s))
    (hnews : ∀ w, Kn B F S w → Hd w g e (E.ec x).toArray)
    (hzz : ∀ z ∈ s0, z.1.Sublist s) (h : ∀ u' v', OwnG E e u' v' (xs ++ [x]) → Rg R P ops Q B F s0 l (a.put d v') (u' ++ s)) :
    Rg R P ops Q B F s0 ((⟨d, .call ⟨.builtin .append, #[so, xo], #[ty, ty]⟩, t, p, af, gd⟩, 1) :: l) a S :=
  rg_appendG (ys := [x]) hg ht hi hz hsize hzs hby hs hown hx rfl (by simp; omega) hp (fun w K j y hj => by
    have hd := (hnews w K).cell j
    have e1 : (⟨g, 0, none⟩ : Addr).add j = ⟨g, j, none⟩ := by unfold Addr.add; split <;> simp_all
    rw [E.flat_one] at hj
    rw [e1, hd, ← hj]
    simp) hzz h

/-- A call that hands back one of two values. -/
theorem rg_or {f : Nat} {cargs : Array Operand} {at_ : Array TypeId} {args : Array Value} {gd : Option (Nat × Bool)} {X : Value → Prop}
    (hg : Region.wanted ⟨d, .call ⟨.value (.func f), cargs, at_⟩, t, p, af, gd⟩ (yielded ops a.tmps) = true) (hgo : isGo P f = true)
    (h : ∀ w, Kn B F s w → Calls P f args w (fun e w' => ∃ v, e = .returned v ∧ X v ∧ Below w.heap.size w w')) (hargs : cargs.map a.eval = args)
    (hz : ∀ z ∈ s0, z.1.Sublist s) (k : ∀ v, X v → Rg R P ops Q B F s0 l (a.put d v) s) :
    Rg R P ops Q B F s0 ((⟨d, .call ⟨.value (.func f), cargs, at_⟩, t, p, af, gd⟩, 1) :: l) a s :=
  rg_call hg hgo hargs fun w K => (h w K).mono fun e w' ⟨v, he, hX, hb⟩ => ⟨v, s, he, K.call hb, hz, k v hX⟩
end

/-! ### Numbers -/
abbrev nmC (z : Nm) : List Value := [.int .i64 z.a, .int .i64 z.b, .int .i64 z.c, .int .i64 z.d, .int .i64 z.k]
abbrev nmV (z : Nm) : Value := .agg #[.int .i64 z.a, .int .i64 z.b, .int .i64 z.c, .int .i64 z.d, .int .i64 z.k]
abbrev NmE : El Nm := ⟨5, nmC, Nm.zero, by decide, fun _ => rfl, fun x v hv => by simp at hv; rcases hv with rfl | rfl | rfl | rfl | rfl <;> rfl⟩
abbrev nms (xs : List Nm) : List Value := NmE.flat xs
abbrev nm (xs : List Nm) (k : Nat) : Nm := NmE.at xs k
structure NmAt (w : World) (b off : Nat) (z : Nm) : Prop where
  c0 : w.cell? ⟨b, off, none⟩ = some (.int .i64 z.a)
  c1 : w.cell? ⟨b, off + 1, none⟩ = some (.int .i64 z.b)
  c2 : w.cell? ⟨b, off + 2, none⟩ = some (.int .i64 z.c)
  c3 : w.cell? ⟨b, off + 3, none⟩ = some (.int .i64 z.d)
  c4 : w.cell? ⟨b, off + 4, none⟩ = some (.int .i64 z.k)
theorem AS.openN {w : World} {a : Option Addr} {xs : List Nm} (h : AS w a (nms xs)) (hn : 0 < xs.length) :
    ∃ b off, a = some ⟨b, off, none⟩ ∧ b < w.heap.size ∧ ∀ j, j < xs.length → NmAt w b (off + j * 5) (nm xs j) := by
  obtain ⟨b, off, ha, hb, hc⟩ := h.openG hn
  exact ⟨b, off, ha, hb, fun j hj => ⟨hc j hj 0 (by decide), hc j hj 1 (by decide), hc j hj 2 (by decide), hc j hj 3 (by decide), hc j hj 4 (by decide)⟩⟩
theorem NmAt.kn {B w : World} {F : List Nat} {s : List Blk} {b off : Nat} {z : Nm} (h : NmAt B b off z) (K : Kn B F s w) (hb : b < B.heap.size) (hF : b ∉ F) : NmAt w b off z :=
  ⟨(K.cellB hb hF _).trans h.c0, (K.cellB hb hF _).trans h.c1, (K.cellB hb hF _).trans h.c2, (K.cellB hb hF _).trans h.c3, (K.cellB hb hF _).trans h.c4⟩
/-- A number, or the number 0 and an error. -/
def numV (r : NR) : Value := match r with
  | .ok z => .tuple #[nmV z, .int .i64 0]
  | .error c => .tuple #[nmV Nm.zero, .int .i64 c]
section
variable {R : Option Nat} {P : Program} {ops : Array Oper} {Q : Exit → Act → World → Prop} {B : World} {F : List Nat} {s0 : Option (List Blk × List Blk)}
variable {l : List (Oper × Nat)} {a : Act} {s S : List Blk} {d : Option Tmp} {op : Op} {t : TypeId} {p : String} {af : Array Edge} {v : Value}
theorem rg_num {f : Nat} {cargs : Array Operand} {at_ : Array TypeId} {args : Array Value} {r : NR} {c0 : Int} {gd : Option (Nat × Bool)} (hg : Region.wanted ⟨d, .call ⟨.value (.func f), cargs, at_⟩, t, p, af, gd⟩ (yielded ops a.tmps) = true) (hgo : isGo P f = true)
    (h : ∀ w, Kn B F s w → Calls P f args w (fun e w' => e = .returned (numV r) ∧ Below w.heap.size w w')) (hargs : cargs.map a.eval = args)
    (hz : ∀ z ∈ s0, z.1.Sublist s) (hc : ∀ c, r = .error c → c = c0) (ke : r = .error c0 → Rg R P ops Q B F s0 l (a.put d (.tuple #[nmV Nm.zero, .int .i64 c0])) s)
    (k : ∀ z, r = .ok z → Rg R P ops Q B F s0 l (a.put d (.tuple #[nmV z, .int .i64 0])) s) :
    Rg R P ops Q B F s0 ((⟨d, .call ⟨.value (.func f), cargs, at_⟩, t, p, af, gd⟩, 1) :: l) a s := by
  refine rg_pure hg hgo h hargs hz ?_
  cases hr : r with
  | ok z => exact k z hr
  | error c => have := hc c hr; subst this; exact ke hr
end
end Go.Proofs.Ytccbinnlnkpplaa
