/- Whole numbers of any size: how they lie in memory. -/
import Derived.Test.YtjeijnjaleldkaaSq
import Derived.Test.YtjeijnjaleldkaaEq
import Derived.Test.YtjeijnjaleldkaaBgPl
namespace Go.Proofs.Ytjeijnjaleldkaa
set_option linter.all false
open Go.RowKit

abbrev DgE : El Int := ⟨1, fun x => [.int .u32 x], 0, by decide, fun _ => rfl, fun x v hv => by simp at hv; subst hv; rfl⟩
abbrev us (xs : List Int) : List Value := DgE.flat xs
theorem us_get (xs : List Int) (k : Nat) (h : k < xs.length) : (us xs)[k]? = some (.int .u32 (dig xs k)) := by
  have := DgE.get xs k 0 h (by decide)
  simp only [Nat.mul_one, Nat.add_zero] at this
  exact this
theorem us_len (xs : List Int) : (us xs).length = xs.length := by rw [DgE.flat_len]; simp
theorem AS.openU {w : World} {a : Option Addr} {xs : List Int} (h : AS w a (us xs)) (hn : 0 < xs.length) :
    ∃ b off, a = some ⟨b, off, none⟩ ∧ b < w.heap.size ∧ ∀ j, j < xs.length → w.cell? ⟨b, off + j, none⟩ = some (.int .u32 (dig xs j)) := by
  obtain ⟨b, off, ha, hb, hc⟩ := h.openG hn
  exact ⟨b, off, ha, hb, fun j hj => by have := hc j hj 0 (by decide); simpa [dig, El.at] using this⟩
theorem us_take (xs : List Int) (m : Nat) : us (xs.take m) = (us xs).take m := by
  have : ∀ ys : List Int, us ys = ys.map (.int .u32) := fun ys => by
    induction ys with
    | nil => rfl
    | cons y ys ih => rw [us, El.flat_cons, List.map_cons, ← ih]; rfl
  rw [this, this, List.map_take]
theorem AS.take {w : World} {a : Option Addr} {xs : List Int} (h : AS w a (us xs)) (m : Nat) : AS w a (us (xs.take m)) := by
  intro hne
  have hne' : us xs ≠ [] := by intro e; rw [us_take, e] at hne; simp at hne
  obtain ⟨b, off, ha, hb, hc⟩ := h hne'
  refine ⟨b, off, ha, hb, fun j hj => ?_⟩
  rw [us_take] at hj ⊢
  rw [List.length_take] at hj
  rw [hc j Ox, List.getElem?_take, if_pos Ox]
/-- A slice that holds the digits of n. -/
def SA (w : World) (s : Value) (n : Nat) : Prop := ∃ a c, s = .slice a (digs n).length c ∧ AS w a (us (digs n))
/-- The same wherever the blocks u are what they are. -/
def SU (u : List Blk) (s : Value) (n : Nat) : Prop := (∃ a c, s = .slice a (digs n).length c) ∧ ∀ (B : World) (F : List Nat) (w : World), Kn B F u w → SA w s n
theorem SU.mono {u v : List Blk} {s : Value} {n : Nat} (h : SU u s n) (hs : u.Sublist v) : SU v s n := ⟨h.1, fun B F w K => h.2 B F w (K.sub hs)⟩
theorem SU.at {u s : List Blk} {v : Value} {n : Nat} {B w : World} {F : List Nat} (h : SU u v n) (K : Kn B F s w) (hs : u.Sublist s) : SA w v n := h.2 B F w (K.sub hs)
theorem SA.below {w w' : World} {s : Value} {n : Nat} (h : SA w s n) (hb : Below w.heap.size w w') : SA w' s n := let ⟨a, c, e, hA⟩ := h; ⟨a, c, e, hA.below hb⟩
theorem SA.kn {B w : World} {s : List Blk} {v : Value} {n : Nat} (h : SA B v n) (K : Kn B [] s w) : SA w v n := let ⟨a, c, e, hA⟩ := h; ⟨a, c, e, hA.kn0 K⟩
theorem SU.own {e : Nat} {u : List Blk} {v : Value} {n : Nat} {xs : List Int} (h : OwnG DgE e u v xs) (m : Nat) (hm : m ≤ xs.length) (hd : xs.take m = digs n) :
    ∀ {a : Option Addr} {c : Nat}, v = .slice a xs.length c → SU u (.slice a m c) n := by
  intro a c hv
  refine ⟨⟨a, c, by rw [← hd, List.length_take, Nat.min_eq_left hm]⟩, fun B F w K => ?_⟩
  obtain ⟨a', cap, e1, hA⟩ := h.as (s := []) (by simpa using K)
  rw [hv] at e1
  injection e1 with e1 e2 e3
  subst e1 e3
  refine ⟨a, c, ?_, ?_⟩
  · rw [← hd, List.length_take, Nat.min_eq_left hm]
  · rw [← hd]; exact hA.take m
theorem SU.nil : SU [] (.slice none 0 0) 0 := ⟨⟨none, 0, by rw [digs_zero]; rfl⟩, fun B F w K => ⟨none, 0, by rw [digs_zero]; rfl, by rw [digs_zero]; exact AS.nil⟩⟩
theorem SA.nil {w : World} : SA w (.slice none 0 0) 0 := ⟨none, 0, by rw [digs_zero]; rfl, by rw [digs_zero]; exact AS.nil⟩
/-- A whole number as a value; s: its digits. -/
abbrev bgV (n : Int) (s : Value) : Value := .agg #[.bool (decide (n < 0)), s]
/-- A call that hands back a new whole number. -/
def RetB (w : World) (n : Int) (e : Ending) (w' : World) : Prop := ∃ v u, e = .returned v ∧ (∃ s, v = bgV n s ∧ SU u s n.natAbs) ∧ Made w u w'
/-- A call that hands back new digits. -/
def RetD (w : World) (n : Nat) (e : Ending) (w' : World) : Prop := ∃ v u, e = .returned v ∧ SU u v n ∧ Made w u w'
theorem uInfo : (Try.prog.info? 153).map (fun i => (i.zero, i.size, i.bytes)) = some (some (.int .u32 0), 1, 4) := by kernel_rfl
theorem ip {P : Program} {t : TypeId} {z : Option Value} {n b : Nat} (h : (P.info? t).map (fun i => (i.zero, i.size, i.bytes)) = some (z, n, b)) : ∃ i, P.info? t = some i ∧ i.zero = z ∧ i.size = n ∧ i.bytes = b := by
  cases hi : P.info? t with
  | none => rw [hi] at h; cases h
  | some i => rw [hi] at h; simp at h; exact ⟨i, rfl, h.1, h.2.1, h.2.2⟩
theorem OwnG.val {α : Type} {E : El α} {e : Nat} {u : List Blk} {v : Value} {xs : List α} (h : OwnG E e u v xs) : ∃ a cap, v = .slice a xs.length cap ∧ xs.length ≤ cap := Own.val h
theorem OwnG.as' {α : Type} {E : El α} {e : Nat} {u s : List Blk} {a : Option Addr} {n c : Nat} {xs : List α} {B w : World} {F : List Nat} (h : OwnG E e u (.slice a n c) xs) (K : Kn B F (u ++ s) w) : AS w a (E.flat xs) := by
  obtain ⟨a', cap, e1, hA⟩ := h.as K
  injection e1 with e1 e2 e3
  subst e1
  exact hA
section
variable {R : Option Nat} {ops : Array Oper} {Q : Exit → Act → World → Prop} {B : World} {F : List Nat} {s0 : Option (List Blk × List Blk)}
variable {l : List (Oper × Nat)} {a : Act} {s S : List Blk} {d : Option Tmp} {t : TypeId} {p : String} {af : Array Edge} {v : Value}
/-- append of one digit, which stands in a block at the list's head. -/
theorem rg_pushU {so xo : Operand} {u : List Blk} {xs : List Int} {g1 : Nat} {x : Int} {gd : Option (Nat × Bool)} (hg : Region.wanted ⟨d, .call ⟨.builtin .append, #[so, xo], #[68, 68]⟩, t, p, af, gd⟩ (yielded ops a.tmps) = true)
    (hs : a.eval so = v) (hown : OwnG DgE 153 u v xs) (hx : a.eval xo = .slice (some ⟨g1, 0, none⟩) 1 1) (hn : xs.length ≤ 1000000) (hzz : ∀ z ∈ s0, z.1.Sublist s)
    (h : ∀ u' v', OwnG DgE 153 u' v' (xs ++ [x]) → Rg R Try.prog ops Q B F s0 l (a.put d v') (u' ++ s)) :
    Rg R Try.prog ops Q B F s0 ((⟨d, .call ⟨.builtin .append, #[so, xo], #[68, 68]⟩, t, p, af, gd⟩, 1) :: l) a ((g1, .cells #[.int .u32 x] 153) :: (u ++ s)) := by
  obtain ⟨i, hi, hz, hsz, hb⟩ := ip uInfo
  refine rg_append1 (E := DgE) (i := i) (z := .int .u32 0) (u := u) (s := (g1, .cells #[.int .u32 x] 153) :: s) (x := x) (g := g1) hg Try.underlying68 hi hz hsz rfl Ox hs hown hx Ox List.perm_middle.symm (fun w K => Kn.hd0 K)
    (fun z hz' => (hzz z hz').trans (List.sublist_cons_self _ _)) fun u' v' hO => ?_
  exact rg_sub (List.Sublist.append_left (List.sublist_cons_self _ _) _) (fun z hz' => (hzz z hz').trans (List.sublist_append_right _ _)) (h u' v' hO)
end
end Go.Proofs.Ytjeijnjaleldkaa
