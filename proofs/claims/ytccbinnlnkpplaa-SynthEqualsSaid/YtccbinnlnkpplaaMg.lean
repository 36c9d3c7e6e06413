/- Lists of numbers that the call makes; calls of function values that compute; calls that hand back a matrix. -/
import Derived.Test.YtccbinnlnkpplaaSq
import Derived.Test.YtccbinnlnkpplaaCallV
import Derived.Test.YtccbinnlnkpplaaMtPl
import Derived.Test.YtccbinnlnkpplaaRo
namespace Go.Proofs.Ytccbinnlnkpplaa
set_option linter.all false
open Go.RowKit

theorem numInfo : (Try.prog.info? 45).map (fun i => (i.zero, i.size, i.bytes)) = some (some (.agg #[.int .i64 0, .int .i64 0, .int .i64 0, .int .i64 0, .int .i64 0]), 5, 40) := by kernel_rfl
theorem info_partsN {α β γ : Type} {o : Option TypeInfo} {f : TypeInfo → α} {g : TypeInfo → β} {h : TypeInfo → γ} {x : α} {y : β} {z : γ} (e : o.map (fun i => (f i, g i, h i)) = some (x, y, z)) : ∃ i, o = some i ∧ f i = x ∧ g i = y ∧ h i = z := by
  cases o with
  | none => simp at e
  | some i => simp at e; exact ⟨i, rfl, e.1, e.2.1, e.2.2⟩
abbrev OwnN (u : List Blk) (v : Value) (xs : List Nm) : Prop := OwnG NmE 45 u v xs
/-- A call that hands back a matrix and an error's number. -/
def RetM (w : World) (n : Int) (zs : List Nm) (c : Int) (e : Ending) (w' : World) : Prop :=
  ∃ v u, e = .returned (.tuple #[.agg #[.int .i64 n, v], .int .i64 c]) ∧ OwnN u v zs ∧ Made w u w'
/-- A call that hands back a matrix. -/
def RetM1 (w : World) (n : Int) (zs : List Nm) (e : Ending) (w' : World) : Prop :=
  ∃ v u, e = .returned (.agg #[.int .i64 n, v]) ∧ OwnN u v zs ∧ Made w u w'
abbrev RetR (w : World) (N : Nat) (r : LR) (e : Ending) (w' : World) : Prop := RetM w (rN N r) (rL r) (rC r) e w'
/-- A function value that computes: for the arguments vs it yields r where D vs r. -/
def FnV (w : World) (fv : Value) (D : Array Value → Value → Prop) : Prop :=
  ∃ fn pre caps, fv = .func (.func fn) pre caps ∧ isGo Try.prog fn = true ∧ ∀ w', Below w.heap.size w w' → ∀ vs r, D vs r → Calls Try.prog fn (pre ++ vs ++ caps) w' fun e w'' => e = .returned r ∧ Below w'.heap.size w' w''
theorem below_trans {w w' w'' : World} (h : Below w.heap.size w w') (h' : Below w'.heap.size w' w'') : Below w.heap.size w w'' := h.trans (h'.mono h.size)
theorem FnV.below {w w' : World} {fv : Value} {D : Array Value → Value → Prop} (h : FnV w fv D) (hb : Below w.heap.size w w') : FnV w' fv D := by
  obtain ⟨fn, pre, caps, rfl, hgo, h⟩ := h
  exact ⟨fn, pre, caps, rfl, hgo, fun w1 h1 => h w1 (below_trans hb h1)⟩
/-- What it computes for the row i and the column k. -/
abbrev D2 (N M : Nat) (f : Nat → Nat → Value) : Array Value → Value → Prop := fun vs r => ∃ i k, i < N ∧ k < M ∧ vs = #[.int .i64 (i : Int), .int .i64 (k : Int)] ∧ r = f i k
abbrev D1 (N : Nat) (f : Nat → Value) : Array Value → Value → Prop := fun vs r => ∃ i, i < N ∧ vs = #[.int .i64 (i : Int)] ∧ r = f i

section
variable {R : Option Nat} {ops : Array Oper} {Q : Exit → Act → World → Prop} {B : World} {F : List Nat} {s0 : Option (List Blk × List Blk)}
variable {l : List (Oper × Nat)} {a : Act} {s S : List Blk} {d : Option Tmp} {op : Op} {t : TypeId} {p : String} {af : Array Edge} {v : Value}
theorem rg_callF {fo : Operand} {f : Nat} {cargs : Array Operand} {at_ : Array TypeId} {pre caps vs : Array Value} {P : Program} {gd : Option (Nat × Bool)} (hg : Region.wanted ⟨d, .call ⟨.value fo, cargs, at_⟩, t, p, af, gd⟩ (yielded ops a.tmps) = true)
    (hf : a.eval fo = .func (.func f) pre caps) (hgo : isGo P f = true) (hargs : cargs.map a.eval = vs)
    (h : ∀ w, Kn B F s w → Calls P f (pre ++ vs ++ caps) w (fun e w' => ∃ v s', e = .returned v ∧ Kn B F s' w' ∧ (∀ z ∈ s0, z.1.Sublist s') ∧ Rg R P ops Q B F s0 l (a.put d v) s')) :
    Rg R P ops Q B F s0 ((⟨d, .call ⟨.value fo, cargs, at_⟩, t, p, af, gd⟩, 1) :: l) a s := by
  refine .inl fun w K => ?_
  unfold hop
  rw [if_pos hg]
  unfold Oper.wp
  have hr : (execOp a.eval ⟨d, .call ⟨.value fo, cargs, at_⟩, t, p, af, gd⟩).run P w = .ok (.enter f (pre ++ vs ++ caps)) w := by
    have hx : execOp a.eval ⟨d, .call ⟨.value fo, cargs, at_⟩, t, p, af, gd⟩ = (do let d ← resolve a.eval ⟨.value fo, cargs, at_⟩ t; invoke d.target d.args) := rfl
    have hv : (resolve a.eval ⟨.value fo, cargs, at_⟩ t) = pure { target := .fn (.func f) caps, args := pre ++ vs } := by
      simp only [resolve, hf, hargs, Deferred.ofValue]
    rw [hx, hv]
    exact run_callFunc_go hgo _ w
  rw [hr]
  refine (h w K).mono fun e w' he => ?_
  obtain ⟨v, s', rfl, K', hz, h'⟩ := he
  exact ⟨s', K', hz, h'⟩
/-- A call of a function value that computes. -/
theorem rg_fnv {fo : Operand} {cargs : Array Operand} {at_ : Array TypeId} {vs : Array Value} {fv : Value} {D : Array Value → Value → Prop} {gd : Option (Nat × Bool)} (r : Value) (hg : Region.wanted ⟨d, .call ⟨.value fo, cargs, at_⟩, t, p, af, gd⟩ (yielded ops a.tmps) = true)
    (hF : FnV B fv D) (hf : a.eval fo = fv) (hargs : cargs.map a.eval = vs) (hD : D vs r)
    (hz : ∀ z ∈ s0, z.1.Sublist s) (k : Rg R Try.prog ops Q B [] s0 l (a.put d r) s) : Rg R Try.prog ops Q B [] s0 ((⟨d, .call ⟨.value fo, cargs, at_⟩, t, p, af, gd⟩, 1) :: l) a s := by
  obtain ⟨fn, pre, caps, rfl, hgo, h⟩ := hF
  exact rg_callF hg hf hgo hargs fun w K => (h w K.below vs r hD).mono fun e w' ⟨he, hb⟩ => ⟨r, s, he, K.call hb, hz, k⟩
/-- append of one number that stands in a block of its own. -/
theorem rg_appN {so xo : Operand} {u : List Blk} {xs : List Nm} {x : Nm} {g : Nat} {gd : Option (Nat × Bool)} (hg : Region.wanted ⟨d, .call ⟨.builtin .append, #[so, xo], #[36, 36]⟩, t, p, af, gd⟩ (yielded ops a.tmps) = true)
    (hs : a.eval so = v) (hown : OwnN u v xs) (hx : a.eval xo = .slice (some ⟨g, 0, none⟩) 1 1) (hn : xs.length ≤ 10000000) (hp : S.Perm (u ++ s))
    (hnews : ∀ w, Kn B F S w → Hd w g 45 (nmC x).toArray)
    (hzz : ∀ z ∈ s0, z.1.Sublist s) (h : ∀ u' a' c', OwnN u' (.slice a' (xs.length + 1) c') (xs ++ [x]) → Rg R Try.prog ops Q B F s0 l (a.put d (.slice a' (xs.length + 1) c')) (u' ++ s)) :
    Rg R Try.prog ops Q B F s0 ((⟨d, .call ⟨.builtin .append, #[so, xo], #[36, 36]⟩, t, p, af, gd⟩, 1) :: l) a S := by
  obtain ⟨i, hi, hz, hsz, hb⟩ := info_partsN numInfo
  refine rg_append1 (E := NmE) (u := u) (s := s) (i := i) hg Try.underlying36 hi hz hsz rfl Ox hs hown hx hn hp hnews hzz fun u' v' hO => ?_
  obtain ⟨a', c', rfl, -⟩ := Own.val hO
  have e : (xs ++ [x]).length = xs.length + 1 := by simp
  rw [e] at hO ⊢
  exact h u' a' c' hO
/-- A call that hands back a matrix. -/
theorem rg_retM {f : Nat} {cargs : Array Operand} {at_ : Array TypeId} {args : Array Value} {n c : Int} {zs : List Nm} {P : Program} {gd : Option (Nat × Bool)} (hg : Region.wanted ⟨d, .call ⟨.value (.func f), cargs, at_⟩, t, p, af, gd⟩ (yielded ops a.tmps) = true) (hgo : isGo P f = true)
    (h : ∀ w, Kn B F s w → Calls P f args w (RetM w n zs c)) (hargs : cargs.map a.eval = args)
    (hz : ∀ z ∈ s0, z.1.Sublist s) (k : ∀ (va : Option Addr) (vc : Nat) (u : List Blk), OwnN u (.slice va zs.length vc) zs → Rg R P ops Q B F s0 l (a.put d (.tuple #[.agg #[.int .i64 n, .slice va zs.length vc], .int .i64 c])) (u ++ s)) :
    Rg R P ops Q B F s0 ((⟨d, .call ⟨.value (.func f), cargs, at_⟩, t, p, af, gd⟩, 1) :: l) a s :=
  rg_call hg hgo hargs fun w K => (h w K).mono fun e w' ⟨v, u, he, hO, hm⟩ => by
    obtain ⟨a', c', rfl, -⟩ := Own.val hO
    exact ⟨_, u ++ s, he, K.add hm, fun z hz' => (hz z hz').trans (List.sublist_append_right _ _), k a' c' u hO⟩
theorem rg_retM1 {f : Nat} {cargs : Array Operand} {at_ : Array TypeId} {args : Array Value} {n : Int} {zs : List Nm} {P : Program} {gd : Option (Nat × Bool)} (hg : Region.wanted ⟨d, .call ⟨.value (.func f), cargs, at_⟩, t, p, af, gd⟩ (yielded ops a.tmps) = true) (hgo : isGo P f = true)
    (h : ∀ w, Kn B F s w → Calls P f args w (RetM1 w n zs)) (hargs : cargs.map a.eval = args)
    (hz : ∀ z ∈ s0, z.1.Sublist s) (k : ∀ (va : Option Addr) (vc : Nat) (u : List Blk), OwnN u (.slice va zs.length vc) zs → Rg R P ops Q B F s0 l (a.put d (.agg #[.int .i64 n, .slice va zs.length vc])) (u ++ s)) :
    Rg R P ops Q B F s0 ((⟨d, .call ⟨.value (.func f), cargs, at_⟩, t, p, af, gd⟩, 1) :: l) a s :=
  rg_call hg hgo hargs fun w K => (h w K).mono fun e w' ⟨v, u, he, hO, hm⟩ => by
    obtain ⟨a', c', rfl, -⟩ := Own.val hO
    exact ⟨_, u ++ s, he, K.add hm, fun z hz' => (hz z hz').trans (List.sublist_append_right _ _), k a' c' u hO⟩
end
/-- The function value of a function of the program without captured variables. -/
theorem FnV.lit {fn : Nat} {D : Array Value → Value → Prop} {w : World} (hgo : isGo Try.prog fn = true) (h : ∀ w' vs r, D vs r → Calls Try.prog fn vs w' fun e w'' => e = .returned r ∧ Below w'.heap.size w' w'') : FnV w (.func (.func fn) #[] #[]) D :=
  ⟨fn, #[], #[], rfl, hgo, fun w' _ vs r hD => by simpa using h w' vs r hD⟩
end Go.Proofs.Ytccbinnlnkpplaa
