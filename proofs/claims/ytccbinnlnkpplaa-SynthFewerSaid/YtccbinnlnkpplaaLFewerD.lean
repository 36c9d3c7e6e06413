/- Texts in one: Wb7, Ro, Mg, Mt1, Mt2a, Am5, Mt2, Mt3, Am6, MtW, AmCj, MtD. -/
import Derived.Test.YtccbinnlnkpplaaLFewerC
namespace Go.Proofs.Ytccbinnlnkpplaa
set_option linter.all false
open Go.RowKit

def colS (xs : List Nm) (N k l : Nat) : Nat → Nm
  | 0 => Nm.zero
  | n + 1 => (colS xs N k l n).addR ((nm xs (n * N + k)).conj.mulR (nm xs (n * N + l)))
def wantN (k l : Nat) : Nm := if k = l then Nm.one else Nm.zero
def Fb (n : Nat) : Int := 2 ^ (62 + 42 * n)
theorem upW_fit {M : Int} {n : Nat} {z : Nm} (h : z.Fit M) (hM : 0 ≤ M) (hn : n ≤ 81) : (Nm.up n z).Fit (2 ^ 41 * M) := by
  have key : ∀ m : Nat, m ≤ 41 → (2 : Int) ^ m * M ≤ 2 ^ 41 * M := fun m hm => by
    refine Int.mul_le_mul_of_nonneg_right ?_ hM
    have h1 := Nat.pow_le_pow_right (n := 2) (by omega) hm
    have e : ((2 ^ m : Nat) : Int) = (2 : Int) ^ m := by simp
    have e2 : ((2 ^ 41 : Nat) : Int) = (2 : Int) ^ 41 := by simp
    omega
  rcases (⟨n / 2, by omega⟩ : ∃ m, n = 2 * m ∧ m ≤ 40 ∨ n = 2 * m + 1 ∧ m ≤ 40) with ⟨m, ⟨rfl, hm⟩ | ⟨rfl, hm⟩⟩
  · exact Nm.fit_mono (Nm.up_fit m h).1 (key m (by omega))
  exact Nm.fit_mono (Nm.up_fit m h).2 (key (m + 1) (by omega))
theorem Fb_pos (n : Nat) : 4611686018427387904 ≤ Fb n := by
  unfold Fb
  have h1 := Nat.pow_le_pow_right (n := 2) (by omega) (show 62 ≤ 62 + 42 * n by omega)
  have e : ((2 ^ (62 + 42 * n) : Nat) : Int) = (2 : Int) ^ (62 + 42 * n) := by simp
  have e2 : (2 : Nat) ^ 62 = 4611686018427387904 := by decide
  omega
theorem Fb_succ (n : Nat) : 2 ^ 41 * Fb n + 2 ^ 41 * Fb n = Fb (n + 1) := by
  unfold Fb
  rw [show 62 + 42 * (n + 1) = (62 + 42 * n) + 42 by omega, Int.pow_add (2 : Int) (62 + 42 * n) 42]
  generalize (2 : Int) ^ (62 + 42 * n) = M
  have e1 : (2 : Int) ^ 41 = 2199023255552 := by decide
  have e2 : (2 : Int) ^ 42 = 4398046511104 := by decide
  rw [e1, e2]
  omega
theorem prod_W {x y : Nm} (hx : x.Ok) (hy : y.Ok) : (x.conj.mulR y).Fit 4611686018427387904 ∧ 0 ≤ (x.conj.mulR y).k ∧ (x.conj.mulR y).k ≤ 80 :=
  ⟨Nm.fit_mono (mulR_fit (conj_ok hx).fit hy.fit) (by decide), by have := hx.k0; have := hy.k0; simp only [Nm.mulR, Nm.conj]; omega, by have := hx.k1; have := hy.k1; simp only [Nm.mulR, Nm.conj]; omega⟩
theorem addR_W {x y : Nm} {n : Nat} (hx : x.Fit (Fb n)) (hx0 : 0 ≤ x.k) (hx1 : x.k ≤ 80) (hy : y.Fit 4611686018427387904) (hy0 : 0 ≤ y.k) (hy1 : y.k ≤ 80) :
    (x.to (max x.k y.k)).Fit (2 ^ 41 * Fb n) ∧ (y.to (max x.k y.k)).Fit (2 ^ 41 * Fb n) ∧ (x.addR y).Fit (Fb (n + 1)) ∧ 0 ≤ (x.addR y).k ∧ (x.addR y).k ≤ 80 := by
  have hF := Fb_pos n
  have h1 : (x.to (max x.k y.k)).Fit (2 ^ 41 * Fb n) := upW_fit hx (by omega) (by omega)
  have h2 : (y.to (max x.k y.k)).Fit (2 ^ 41 * Fb n) := upW_fit (Nm.fit_mono hy hF) (by omega) (by omega)
  refine ⟨h1, h2, ?_, by simp only [Nm.addR]; omega, by simp only [Nm.addR]; omega⟩
  rw [← Fb_succ]
  obtain ⟨a1, a2, a3, a4, a5, a6, a7, a8⟩ := h1
  obtain ⟨b1, b2, b3, b4, b5, b6, b7, b8⟩ := h2
  generalize 2 ^ 41 * Fb n = M at *
  unfold Nm.addR
  exact ⟨by dsimp only; omega, by dsimp only; omega, by dsimp only; omega, by dsimp only; omega, by dsimp only; omega, by dsimp only; omega, by dsimp only; omega, by dsimp only; omega⟩
theorem colS_W {xs : List Nm} {N k l : Nat} (hok : allOk xs = true) (hlen : xs.length = N * N) (hN : N ≤ 6) (hk : k < N) (hl : l < N) : ∀ n, n ≤ N → (colS xs N k l n).Fit (Fb n) ∧ 0 ≤ (colS xs N k l n).k ∧ (colS xs N k l n).k ≤ 80
  | 0, _ => by
    have := Fb_pos 0
    exact ⟨⟨by show -_ ≤ (0 : Int); omega, by show (0 : Int) ≤ _; omega, by show -_ ≤ (0 : Int); omega, by show (0 : Int) ≤ _; omega, by show -_ ≤ (0 : Int); omega, by show (0 : Int) ≤ _; omega, by show -_ ≤ (0 : Int); omega, by show (0 : Int) ≤ _; omega⟩, by show (0 : Int) ≤ 0; decide, by show (0 : Int) ≤ 80; decide⟩
  | n + 1, hn => by
    obtain ⟨h1, h2, h3⟩ := colS_W hok hlen hN hk hl n (by omega)
    have hx := ix_small (i := n) (N := N) (by omega) hN
    obtain ⟨p1, p2, p3⟩ := prod_W (ok_at hok (show n * N + k < xs.length by omega)) (ok_at hok (show n * N + l < xs.length by omega))
    obtain ⟨_, _, h4, h5, h6⟩ := addR_W h1 h2 h3 p1 p2 p3
    exact ⟨h4, h5, h6⟩
theorem SA4.conj {w : World} {z : Nm} {s0 s1 s2 s3 : Value} (h : SA4 w z s0 s1 s2 s3) : SA4 w z.conj s0 s3 s2 s1 :=
  ⟨h.a, by simp only [Nm.conj, Int.natAbs_neg]; exact h.d, by simp only [Nm.conj, Int.natAbs_neg]; exact h.c, by simp only [Nm.conj, Int.natAbs_neg]; exact h.b⟩
end Go.Proofs.Ytccbinnlnkpplaa
namespace Go.Proofs.Ytccbinnlnkpplaa
set_option linter.all false
open Go.RowKit

theorem setMany_list : ∀ (vs l : List Value) (i : Nat), i + vs.length ≤ l.length → setMany l.toArray i vs = (l.take i ++ (vs ++ l.drop (i + vs.length))).toArray
  | [], l, i, _ => by
    show l.toArray = (l.take i ++ ([] ++ l.drop (i + 0))).toArray
    rw [List.nil_append, Nat.add_zero, List.take_append_drop]
  | v :: vs, l, i, h => by
    have hi : i < l.length := by simp at h; omega
    have e1 : l.toArray.setIfInBounds i v = (l.set i v).toArray := by simp
    rw [setMany, e1, setMany_list vs (l.set i v) (i + 1) (by simp at h ⊢; omega)]
    congr 1
    have e2 : (l.set i v).take (i + 1) = l.take i ++ [v] := by
      rw [List.take_add_one, List.take_set_of_le (Nat.le_refl i), List.getElem?_set_self hi]
      rfl
    have e3 : (l.set i v).drop (i + 1 + vs.length) = l.drop (i + (v :: vs).length) := by
      rw [List.drop_set_of_lt Ox]
      congr 1
      simp only [List.length_cons]; omega
    rw [e2, e3, List.append_assoc]
    rfl
section
variable {α : Type} {E : El α}
theorem El.flat_set : ∀ (xs : List α) (k : Nat) (y : α) (rest : List Value), k < xs.length → (E.flat xs ++ rest).take (k * E.sz) ++ (E.ec y ++ (E.flat xs ++ rest).drop (k * E.sz + E.sz)) = E.flat (xs.set k y) ++ rest
  | [], k, _, _, h => by simp at h
  | x :: t, 0, y, rest, _ => by
    have hx := E.len x
    rw [List.set_cons_zero, El.flat_cons, El.flat_cons, Nat.zero_mul, List.take_zero, List.nil_append, Nat.zero_add, List.append_assoc, List.append_assoc, ← hx, List.drop_left]
  | x :: t, k + 1, y, rest, h => by
    have hx := E.len x
    have e : (k + 1) * E.sz = (E.ec x).length + k * E.sz := by rw [hx, Nat.add_mul]; omega
    rw [List.set_cons_succ, El.flat_cons, El.flat_cons, List.append_assoc, List.append_assoc, e, List.take_length_add_append, List.append_assoc, Nat.add_assoc, List.drop_length_add_append, El.flat_set t k y rest (by simpa using h)]
theorem fl_set {xs : List α} {k : Nat} {y : α} {rest : List Value} (hk : k < xs.length) : setMany (E.flat xs ++ rest).toArray (0 + k * E.sz) (E.ec y) = (E.flat (xs.set k y) ++ rest).toArray := by
  have hl := E.flat_len xs
  have hb := Nat.mul_le_mul_right E.sz (show k + 1 ≤ xs.length by omega)
  rw [Nat.add_mul, Nat.one_mul] at hb
  rw [Nat.zero_add, setMany_list _ _ _ (by rw [E.len, List.length_append]; omega), E.len, El.flat_set xs k y rest hk]
theorem fl_size {xs : List α} {k : Nat} {rest : List Value} {y : α} (hk : k < xs.length) : 0 + k * E.sz + (E.ec y).length ≤ ((E.flat xs ++ rest).toArray).size := by
  have hl := E.flat_len xs
  have hb := Nat.mul_le_mul_right E.sz (show k + 1 ≤ xs.length by omega)
  rw [Nat.add_mul, Nat.one_mul] at hb
  rw [E.len]
  simp only [List.size_toArray, List.length_append]
  omega
end
end Go.Proofs.Ytccbinnlnkpplaa
namespace Go.Proofs.Ytccbinnlnkpplaa
set_option linter.all false
open Go.RowKit

theorem numInfo : (Try.prog.info? 45).map (fun i => (i.zero, i.size, i.bytes)) = some (some (.agg #[.int .i64 0, .int .i64 0, .int .i64 0, .int .i64 0, .int .i64 0]), 5, 40) := by kernel_rfl
theorem info_partsN {α β γ : Type} {o : Option TypeInfo} {f : TypeInfo → α} {g : TypeInfo → β} {h : TypeInfo → γ} {x : α} {y : β} {z : γ} (e : o.map (fun i => (f i, g i, h i)) = some (x, y, z)) : ∃ i, o = some i ∧ f i = x ∧ g i = y ∧ h i = z := by
  cases o with
  | none => simp at e
  | some i => simp at e; exact ⟨i, rfl, e.1, e.2.1, e.2.2⟩
abbrev OwnN (u : List Blk) (v : Value) (xs : List Nm) : Prop := OwnG NmE 45 u v xs
/-- A call that hands back a matrix and an error's number. -/
def RetM (w : World) (n : Int) (zs : List Nm) (c : Int) (e : Ending) (w' : World) : Prop :=
  ∃ v u, e = .returned (.tuple #[.agg #[.int .i64 n, v], .int .i64 c]) ∧ OwnN u v zs ∧ Made w u w'
/-- A call that hands back a matrix. -/
def RetM1 (w : World) (n : Int) (zs : List Nm) (e : Ending) (w' : World) : Prop :=
  ∃ v u, e = .returned (.agg #[.int .i64 n, v]) ∧ OwnN u v zs ∧ Made w u w'
abbrev RetR (w : World) (N : Nat) (r : LR) (e : Ending) (w' : World) : Prop := RetM w (rN N r) (rL r) (rC r) e w'
/-- A function value that computes: for the arguments vs it yields r where D vs r. -/
def FnV (w : World) (fv : Value) (D : Array Value → Value → Prop) : Prop :=
  ∃ fn pre caps, fv = .func (.func fn) pre caps ∧ isGo Try.prog fn = true ∧ ∀ w', Below w.heap.size w w' → ∀ vs r, D vs r → Calls Try.prog fn (pre ++ vs ++ caps) w' fun e w'' => e = .returned r ∧ Below w'.heap.size w' w''
theorem below_trans {w w' w'' : World} (h : Below w.heap.size w w') (h' : Below w'.heap.size w' w'') : Below w.heap.size w w'' := h.trans (h'.mono h.size)
theorem FnV.below {w w' : World} {fv : Value} {D : Array Value → Value → Prop} (h : FnV w fv D) (hb : Below w.heap.size w w') : FnV w' fv D := by
  obtain ⟨fn, pre, caps, rfl, hgo, h⟩ := h
  exact ⟨fn, pre, caps, rfl, hgo, fun w1 h1 => h w1 (below_trans hb h1)⟩
/-- What it computes for the row i and the column k. -/
abbrev D2 (N M : Nat) (f : Nat → Nat → Value) : Array Value → Value → Prop := fun vs r => ∃ i k, i < N ∧ k < M ∧ vs = #[.int .i64 (i : Int), .int .i64 (k : Int)] ∧ r = f i k
abbrev D1 (N : Nat) (f : Nat → Value) : Array Value → Value → Prop := fun vs r => ∃ i, i < N ∧ vs = #[.int .i64 (i : Int)] ∧ r = f i

section
variable {R : Option Nat} {ops : Array Oper} {Q : Exit → Act → World → Prop} {B : World} {F : List Nat} {s0 : Option (List Blk × List Blk)}
variable {l : List (Oper × Nat)} {a : Act} {s S : List Blk} {d : Option Tmp} {op : Op} {t : TypeId} {p : String} {af : Array Edge} {v : Value}
theorem rg_callF {fo : Operand} {f : Nat} {cargs : Array Operand} {at_ : Array TypeId} {pre caps vs : Array Value} {P : Program} {gd : Option (Nat × Bool)} (hg : Region.wanted ⟨d, .call ⟨.value fo, cargs, at_⟩, t, p, af, gd⟩ (yielded ops a.tmps) = true)
    (hf : a.eval fo = .func (.func f) pre caps) (hgo : isGo P f = true) (hargs : cargs.map a.eval = vs)
    (h : ∀ w, Kn B F s w → Calls P f (pre ++ vs ++ caps) w (fun e w' => ∃ v s', e = .returned v ∧ Kn B F s' w' ∧ (∀ z ∈ s0, z.1.Sublist s') ∧ Rg R P ops Q B F s0 l (a.put d v) s')) :
    Rg R P ops Q B F s0 ((⟨d, .call ⟨.value fo, cargs, at_⟩, t, p, af, gd⟩, 1) :: l) a s := by
  refine .inl fun w K => ?_
  unfold hop
  rw [if_pos hg]
  unfold Oper.wp
  have hr : (execOp a.eval ⟨d, .call ⟨.value fo, cargs, at_⟩, t, p, af, gd⟩).run P w = .ok (.enter f (pre ++ vs ++ caps)) w := by
    have hx : execOp a.eval ⟨d, .call ⟨.value fo, cargs, at_⟩, t, p, af, gd⟩ = (do let d ← resolve a.eval ⟨.value fo, cargs, at_⟩ t; invoke d.target d.args) := rfl
    have hv : (resolve a.eval ⟨.value fo, cargs, at_⟩ t) = pure { target := .fn (.func f) caps, args := pre ++ vs } := by
      simp only [resolve, hf, hargs, Deferred.ofValue]
    rw [hx, hv]
    exact run_callFunc_go hgo _ w
  rw [hr]
  refine (h w K).mono fun e w' he => ?_
  obtain ⟨v, s', rfl, K', hz, h'⟩ := he
  exact ⟨s', K', hz, h'⟩
/-- A call of a function value that computes. -/
theorem rg_fnv {fo : Operand} {cargs : Array Operand} {at_ : Array TypeId} {vs : Array Value} {fv : Value} {D : Array Value → Value → Prop} {gd : Option (Nat × Bool)} (r : Value) (hg : Region.wanted ⟨d, .call ⟨.value fo, cargs, at_⟩, t, p, af, gd⟩ (yielded ops a.tmps) = true)
    (hF : FnV B fv D) (hf : a.eval fo = fv) (hargs : cargs.map a.eval = vs) (hD : D vs r)
    (hz : ∀ z ∈ s0, z.1.Sublist s) (k : Rg R Try.prog ops Q B [] s0 l (a.put d r) s) : Rg R Try.prog ops Q B [] s0 ((⟨d, .call ⟨.value fo, cargs, at_⟩, t, p, af, gd⟩, 1) :: l) a s := by
  obtain ⟨fn, pre, caps, rfl, hgo, h⟩ := hF
  exact rg_callF hg hf hgo hargs fun w K => (h w K.below vs r hD).mono fun e w' ⟨he, hb⟩ => ⟨r, s, he, K.call hb, hz, k⟩
/-- append of one number that stands in a block of its own. -/
theorem rg_appN {so xo : Operand} {u : List Blk} {xs : List Nm} {x : Nm} {g : Nat} {gd : Option (Nat × Bool)} (hg : Region.wanted ⟨d, .call ⟨.builtin .append, #[so, xo], #[36, 36]⟩, t, p, af, gd⟩ (yielded ops a.tmps) = true)
    (hs : a.eval so = v) (hown : OwnN u v xs) (hx : a.eval xo = .slice (some ⟨g, 0, none⟩) 1 1) (hn : xs.length ≤ 10000000) (hp : S.Perm (u ++ s))
    (hnews : ∀ w, Kn B F S w → Hd w g 45 (nmC x).toArray)
    (hzz : ∀ z ∈ s0, z.1.Sublist s) (h : ∀ u' a' c', OwnN u' (.slice a' (xs.length + 1) c') (xs ++ [x]) → Rg R Try.prog ops Q B F s0 l (a.put d (.slice a' (xs.length + 1) c')) (u' ++ s)) :
    Rg R Try.prog ops Q B F s0 ((⟨d, .call ⟨.builtin .append, #[so, xo], #[36, 36]⟩, t, p, af, gd⟩, 1) :: l) a S := by
  obtain ⟨i, hi, hz, hsz, hb⟩ := info_partsN numInfo
  refine rg_append1 (E := NmE) (u := u) (s := s) (i := i) hg Try.underlying36 hi hz hsz rfl Ox hs hown hx hn hp hnews hzz fun u' v' hO => ?_
  obtain ⟨a', c', rfl, -⟩ := Own.val hO
  have e : (xs ++ [x]).length = xs.length + 1 := by simp
  rw [e] at hO ⊢
  exact h u' a' c' hO
/-- A call that hands back a matrix. -/
theorem rg_retM {f : Nat} {cargs : Array Operand} {at_ : Array TypeId} {args : Array Value} {n c : Int} {zs : List Nm} {P : Program} {gd : Option (Nat × Bool)} (hg : Region.wanted ⟨d, .call ⟨.value (.func f), cargs, at_⟩, t, p, af, gd⟩ (yielded ops a.tmps) = true) (hgo : isGo P f = true)
    (h : ∀ w, Kn B F s w → Calls P f args w (RetM w n zs c)) (hargs : cargs.map a.eval = args)
    (hz : ∀ z ∈ s0, z.1.Sublist s) (k : ∀ (va : Option Addr) (vc : Nat) (u : List Blk), OwnN u (.slice va zs.length vc) zs → Rg R P ops Q B F s0 l (a.put d (.tuple #[.agg #[.int .i64 n, .slice va zs.length vc], .int .i64 c])) (u ++ s)) :
    Rg R P ops Q B F s0 ((⟨d, .call ⟨.value (.func f), cargs, at_⟩, t, p, af, gd⟩, 1) :: l) a s :=
  rg_call hg hgo hargs fun w K => (h w K).mono fun e w' ⟨v, u, he, hO, hm⟩ => by
    obtain ⟨a', c', rfl, -⟩ := Own.val hO
    exact ⟨_, u ++ s, he, K.add hm, fun z hz' => (hz z hz').trans (List.sublist_append_right _ _), k a' c' u hO⟩
theorem rg_retM1 {f : Nat} {cargs : Array Operand} {at_ : Array TypeId} {args : Array Value} {n : Int} {zs : List Nm} {P : Program} {gd : Option (Nat × Bool)} (hg : Region.wanted ⟨d, .call ⟨.value (.func f), cargs, at_⟩, t, p, af, gd⟩ (yielded ops a.tmps) = true) (hgo : isGo P f = true)
    (h : ∀ w, Kn B F s w → Calls P f args w (RetM1 w n zs)) (hargs : cargs.map a.eval = args)
    (hz : ∀ z ∈ s0, z.1.Sublist s) (k : ∀ (va : Option Addr) (vc : Nat) (u : List Blk), OwnN u (.slice va zs.length vc) zs → Rg R P ops Q B F s0 l (a.put d (.agg #[.int .i64 n, .slice va zs.length vc])) (u ++ s)) :
    Rg R P ops Q B F s0 ((⟨d, .call ⟨.value (.func f), cargs, at_⟩, t, p, af, gd⟩, 1) :: l) a s :=
  rg_call hg hgo hargs fun w K => (h w K).mono fun e w' ⟨v, u, he, hO, hm⟩ => by
    obtain ⟨a', c', rfl, -⟩ := Own.val hO
    exact ⟨_, u ++ s, he, K.add hm, fun z hz' => (hz z hz').trans (List.sublist_append_right _ _), k a' c' u hO⟩
end
/-- The function value of a function of the program without captured variables. -/
theorem FnV.lit {fn : Nat} {D : Array Value → Value → Prop} {w : World} (hgo : isGo Try.prog fn = true) (h : ∀ w' vs r, D vs r → Calls Try.prog fn vs w' fun e w'' => e = .returned r ∧ Below w'.heap.size w' w'') : FnV w (.func (.func fn) #[] #[]) D :=
  ⟨fn, #[], #[], rfl, hgo, fun w' _ vs r hD => by simpa using h w' vs r hD⟩
end Go.Proofs.Ytccbinnlnkpplaa
namespace Go.Proofs.Ytccbinnlnkpplaa
set_option linter.all false
open Go.RowKit

set_option maxRecDepth 100000 in
set_option maxHeartbeats 1000000 in
theorem made_any (N : Nat) (hN : N ≤ 6) (fe : Nat → Nat → NR) (fv : Value) (hE : ∀ i k c, i < N → k < N → fe i k = .error c → c ≠ 0) (w : World) (hF : FnV w fv (D2 N N fun i k => numV (fe i k))) : Calls Try.prog 95 #[.int .i64 N, fv] w fun e w' => RetR w N (madeR N fe) e w' := by
  go_enter Try.func95, Try.ntmps95
  refine wk_start ?_
  refine wk_seq ?_
  refine wk_region [1, 0] rfl Kx ?_
  simp only [qy]
  refine Rgn fun g1 => ?_
  simp only [qz]
  refine rg_assign ?_
  simp only [qz]
  refine rg_nil (ek_next (wk_seq ?_))
  refine wk_region [0, 0, 1, 1] rfl Kx ?_
  simp only [qy]
  refine rg_move ?_
  simp only [qz]
  refine rf_build (cs := fun a => #[a.eval (.tmp 11), .slice none 0 0]) rfl rfl Kx ?_
  simp only [qz]
  refine Rgn fun g2 => ?_
  simp only [qz]
  refine rf_storeR (n := 2) rfl rfl Kx rfl rfl (UpdR.here _ _ _ Nl) Nz ?_
  simp only [qz, Nat.reduceAdd]
  refine rg_nil (ek_next (wk_seq (wk_seq ?_)))
  refine wk_region [0, 0] rfl Kx ?_
  simp only [qy]
  refine rg_move ?_
  simp only [qz]
  refine rg_move ?_
  simp only [qz]
  refine rg_nil (ek_next (wk_block ?_))
  refine wk_loopF [5, 7, 8, 9, 10, 14, 15, 16, 17, 18, 19, 20, 21, 22, 23, 24, 25, 26, 27, 28, 29, 30, 31, 32, 33, 34, 35, 36, 37, 38, 39] (fun mz f s => ∃ (i : Nat) (l : List Nm) (u : List Blk) (av : Option Addr) (cv : Nat), f 14 = .int .i64 i ∧ s = (u ++ ((g2, .cells #[.int .i64 N, .slice av l.length cv] 38) :: ((g1, .cells #[.int .i64 0, .slice none 0 0] 38) :: []))) ∧ mz = N - i ∧ i ≤ N ∧ Hid (gather (fun t => fe (t / N) (t % N)) (i * N) = .ok l) ∧ OwnN u (.slice av l.length cv) l) ((fun (i : Nat) (l : List Nm) (u : List Blk) (av : Option Addr) (cv : Nat) => N - i) (0) ([]) ([]) (none) (0)) ?_ Kx ?_
  · exact ⟨0, [], [], none, 0, rfl, rfl, rfl, by omega, (Lib.hid (by (try rw [Nat.zero_mul]); (try rfl))), OwnG.nil⟩
  rintro mz f1 s ⟨i, l, u, av, cv, hs1_14, rfl, hn, hd1, hd2, hd3⟩
  simp only [Act.putF, List.foldl_cons, List.foldl_nil, hs1_14, Act.put, Act.eval, q1, q2, q3, q4, q5, q6, q7, q8, q9, q10, q11, q12, q13, q14, q15, q16, q17, q18, Nat.reduceAdd, Bool.not_true, Bool.not_false]
  clear hs1_14
  refine wk_seq ?_
  refine wk_region [0] rfl Kx ?_
  simp only [qy]
  refine rfb_lss rfl rfl rfl rfl ?_
  intro x h1
  cases x
  · (try simp only [qd, ne_eq] at h1)
    simp only [qz]
    refine rg_nil (ek_next (wk_seq (wk_cond_f rfl (wk_exit (ek_then_exit (ek_then_exit (ek_block_exit (ek_next (wk_seq ?_)))))))))
    refine wk_region [0, 1, 0] rfl Kx ?_
    simp only [qy]
    refine rf_loadR (n := 2) rfl rfl rfl Try.underlying38 rfl Kx (fun w hw => Kn.hd0 (Kn.tlU hw)) rfl rfl ?_
    simp only [qz]
    refine rf_storeR (n := 2) rfl rfl Kx rfl rfl (UpdR.app _ (UpdR.there _ (UpdR.here _ _ _ Nl))) Nz ?_
    simp only [qz, Nat.reduceAdd]
    refine rg_assign ?_
    simp only [qz]
    refine rg_nil (ek_next (wk_ret ?_))
    refine ek_ret (fun w hw => ⟨rfl, _, run_results2 rfl rfl (Kn.hd0 (Kn.tl (Kn.tlU hw))) Try.underlying38 rfl Kx, ?_⟩)
    (try simp only [qz])
    obtain rfl : N = i := by omega
    have hg := hd2.out
    exact ⟨.slice av l.length cv, u, by unfold madeR; rw [hg]; rfl, (by unfold madeR; rw [hg]; exact hd3), hw.made (List.sublist_append_left _ _)⟩
  (try simp only [qd, ne_eq] at h1)
  simp only [qz]
  refine rg_nil (ek_next (wk_seq (wk_cond_t rfl (wk_skip (ek_next (wk_seq (wk_block (wk_seq ?_))))))))
  refine wk_region [0, 0] rfl Kx ?_
  simp only [qy]
  refine rg_move ?_
  simp only [qz]
  refine rg_assign ?_
  simp only [qz]
  refine rg_nil (ek_next (wk_seq ?_))
  refine wk_region [0, 0] rfl Kx ?_
  simp only [qy]
  refine rg_move ?_
  simp only [qz]
  refine rg_move ?_
  simp only [qz]
  refine rg_nil (ek_next (wk_block ?_))
  refine wk_loopF [5, 8, 9, 10, 18, 19, 20, 21, 22, 23, 24, 25, 26, 27, 28, 29, 30, 31, 32, 33, 34, 35, 36, 37, 38] (fun mz f s => ∃ (k : Nat) (l : List Nm) (u : List Blk) (av : Option Addr) (cv : Nat), f 18 = .int .i64 k ∧ s = (u ++ ((g2, .cells #[.int .i64 N, .slice av l.length cv] 38) :: ((g1, .cells #[.int .i64 0, .slice none 0 0] 38) :: []))) ∧ mz = N - k ∧ k ≤ N ∧ Hid (gather (fun t => fe (t / N) (t % N)) (i * N + k) = .ok l) ∧ OwnN u (.slice av l.length cv) l) ((fun (k : Nat) (l : List Nm) (u : List Blk) (av : Option Addr) (cv : Nat) => N - k) (0) (l) (u) (av) (cv)) ?_ Kx ?_
  · exact ⟨0, l, u, av, cv, rfl, rfl, rfl, by omega, hd2, hd3⟩
  rintro mz f2 s ⟨k, l, u, av, cv, hs2_18, rfl, hn, he1, he2, he3⟩
  simp only [Act.putF, List.foldl_cons, List.foldl_nil, hs2_18, Act.put, Act.eval, q1, q2, q3, q4, q5, q6, q7, q8, q9, q10, q11, q12, q13, q14, q15, q16, q17, q18, Nat.reduceAdd, Bool.not_true, Bool.not_false]
  clear hs2_18
  have hll : l.length ≤ 36 := by (have h1 := gather_len he2.out; have h2 := ix_small (i := i) (N := N) Ox hN; omega)
  refine wk_seq ?_
  refine wk_region [0] rfl Kx ?_
  simp only [qy]
  refine rfb_lss rfl rfl rfl rfl ?_
  intro x h2
  cases x
  · (try simp only [qd, ne_eq] at h2)
    simp only [qz]
    refine rg_nil (ek_next (wk_seq (wk_cond_f rfl (wk_exit (ek_then_exit (ek_then_exit (ek_block_exit (ek_block (ek_next ?_)))))))))
    refine wk_region [0, 0] rfl Kx ?_
    simp only [qy]
    refine rf_add rfl rfl rfl rfl (wrap_ok Ox Ox) ?_
    simp only [qz]
    refine rg_move ?_
    simp only [qz]
    refine rg_nil ?_
    obtain rfl : N = k := by omega
    refine ek_roundF (N - (i + 1)) Ox Kx ?_
    exact ⟨i + 1, l, u, av, cv, rfl, by rfl, by rfl, Ox, (Lib.hid (by rw [← he2.out, Nat.add_mul, Nat.one_mul])), he3⟩
  (try simp only [qd, ne_eq] at h2)
  simp only [qz]
  refine rg_nil (ek_next (wk_seq (wk_cond_t rfl (wk_skip (ek_next (wk_seq (wk_block (wk_seq ?_))))))))
  refine wk_region [0, 0] rfl Kx ?_
  simp only [qy]
  refine rg_move ?_
  simp only [qz]
  refine rg_assign ?_
  simp only [qz]
  refine rg_nil (ek_next (wk_seq ?_))
  refine wk_region [0, 0, 0, 1, 0, 0, 0, 1, 1, 0] rfl Kx ?_
  simp only [qy]
  refine rg_move ?_
  simp only [qz]
  refine rg_move ?_
  simp only [qz]
  refine rg_move ?_
  simp only [qz]
  refine rg_fnv (numV (fe i k)) Rx hF rfl (by simp only [qm, qs, Act.eval] <;> rfl) ⟨i, k, by omega, by omega, rfl, rfl⟩ Nz ?_
  rcases hr : fe i k with c | z
  · have hc0 := hE i k c Ox Ox hr
    (try simp only [numV])
    simp only [qz]
    refine rg_move ?_
    simp only [qz]
    refine rf_extract rfl rfl rfl rfl ?_
    simp only [qz]
    refine rf_extract rfl rfl rfl rfl ?_
    simp only [qz]
    refine Rgn fun g3 => ?_
    simp only [qz]
    refine rf_storeR (n := 5) rfl rfl Kx rfl rfl (UpdR.here _ _ _ Nl) Nz ?_
    simp only [qz, Nat.reduceAdd]
    refine rg_assign ?_
    simp only [qz]
    refine rg_nil (ek_next (wk_seq (wk_seq ?_)))
    refine wk_region [0, 0] rfl Kx ?_
    simp only [qy]
    refine rg_move ?_
    simp only [qz]
    refine rfb_neq rfl rfl rfl rfl ?_
    intro x h3
    obtain rfl : x = true := by (refine h3.symm.trans ?_; exact decide_eq_true Ox)
    clear h3
    simp only [qz]
    refine rg_nil (ek_next (wk_cond_t rfl (wk_seq ?_)))
    refine wk_region [0, 0, 1, 0] rfl Kx ?_
    simp only [qy]
    refine rf_build (cs := fun a => #[.int .i64 0, .slice none 0 0]) rfl rfl Kx ?_
    simp only [qz]
    refine rg_move ?_
    simp only [qz]
    refine rf_storeR (n := 2) rfl rfl Kx rfl rfl (UpdR.there _ (UpdR.app _ (UpdR.there _ (UpdR.here _ _ _ Nl)))) Nz ?_
    simp only [qz, Nat.reduceAdd]
    refine rg_assign ?_
    simp only [qz]
    refine rg_nil (ek_next (wk_ret (ek_then_ret (ek_block_ret (ek_then_ret (ek_then_ret (ek_block_ret (ek_block_ret (ek_then_ret (ek_then_ret (ek_block_ret (ek_then_ret ?_))))))))))))
    refine ek_ret (fun w hw => ⟨rfl, _, run_results2 rfl rfl (Kn.hd0 (Kn.tl (Kn.tlU (Kn.tl hw)))) Try.underlying38 rfl Kx, ?_⟩)
    (try simp only [qz])
    have hg := gather_err (t := i * N + k) (c := c) he2.out (by (try dsimp only); rw [ix_div Ox, ix_mod Ox]; exact hr) (N * N) (ix_lt Ox Ox)
    exact ⟨.slice none 0 0, [], by unfold madeR; rw [hg]; rfl, (by unfold madeR; rw [hg]; exact OwnG.nil), .nil hw.below⟩
  (try simp only [numV])
  simp only [qz]
  refine rg_move ?_
  simp only [qz]
  refine rf_extract rfl rfl rfl rfl ?_
  simp only [qz]
  refine rf_extract rfl rfl rfl rfl ?_
  simp only [qz]
  refine Rgn fun g3 => ?_
  simp only [qz]
  refine rf_storeR (n := 5) rfl rfl Kx rfl rfl (UpdR.here _ _ _ Nl) Nz ?_
  simp only [qz, Nat.reduceAdd]
  refine rg_assign ?_
  simp only [qz]
  refine rg_nil (ek_next (wk_seq (wk_seq ?_)))
  refine wk_region [0, 0] rfl Kx ?_
  simp only [qy]
  refine rg_move ?_
  simp only [qz]
  refine rf_neq (b := false) rfl rfl rfl rfl (by decide) ?_
  simp only [qz]
  refine rg_nil (ek_next (wk_cond_f rfl (wk_skip (ek_next ?_))))
  refine wk_region [0, 0, 0, 1, 1, 0, 1] rfl Kx ?_
  simp only [qy]
  refine rf_field (n := 0) (j := 1) rfl rfl rfl Try.underlying38 rfl Kx rfl ?_
  simp only [qz]
  refine rf_load rfl rfl rfl Try.underlying36 rfl (fun w hw => (Kn.hd0 (Kn.tlU (Kn.tl hw))).at rfl) ?_
  simp only [qz]
  refine rf_loadR (n := 5) rfl rfl rfl Try.underlying45 rfl Kx (fun w hw => Kn.hd0 hw) rfl rfl ?_
  simp only [qz]
  refine rg_newS (cs := ?_) (ty := ?_) (n := 1) (c := 1) Rx (fun w => ?_) Nz (fun g4 => ?_); rotate_left 2
  focus (go_simp; rfl)
  simp only [qz]
  refine rg_appN (x := z) Rx rfl he3 rfl Ox (perm_atU (l := [_, _]) (((((List.Perm.refl _).cons _).cons _).cons _).cons _)) (fun w hw => Kn.hd0 hw) Nz (fun uN1 aN1 cN1 hON1 => ?_)
  simp only [qz]
  refine rf_field (n := 0) (j := 1) rfl rfl rfl Try.underlying38 rfl Kx rfl ?_
  simp only [qz]
  refine rf_store rfl rfl Kx rfl rfl (UpdR.app _ (UpdR.there _ (UpdR.there _ (UpdR.here _ _ _ Nl)))) Nz ?_
  simp only [qz]
  refine rg_nil (ek_block (ek_next ?_))
  refine wk_region [0, 0] rfl Kx ?_
  simp only [qy]
  refine rf_add rfl rfl rfl rfl (wrap_ok Ox Ox) ?_
  simp only [qz]
  refine rg_move ?_
  simp only [qz]
  refine rg_nil ?_
  refine ek_sub (List.Sublist.append_left (sk _ (sk _ (sc _ (sc _ sn)))) _) ?_
  refine ek_roundF (N - (k + 1)) Ox Kx ?_
  exact ⟨k + 1, l ++ [z], uN1, aN1, cN1, rfl, (by simp only [List.length_append, List.length_cons, List.length_nil, Nat.zero_add]), by rfl, Ox, (Lib.hid (by rw [← Nat.add_assoc]; exact gather_ok he2.out (by (try dsimp only); rw [ix_div Ox, ix_mod Ox]; exact hr))), (by simpa using hON1)⟩

def idR (i k : Nat) : NR := .ok (if i = k then Nm.one else Nm.zero)
set_option maxRecDepth 100000 in
set_option maxHeartbeats 1000000 in
theorem identity1_any (i k : Nat) (w : World) : Calls Try.prog 167 #[.int .i64 (i : Int), .int .i64 (k : Int)] w fun e w' => e = .returned (numV (idR i k)) ∧ Below w.heap.size w w' := by
  go_enter Try.func167, Try.ntmps167
  refine wk_start ?_
  refine wk_seq ?_
  refine wk_region [1, 0] rfl Kx ?_
  simp only [qy]
  refine Rgn fun g1 => ?_
  simp only [qz]
  refine rg_assign ?_
  simp only [qz]
  refine rg_nil (ek_next (wk_seq (wk_seq ?_)))
  refine wk_region [0, 0, 0] rfl Kx ?_
  simp only [qy]
  refine rg_move ?_
  simp only [qz]
  refine rg_move ?_
  simp only [qz]
  refine rfb_eql rfl rfl rfl rfl ?_
  intro x h1
  cases x
  · (try simp only [qd, ne_eq] at h1)
    simp only [qz]
    refine rg_nil (ek_next (wk_cond_f rfl (wk_skip (ek_next (wk_seq ?_)))))
    refine wk_region [0, 1, 0] rfl Kx ?_
    simp only [qy]
    refine rf_build (cs := fun a => #[.int .i64 0, .int .i64 0, .int .i64 0, .int .i64 0, .int .i64 0]) rfl rfl Kx ?_
    simp only [qz]
    refine rf_storeR (n := 5) rfl rfl Kx rfl rfl (UpdR.here _ _ _ Nl) Nz ?_
    simp only [qz, Nat.reduceAdd]
    refine rg_assign ?_
    simp only [qz]
    refine rg_nil (ek_next (wk_ret ?_))
    refine ek_ret (fun w hw => ⟨rfl, _, run_results2 rfl rfl (Kn.hd0 hw) Try.underlying45 rfl Kx, ?_⟩)
    (try simp only [qz])
    exact ⟨by (unfold idR; first | (rw [if_pos Ox]; done) | (rw [if_neg Ox]; done) | (rw [if_pos Ox]; rfl) | (rw [if_neg Ox]; rfl)), hw.below⟩
  (try simp only [qd, ne_eq] at h1)
  simp only [qz]
  refine rg_nil (ek_next (wk_cond_t rfl (wk_seq ?_)))
  refine wk_region [0, 0, 1, 0] rfl Kx ?_
  simp only [qy]
  refine rf_build (cs := fun a => #[a.eval (.const (.int .i64 1)), .int .i64 0, .int .i64 0, .int .i64 0]) rfl rfl Kx ?_
  simp only [qz]
  refine rf_build (cs := fun a => #[cellAt (a.eval (.tmp 9)) 0, cellAt (a.eval (.tmp 9)) 1, cellAt (a.eval (.tmp 9)) 2, cellAt (a.eval (.tmp 9)) 3, .int .i64 0]) rfl rfl Kx ?_
  simp only [qz]
  refine rf_storeR (n := 5) rfl rfl Kx rfl rfl (UpdR.here _ _ _ Nl) Nz ?_
  simp only [qz, Nat.reduceAdd]
  refine rg_assign ?_
  simp only [qz]
  refine rg_nil (ek_next (wk_ret (ek_then_ret ?_)))
  refine ek_ret (fun w hw => ⟨rfl, _, run_results2 rfl rfl (Kn.hd0 hw) Try.underlying45 rfl Kx, ?_⟩)
  (try simp only [qz])
  exact ⟨by (unfold idR; first | (rw [if_pos Ox]; done) | (rw [if_neg Ox]; done) | (rw [if_pos Ox]; rfl) | (rw [if_neg Ox]; rfl)), hw.below⟩

def identR (n : Int) : LR := if 1 ≤ n ∧ n ≤ 6 then madeR n.toNat idR else .error 2
set_option maxRecDepth 100000 in
set_option maxHeartbeats 1000000 in
theorem identity_any (n : Int) (w : World) : Calls Try.prog 129 #[.int .i64 n] w fun e w' => RetM w (rN n.toNat (identR n)) (rL (identR n)) (rC (identR n)) e w' := by
  go_enter Try.func129, Try.ntmps129
  refine wk_start ?_
  refine wk_seq ?_
  refine wk_region [1, 0] rfl Kx ?_
  simp only [qy]
  refine Rgn fun g1 => ?_
  simp only [qz]
  refine rg_assign ?_
  simp only [qz]
  refine rg_nil (ek_next (wk_seq (wk_seq ?_)))
  refine wk_region [0, 0, 0, 0, 0, 0] rfl Kx ?_
  simp only [qy]
  refine rg_move ?_
  simp only [qz]
  refine rfb_lss rfl rfl rfl rfl ?_
  intro x h1
  cases x
  · (try simp only [qd, ne_eq] at h1)
    simp only [qz]
    refine rg_move ?_
    simp only [qz]
    apply rg_soft_g
    case hg => rfl
    case hy => (intro w hw; go_simp; (try go_bits); exact Yld.mk _ _)
    simp only [qz]
    refine rfb_gtr rfl rfl rfl rfl ?_
    intro x h2
    cases x
    · (try simp only [qd, ne_eq] at h2)
      simp only [qz]
      refine rf_pick rfl rfl rfl ?_
      simp only [qz]
      refine rg_nil (ek_next (wk_cond_f rfl (wk_skip (ek_next (wk_seq ?_)))))
      refine wk_region [0, 1, 0, 0, 1, 0] rfl Kx ?_
      simp only [qy]
      refine rg_move ?_
      simp only [qz]
      obtain ⟨N, rfl⟩ : ∃ N : Nat, n = N := ⟨n.toNat, by omega⟩
      apply rg_retM Rx Kx
      case hargs => exact Ax
      case h => exact fun w hw => made_any N Ox idR _ (fun i k c _ _ h => by cases h) w (FnV.lit Kx (fun w' vs r ⟨i, k, _, _, hv, hr⟩ => by subst hv hr; exact identity1_any i k w'))
      case hz => exact Nz
      intro va2 vc2 u2 hO2
      simp only [qz]
      refine rf_extract rfl rfl rfl rfl ?_
      simp only [qz]
      refine rf_extract rfl rfl rfl rfl ?_
      simp only [qz]
      refine rf_storeR (n := 2) rfl rfl Kx rfl rfl (UpdR.app _ (UpdR.here _ _ _ Nl)) Nz ?_
      simp only [qz, Nat.reduceAdd]
      refine rg_assign ?_
      simp only [qz]
      refine rg_nil (ek_next (wk_ret ?_))
      refine ek_ret (fun w hw => ⟨rfl, _, run_results2 rfl rfl (Kn.hd0 (Kn.tlU hw)) Try.underlying38 rfl Kx, ?_⟩)
      (try simp only [qz])
      have hid : identR (N : Int) = madeR N idR := by (unfold identR; rw [if_pos Ox, Int.toNat_natCast])
      rw [Int.toNat_natCast, hid]
      exact ⟨.slice va2 (rL (madeR N idR)).length vc2, u2, rfl, hO2, hw.made (List.sublist_append_left _ _)⟩
    (try simp only [qd, ne_eq] at h2)
    simp only [qz]
    refine rf_pick rfl rfl rfl ?_
    simp only [qz]
    refine rg_nil (ek_next (wk_cond_t rfl (wk_seq ?_)))
    refine wk_region [0, 1, 0] rfl Kx ?_
    simp only [qy]
    refine rf_build (cs := fun a => #[.int .i64 0, .slice none 0 0]) rfl rfl Kx ?_
    simp only [qz]
    refine rf_storeR (n := 2) rfl rfl Kx rfl rfl (UpdR.here _ _ _ Nl) Nz ?_
    simp only [qz, Nat.reduceAdd]
    refine rg_assign ?_
    simp only [qz]
    refine rg_nil (ek_next (wk_ret (ek_then_ret ?_)))
    refine ek_ret (fun w hw => ⟨rfl, _, run_results2 rfl rfl (Kn.hd0 hw) Try.underlying38 rfl Kx, ?_⟩)
    (try simp only [qz])
    have hid : identR n = .error 2 := by (unfold identR; rw [if_neg Ox])
    rw [hid]
    exact ⟨.slice none 0 0, [], rfl, OwnG.nil, .nil hw.below⟩
  (try simp only [qd, ne_eq] at h1)
  simp only [qz]
  refine rg_move ?_
  simp only [qz]
  refine rg_skip Rx ?_
  simp only [qz]
  refine rg_skip Rx ?_
  simp only [qz]
  refine rf_pick rfl rfl rfl ?_
  simp only [qz]
  refine rg_nil (ek_next (wk_cond_t rfl (wk_seq ?_)))
  refine wk_region [0, 1, 0] rfl Kx ?_
  simp only [qy]
  refine rf_build (cs := fun a => #[.int .i64 0, .slice none 0 0]) rfl rfl Kx ?_
  simp only [qz]
  refine rf_storeR (n := 2) rfl rfl Kx rfl rfl (UpdR.here _ _ _ Nl) Nz ?_
  simp only [qz, Nat.reduceAdd]
  refine rg_assign ?_
  simp only [qz]
  refine rg_nil (ek_next (wk_ret (ek_then_ret ?_)))
  refine ek_ret (fun w hw => ⟨rfl, _, run_results2 rfl rfl (Kn.hd0 hw) Try.underlying38 rfl Kx, ?_⟩)
  (try simp only [qz])
  have hid : identR n = .error 2 := by (unfold identR; rw [if_neg Ox])
  rw [hid]
  exact ⟨.slice none 0 0, [], rfl, OwnG.nil, .nil hw.below⟩

end Go.Proofs.Ytccbinnlnkpplaa
namespace Go.Proofs.Ytccbinnlnkpplaa
set_option linter.all false
open Go.RowKit

section
variable {P : Program} {w : World}
theorem run_results_c2 {fn : Func} {k k' ty ty' : Nat} {tmps : Array Value} {g t g' t' : Nat} {cs cs' : Array Value} {d d' : TypeDesc} (hres : fn.results = #[.cell k ty, .cell k' ty'])
    (hk : tmps.getD k undef = .pointer (some ⟨g, 0, none⟩)) (hg : Hd w g t cs) (hu : P.underlying ty = some d) (hr : isRow d = true)
    (hs : (P.info? ty).map (·.size) = some cs.size) (hk' : tmps.getD k' undef = .pointer (some ⟨g', 0, none⟩)) (hg' : Hd w g' t' cs') (hu' : P.underlying ty' = some d') (hr' : isRow d' = true)
    (hs' : (P.info? ty').map (·.size) = some cs'.size) : (results fn tmps).run P w = .ok (.tuple #[.agg cs, .agg cs']) w := by
  have := run_load_hd hg hu hr hs
  have := run_load_hd hg' hu' hr' hs'
  have hk0 : tmps[k]?.getD undef = .pointer (some ⟨g, 0, none⟩) := by simpa using hk
  have hk0' : tmps[k']?.getD undef = .pointer (some ⟨g', 0, none⟩) := by simpa using hk'
  simp [results, hres, hk0, hk0', asAddr, *]
end
theorem Hd.belowS {w w' : World} {g t : Nat} {cs : Array Value} (h : Hd w g t cs) (hb : Below w.heap.size w w') : Hd w' g t cs := (hb.block g h.lt).trans h
theorem numV_ve2 (r : NR) : ∃ (v : Nm) (c : Int), numV r = .tuple #[nmV v, .int .i64 c] := by cases r <;> exact ⟨_, _, rfl⟩
theorem elemOk {xs : List Nm} {N : Nat} (hok : allOk xs = true) (hl : xs.length = N * N) {i k : Nat} (hi : i < N) (hk : k < N) : (nm xs (i * N + k)).Ok := ok_at hok (by rw [hl]; exact ix_lt hi hk)
theorem validB_N' {n : Int} {xs : List Nm} (h : validB n xs = true) : ∃ N : Nat, n = N ∧ 1 ≤ N ∧ N ≤ 6 ∧ xs.length = N * N ∧ xs.length ≤ 36 ∧ allOk xs = true := by
  simp only [validB, Bool.and_eq_true, decide_eq_true_eq] at h
  obtain ⟨h1, h2, h3, h4⟩ := h
  obtain ⟨N, rfl⟩ : ∃ N : Nat, n = N := ⟨n.toNat, by omega⟩
  have h5 : xs.length = N * N := by
    have e : ((N * N : Nat) : Int) = (N : Int) * N := Int.natCast_mul N N
    omega
  have h6 : N * N ≤ 6 * 6 := Nat.mul_le_mul Ox Ox
  exact ⟨N, rfl, by omega, by omega, h5, by omega, h4⟩
theorem retM_err {w w' : World} {K : Nat} {c : Int} {r : LR} (h : r = .error c) (hb : Below w.heap.size w w') : RetM w (rN K r) (rL r) (rC r) (.returned (.tuple #[.agg #[.int .i64 0, .slice none 0 0], .int .i64 c])) w' := by
  subst h
  exact ⟨.slice none 0 0, [], rfl, OwnG.nil, .nil hb⟩
theorem wrap_eqB {n r : Int} (h : n = r) (h0 : -9223372036854775808 ≤ r) (h1 : r < 9223372036854775808) : IntKind.i64.wrap n = r := by
  rw [h]; exact wrap_ok Ox Ox
end Go.Proofs.Ytccbinnlnkpplaa
namespace Go.Proofs.Ytccbinnlnkpplaa
set_option linter.all false
open Go.RowKit

set_option maxRecDepth 100000 in
set_option maxHeartbeats 1000000 in
theorem amadd_any (x y : Nm) (hx : x.Ok) (hy : y.Ok) (w : World) : Calls Try.prog 138 #[nmV x, nmV y] w fun e w' => e = .returned (nmV (x.addR y)) ∧ Below w.heap.size w w' := by
  have hx' := hx
  have hy' := hy
  obtain ⟨⟨xa0, xa1, xb0, xb1, xc0, xc1, xd0, xd1⟩, xk0, xk1, xf⟩ := hx'
  obtain ⟨⟨ya0, ya1, yb0, yb1, yc0, yc1, yd0, yd1⟩, yk0, yk1, yf⟩ := hy'
  go_enter Try.func138, Try.ntmps138
  refine wk_start ?_
  refine wk_seq ?_
  refine wk_region [1, 1, 1] rfl Kx ?_
  simp only [qy]
  refine Rgn fun g1 => ?_
  simp only [qz]
  refine Rgn fun g2 => ?_
  simp only [qz]
  refine Rgn fun g3 => ?_
  simp only [qz]
  refine rg_nil (ek_next (wk_seq (wk_seq ?_)))
  refine wk_region [0, 0, 0, 0, 0] rfl Kx ?_
  simp only [qy]
  refine rf_field (n := 0) (j := 4) rfl rfl rfl Try.underlying45 rfl Kx rfl ?_
  simp only [qz]
  refine rf_load rfl rfl rfl Try.underlying3 rfl (fun w hw => (Kn.hd0 (Kn.tl (Kn.tl hw))).at rfl) ?_
  simp only [qz]
  refine rf_field (n := 0) (j := 4) rfl rfl rfl Try.underlying45 rfl Kx rfl ?_
  simp only [qz]
  refine rf_load rfl rfl rfl Try.underlying3 rfl (fun w hw => (Kn.hd0 (Kn.tl hw)).at rfl) ?_
  simp only [qz]
  refine rfb_lss rfl rfl rfl rfl ?_
  intro x h1
  cases x
  · (try simp only [qd, ne_eq] at h1)
    simp only [qz]
    refine rg_nil (ek_next (wk_cond_f rfl (wk_skip (ek_next (wk_seq ?_)))))
    refine wk_region [0, 0, 0, 0, 0, 0, 0, 1, 1, 1] rfl Kx ?_
    simp only [qy]
    refine rf_field (n := 3) (j := 0) rfl rfl rfl Try.underlying45 rfl Kx rfl ?_
    simp only [qz]
    refine rf_loadR (n := 4) rfl rfl rfl Try.underlying43 rfl Kx (fun w hw => Kn.hd0 (Kn.tl hw)) rfl rfl ?_
    simp only [qz]
    refine rf_field (n := 0) (j := 4) rfl rfl rfl Try.underlying45 rfl Kx rfl ?_
    simp only [qz]
    refine rf_load rfl rfl rfl Try.underlying3 rfl (fun w hw => (Kn.hd0 (Kn.tl (Kn.tl hw))).at rfl) ?_
    simp only [qz]
    refine rf_field (n := 0) (j := 4) rfl rfl rfl Try.underlying45 rfl Kx rfl ?_
    simp only [qz]
    refine rf_load rfl rfl rfl Try.underlying3 rfl (fun w hw => (Kn.hd0 (Kn.tl hw)).at rfl) ?_
    simp only [qz]
    refine rf_sub rfl rfl rfl rfl (wrap_ok Ox Ox) ?_
    simp only [qz]
    obtain ⟨ua0, ua1, ub0, ub1, uc0, uc1, ud0, ud1⟩ := Nm.up40_fit (n := (x.k - y.k).toNat) (z := y) hy.fit Ox
    apply rg_pure Rx Kx
    case hargs => exact Ax
    case h => exact fun w hw => by_any y (x.k - y.k) Ox Ox hy.fit w
    case hz => exact Nz
    simp only [qz]
    refine Rgn fun g4 => ?_
    simp only [qz]
    refine rf_storeR (n := 4) rfl rfl Kx rfl rfl (UpdR.here _ _ _ Nl) Nz ?_
    simp only [qz, Nat.reduceAdd]
    refine rg_nil (ek_next (wk_seq (wk_seq ?_)))
    refine wk_region [0] rfl Kx ?_
    simp only [qy]
    refine rg_move ?_
    simp only [qz]
    refine rg_nil (ek_next (wk_block ?_))
    refine wk_unroll 4 ?_
    refine wk_seq ?_
    refine wk_region [0] rfl Kx ?_
    simp only [qy]
    refine rf_lss (b := true) rfl rfl rfl rfl (by decide) ?_
    simp only [qz]
    refine rg_nil (ek_next (wk_seq (wk_cond_t rfl (wk_skip (ek_next (wk_seq (wk_block (wk_seq ?_))))))))
    refine wk_region [0, 0] rfl Kx ?_
    simp only [qy]
    refine rg_move ?_
    simp only [qz]
    refine rg_assign ?_
    simp only [qz]
    refine rg_nil (ek_next ?_)
    refine wk_draws_m (hz1 := (sk _ (sc _ (sc _ (sc _ sn))))) [(0, 0), (1, 0), (2, 0), (3, 0), (4, 0), (5, 0), (6, 0), (7, 0), (8, 0), (9, 2)] 9 Kx Kx (fun c d v a w h => by cases d <;> exact h) ?_
    simp only [List.map_cons, List.map_nil, List.getD_cons_zero, List.getD_cons_succ]
    refine rg_move ?_
    simp only [qz]
    refine rf_indexA (n := 0) (sz := 1) (j := 0) rfl rfl rfl rfl Try.underlying43 Kx (by decide) rfl ?_
    simp only [qz]
    refine rf_load rfl rfl rfl Try.underlying3 rfl (fun w hw => (Kn.hd0 hw).at rfl) ?_
    simp only [qz]
    refine rg_move ?_
    simp only [qz]
    refine rf_field (n := 3) (j := 0) rfl rfl rfl Try.underlying45 rfl Kx rfl ?_
    simp only [qz]
    refine rf_indexA (n := 0) (sz := 1) (j := 0) rfl rfl rfl rfl Try.underlying43 Kx (by decide) rfl ?_
    simp only [qz]
    refine rf_load rfl rfl rfl Try.underlying3 rfl (fun w hw => (Kn.hd0 (Kn.tl (Kn.tl (Kn.tl hw)))).at rfl) ?_
    simp only [qz]
    refine rf_add rfl rfl rfl rfl (wrap_ok Ox Ox) ?_
    simp only [qz]
    refine rf_indexA (n := 0) (sz := 1) (j := 0) rfl rfl rfl rfl Try.underlying43 Kx (by decide) rfl ?_
    simp only [qz]
    refine rf_storeM rfl rfl Kx rfl rfl (UpdR.here _ _ _ Nl) (sk _ (sc _ (sc _ (sc _ sn)))) ?_
    simp only [qz]
    refine rg_nil (ek_block (ek_next ?_))
    refine wk_region [0, 0] rfl Kx ?_
    simp only [qy]
    refine rf_add (r := 1) rfl rfl rfl rfl (by decide) ?_
    simp only [qz]
    refine rg_move ?_
    simp only [qz]
    refine rg_nil (ek_again (wk_seq ?_))
    refine wk_region [0] rfl Kx ?_
    simp only [qy]
    refine rf_lss (b := true) rfl rfl rfl rfl (by decide) ?_
    simp only [qz]
    refine rg_nil (ek_next (wk_seq (wk_cond_t rfl (wk_skip (ek_next (wk_seq (wk_block (wk_seq ?_))))))))
    refine wk_region [0, 0] rfl Kx ?_
    simp only [qy]
    refine rg_move ?_
    simp only [qz]
    refine rg_assign ?_
    simp only [qz]
    refine rg_nil (ek_next ?_)
    refine wk_draws_m (hz1 := (sk _ (sc _ (sc _ (sc _ sn))))) [(0, 0), (1, 0), (2, 0), (3, 0), (4, 0), (5, 0), (6, 0), (7, 0), (8, 0), (9, 2)] 9 Kx Kx (fun c d v a w h => by cases d <;> exact h) ?_
    simp only [List.map_cons, List.map_nil, List.getD_cons_zero, List.getD_cons_succ]
    refine rg_move ?_
    simp only [qz]
    refine rf_indexA (n := 1) (sz := 1) (j := 1) rfl rfl rfl rfl Try.underlying43 Kx (by decide) rfl ?_
    simp only [qz]
    refine rf_load rfl rfl rfl Try.underlying3 rfl (fun w hw => (Kn.hd0 hw).at rfl) ?_
    simp only [qz]
    refine rg_move ?_
    simp only [qz]
    refine rf_field (n := 3) (j := 0) rfl rfl rfl Try.underlying45 rfl Kx rfl ?_
    simp only [qz]
    refine rf_indexA (n := 1) (sz := 1) (j := 1) rfl rfl rfl rfl Try.underlying43 Kx (by decide) rfl ?_
    simp only [qz]
    refine rf_load rfl rfl rfl Try.underlying3 rfl (fun w hw => (Kn.hd0 (Kn.tl (Kn.tl (Kn.tl hw)))).at rfl) ?_
    simp only [qz]
    refine rf_add rfl rfl rfl rfl (wrap_ok Ox Ox) ?_
    simp only [qz]
    refine rf_indexA (n := 1) (sz := 1) (j := 1) rfl rfl rfl rfl Try.underlying43 Kx (by decide) rfl ?_
    simp only [qz]
    refine rf_storeM rfl rfl Kx rfl rfl (UpdR.here _ _ _ Nl) (sk _ (sc _ (sc _ (sc _ sn)))) ?_
    simp only [qz]
    refine rg_nil (ek_block (ek_next ?_))
    refine wk_region [0, 0] rfl Kx ?_
    simp only [qy]
    refine rf_add (r := 2) rfl rfl rfl rfl (by decide) ?_
    simp only [qz]
    refine rg_move ?_
    simp only [qz]
    refine rg_nil (ek_again (wk_seq ?_))
    refine wk_region [0] rfl Kx ?_
    simp only [qy]
    refine rf_lss (b := true) rfl rfl rfl rfl (by decide) ?_
    simp only [qz]
    refine rg_nil (ek_next (wk_seq (wk_cond_t rfl (wk_skip (ek_next (wk_seq (wk_block (wk_seq ?_))))))))
    refine wk_region [0, 0] rfl Kx ?_
    simp only [qy]
    refine rg_move ?_
    simp only [qz]
    refine rg_assign ?_
    simp only [qz]
    refine rg_nil (ek_next ?_)
    refine wk_draws_m (hz1 := (sk _ (sc _ (sc _ (sc _ sn))))) [(0, 0), (1, 0), (2, 0), (3, 0), (4, 0), (5, 0), (6, 0), (7, 0), (8, 0), (9, 2)] 9 Kx Kx (fun c d v a w h => by cases d <;> exact h) ?_
    simp only [List.map_cons, List.map_nil, List.getD_cons_zero, List.getD_cons_succ]
    refine rg_move ?_
    simp only [qz]
    refine rf_indexA (n := 2) (sz := 1) (j := 2) rfl rfl rfl rfl Try.underlying43 Kx (by decide) rfl ?_
    simp only [qz]
    refine rf_load rfl rfl rfl Try.underlying3 rfl (fun w hw => (Kn.hd0 hw).at rfl) ?_
    simp only [qz]
    refine rg_move ?_
    simp only [qz]
    refine rf_field (n := 3) (j := 0) rfl rfl rfl Try.underlying45 rfl Kx rfl ?_
    simp only [qz]
    refine rf_indexA (n := 2) (sz := 1) (j := 2) rfl rfl rfl rfl Try.underlying43 Kx (by decide) rfl ?_
    simp only [qz]
    refine rf_load rfl rfl rfl Try.underlying3 rfl (fun w hw => (Kn.hd0 (Kn.tl (Kn.tl (Kn.tl hw)))).at rfl) ?_
    simp only [qz]
    refine rf_add rfl rfl rfl rfl (wrap_ok Ox Ox) ?_
    simp only [qz]
    refine rf_indexA (n := 2) (sz := 1) (j := 2) rfl rfl rfl rfl Try.underlying43 Kx (by decide) rfl ?_
    simp only [qz]
    refine rf_storeM rfl rfl Kx rfl rfl (UpdR.here _ _ _ Nl) (sk _ (sc _ (sc _ (sc _ sn)))) ?_
    simp only [qz]
    refine rg_nil (ek_block (ek_next ?_))
    refine wk_region [0, 0] rfl Kx ?_
    simp only [qy]
    refine rf_add (r := 3) rfl rfl rfl rfl (by decide) ?_
    simp only [qz]
    refine rg_move ?_
    simp only [qz]
    refine rg_nil (ek_again (wk_seq ?_))
    refine wk_region [0] rfl Kx ?_
    simp only [qy]
    refine rf_lss (b := true) rfl rfl rfl rfl (by decide) ?_
    simp only [qz]
    refine rg_nil (ek_next (wk_seq (wk_cond_t rfl (wk_skip (ek_next (wk_seq (wk_block (wk_seq ?_))))))))
    refine wk_region [0, 0] rfl Kx ?_
    simp only [qy]
    refine rg_move ?_
    simp only [qz]
    refine rg_assign ?_
    simp only [qz]
    refine rg_nil (ek_next ?_)
    refine wk_draws_m (hz1 := (sk _ (sc _ (sc _ (sc _ sn))))) [(0, 0), (1, 0), (2, 0), (3, 0), (4, 0), (5, 0), (6, 0), (7, 0), (8, 0), (9, 2)] 9 Kx Kx (fun c d v a w h => by cases d <;> exact h) ?_
    simp only [List.map_cons, List.map_nil, List.getD_cons_zero, List.getD_cons_succ]
    refine rg_move ?_
    simp only [qz]
    refine rf_indexA (n := 3) (sz := 1) (j := 3) rfl rfl rfl rfl Try.underlying43 Kx (by decide) rfl ?_
    simp only [qz]
    refine rf_load rfl rfl rfl Try.underlying3 rfl (fun w hw => (Kn.hd0 hw).at rfl) ?_
    simp only [qz]
    refine rg_move ?_
    simp only [qz]
    refine rf_field (n := 3) (j := 0) rfl rfl rfl Try.underlying45 rfl Kx rfl ?_
    simp only [qz]
    refine rf_indexA (n := 3) (sz := 1) (j := 3) rfl rfl rfl rfl Try.underlying43 Kx (by decide) rfl ?_
    simp only [qz]
    refine rf_load rfl rfl rfl Try.underlying3 rfl (fun w hw => (Kn.hd0 (Kn.tl (Kn.tl (Kn.tl hw)))).at rfl) ?_
    simp only [qz]
    refine rf_add rfl rfl rfl rfl (wrap_ok Ox Ox) ?_
    simp only [qz]
    refine rf_indexA (n := 3) (sz := 1) (j := 3) rfl rfl rfl rfl Try.underlying43 Kx (by decide) rfl ?_
    simp only [qz]
    refine rf_storeM rfl rfl Kx rfl rfl (UpdR.here _ _ _ Nl) (sk _ (sc _ (sc _ (sc _ sn)))) ?_
    simp only [qz]
    refine rg_nil (ek_block (ek_next ?_))
    refine wk_region [0, 0] rfl Kx ?_
    simp only [qy]
    refine rf_add (r := 4) rfl rfl rfl rfl (by decide) ?_
    simp only [qz]
    refine rg_move ?_
    simp only [qz]
    refine rg_nil (ek_again (wk_seq ?_))
    refine wk_region [0] rfl Kx ?_
    simp only [qy]
    refine rf_lss (b := false) rfl rfl rfl rfl (by decide) ?_
    simp only [qz]
    refine rg_nil (ek_next (wk_seq (wk_cond_f rfl (wk_exit (ek_then_exit (ek_then_exit (ek_block_exit (ek_next (wk_seq ?_)))))))))
    refine wk_region [0, 0, 0, 0, 1] rfl Kx ?_
    simp only [qy]
    refine rf_loadR (n := 4) rfl rfl rfl Try.underlying43 rfl Kx (fun w hw => Kn.hd0 hw) rfl rfl ?_
    simp only [qz]
    refine rf_field (n := 0) (j := 4) rfl rfl rfl Try.underlying45 rfl Kx rfl ?_
    simp only [qz]
    refine rf_load rfl rfl rfl Try.underlying3 rfl (fun w hw => (Kn.hd0 (Kn.tl (Kn.tl (Kn.tl hw)))).at rfl) ?_
    simp only [qz]
    refine rf_build (cs := fun a => #[cellAt (a.eval (.tmp 35)) 0, cellAt (a.eval (.tmp 35)) 1, cellAt (a.eval (.tmp 35)) 2, cellAt (a.eval (.tmp 35)) 3, a.eval (.tmp 37)]) rfl rfl Kx ?_
    simp only [qz]
    refine rf_storeR (n := 5) rfl rfl Kx rfl rfl (UpdR.there _ (UpdR.here _ _ _ Nl)) Nz ?_
    simp only [qz, Nat.reduceAdd]
    refine rg_nil (ek_next (wk_ret ?_))
    refine ek_ret (fun w hw => ⟨rfl, _, run_results1 rfl rfl (Kn.hd0 (Kn.tl hw)) Try.underlying139 rfl Kx, ?_⟩)
    (try simp only [qz])
    exact ⟨by rw [addR_ge Ox]; rfl, hw.below⟩
  (try simp only [qd, ne_eq] at h1)
  simp only [qz]
  refine rg_nil (ek_next (wk_cond_t rfl ?_))
  refine wk_region [0, 0, 1, 1] rfl Kx ?_
  simp only [qy]
  refine rf_loadR (n := 5) rfl rfl rfl Try.underlying45 rfl Kx (fun w hw => Kn.hd0 (Kn.tl hw)) rfl rfl ?_
  simp only [qz]
  refine rf_loadR (n := 5) rfl rfl rfl Try.underlying45 rfl Kx (fun w hw => Kn.hd0 (Kn.tl (Kn.tl hw))) rfl rfl ?_
  simp only [qz]
  refine rf_storeR (n := 5) rfl rfl Kx rfl rfl (UpdR.there _ (UpdR.there _ (UpdR.here _ _ _ Nl))) Nz ?_
  simp only [qz, Nat.reduceAdd]
  refine rf_storeR (n := 5) rfl rfl Kx rfl rfl (UpdR.there _ (UpdR.here _ _ _ Nl)) Nz ?_
  simp only [qz, Nat.reduceAdd]
  refine rg_nil (ek_next (wk_seq ?_))
  refine wk_region [0, 0, 0, 0, 0, 0, 0, 1, 1, 1] rfl Kx ?_
  simp only [qy]
  refine rf_field (n := 3) (j := 0) rfl rfl rfl Try.underlying45 rfl Kx rfl ?_
  simp only [qz]
  refine rf_loadR (n := 4) rfl rfl rfl Try.underlying43 rfl Kx (fun w hw => Kn.hd0 (Kn.tl hw)) rfl rfl ?_
  simp only [qz]
  refine rf_field (n := 0) (j := 4) rfl rfl rfl Try.underlying45 rfl Kx rfl ?_
  simp only [qz]
  refine rf_load rfl rfl rfl Try.underlying3 rfl (fun w hw => (Kn.hd0 (Kn.tl (Kn.tl hw))).at rfl) ?_
  simp only [qz]
  refine rf_field (n := 0) (j := 4) rfl rfl rfl Try.underlying45 rfl Kx rfl ?_
  simp only [qz]
  refine rf_load rfl rfl rfl Try.underlying3 rfl (fun w hw => (Kn.hd0 (Kn.tl hw)).at rfl) ?_
  simp only [qz]
  refine rf_sub rfl rfl rfl rfl (wrap_ok Ox Ox) ?_
  simp only [qz]
  obtain ⟨ua0, ua1, ub0, ub1, uc0, uc1, ud0, ud1⟩ := Nm.up40_fit (n := (y.k - x.k).toNat) (z := x) hx.fit Ox
  apply rg_pure Rx Kx
  case hargs => exact Ax
  case h => exact fun w hw => by_any x (y.k - x.k) Ox Ox hx.fit w
  case hz => exact Nz
  simp only [qz]
  refine Rgn fun g5 => ?_
  simp only [qz]
  refine rf_storeR (n := 4) rfl rfl Kx rfl rfl (UpdR.here _ _ _ Nl) Nz ?_
  simp only [qz, Nat.reduceAdd]
  refine rg_nil (ek_next (wk_seq (wk_seq ?_)))
  refine wk_region [0] rfl Kx ?_
  simp only [qy]
  refine rg_move ?_
  simp only [qz]
  refine rg_nil (ek_next (wk_block ?_))
  refine wk_unroll 4 ?_
  refine wk_seq ?_
  refine wk_region [0] rfl Kx ?_
  simp only [qy]
  refine rf_lss (b := true) rfl rfl rfl rfl (by decide) ?_
  simp only [qz]
  refine rg_nil (ek_next (wk_seq (wk_cond_t rfl (wk_skip (ek_next (wk_seq (wk_block (wk_seq ?_))))))))
  refine wk_region [0, 0] rfl Kx ?_
  simp only [qy]
  refine rg_move ?_
  simp only [qz]
  refine rg_assign ?_
  simp only [qz]
  refine rg_nil (ek_next ?_)
  refine wk_draws_m (hz1 := (sk _ (sc _ (sc _ (sc _ sn))))) [(0, 0), (1, 0), (2, 0), (3, 0), (4, 0), (5, 0), (6, 0), (7, 0), (8, 0), (9, 2)] 9 Kx Kx (fun c d v a w h => by cases d <;> exact h) ?_
  simp only [List.map_cons, List.map_nil, List.getD_cons_zero, List.getD_cons_succ]
  refine rg_move ?_
  simp only [qz]
  refine rf_indexA (n := 0) (sz := 1) (j := 0) rfl rfl rfl rfl Try.underlying43 Kx (by decide) rfl ?_
  simp only [qz]
  refine rf_load rfl rfl rfl Try.underlying3 rfl (fun w hw => (Kn.hd0 hw).at rfl) ?_
  simp only [qz]
  refine rg_move ?_
  simp only [qz]
  refine rf_field (n := 3) (j := 0) rfl rfl rfl Try.underlying45 rfl Kx rfl ?_
  simp only [qz]
  refine rf_indexA (n := 0) (sz := 1) (j := 0) rfl rfl rfl rfl Try.underlying43 Kx (by decide) rfl ?_
  simp only [qz]
  refine rf_load rfl rfl rfl Try.underlying3 rfl (fun w hw => (Kn.hd0 (Kn.tl (Kn.tl (Kn.tl hw)))).at rfl) ?_
  simp only [qz]
  refine rf_add rfl rfl rfl rfl (wrap_ok Ox Ox) ?_
  simp only [qz]
  refine rf_indexA (n := 0) (sz := 1) (j := 0) rfl rfl rfl rfl Try.underlying43 Kx (by decide) rfl ?_
  simp only [qz]
  refine rf_storeM rfl rfl Kx rfl rfl (UpdR.here _ _ _ Nl) (sk _ (sc _ (sc _ (sc _ sn)))) ?_
  simp only [qz]
  refine rg_nil (ek_block (ek_next ?_))
  refine wk_region [0, 0] rfl Kx ?_
  simp only [qy]
  refine rf_add (r := 1) rfl rfl rfl rfl (by decide) ?_
  simp only [qz]
  refine rg_move ?_
  simp only [qz]
  refine rg_nil (ek_again (wk_seq ?_))
  refine wk_region [0] rfl Kx ?_
  simp only [qy]
  refine rf_lss (b := true) rfl rfl rfl rfl (by decide) ?_
  simp only [qz]
  refine rg_nil (ek_next (wk_seq (wk_cond_t rfl (wk_skip (ek_next (wk_seq (wk_block (wk_seq ?_))))))))
  refine wk_region [0, 0] rfl Kx ?_
  simp only [qy]
  refine rg_move ?_
  simp only [qz]
  refine rg_assign ?_
  simp only [qz]
  refine rg_nil (ek_next ?_)
  refine wk_draws_m (hz1 := (sk _ (sc _ (sc _ (sc _ sn))))) [(0, 0), (1, 0), (2, 0), (3, 0), (4, 0), (5, 0), (6, 0), (7, 0), (8, 0), (9, 2)] 9 Kx Kx (fun c d v a w h => by cases d <;> exact h) ?_
  simp only [List.map_cons, List.map_nil, List.getD_cons_zero, List.getD_cons_succ]
  refine rg_move ?_
  simp only [qz]
  refine rf_indexA (n := 1) (sz := 1) (j := 1) rfl rfl rfl rfl Try.underlying43 Kx (by decide) rfl ?_
  simp only [qz]
  refine rf_load rfl rfl rfl Try.underlying3 rfl (fun w hw => (Kn.hd0 hw).at rfl) ?_
  simp only [qz]
  refine rg_move ?_
  simp only [qz]
  refine rf_field (n := 3) (j := 0) rfl rfl rfl Try.underlying45 rfl Kx rfl ?_
  simp only [qz]
  refine rf_indexA (n := 1) (sz := 1) (j := 1) rfl rfl rfl rfl Try.underlying43 Kx (by decide) rfl ?_
  simp only [qz]
  refine rf_load rfl rfl rfl Try.underlying3 rfl (fun w hw => (Kn.hd0 (Kn.tl (Kn.tl (Kn.tl hw)))).at rfl) ?_
  simp only [qz]
  refine rf_add rfl rfl rfl rfl (wrap_ok Ox Ox) ?_
  simp only [qz]
  refine rf_indexA (n := 1) (sz := 1) (j := 1) rfl rfl rfl rfl Try.underlying43 Kx (by decide) rfl ?_
  simp only [qz]
  refine rf_storeM rfl rfl Kx rfl rfl (UpdR.here _ _ _ Nl) (sk _ (sc _ (sc _ (sc _ sn)))) ?_
  simp only [qz]
  refine rg_nil (ek_block (ek_next ?_))
  refine wk_region [0, 0] rfl Kx ?_
  simp only [qy]
  refine rf_add (r := 2) rfl rfl rfl rfl (by decide) ?_
  simp only [qz]
  refine rg_move ?_
  simp only [qz]
  refine rg_nil (ek_again (wk_seq ?_))
  refine wk_region [0] rfl Kx ?_
  simp only [qy]
  refine rf_lss (b := true) rfl rfl rfl rfl (by decide) ?_
  simp only [qz]
  refine rg_nil (ek_next (wk_seq (wk_cond_t rfl (wk_skip (ek_next (wk_seq (wk_block (wk_seq ?_))))))))
  refine wk_region [0, 0] rfl Kx ?_
  simp only [qy]
  refine rg_move ?_
  simp only [qz]
  refine rg_assign ?_
  simp only [qz]
  refine rg_nil (ek_next ?_)
  refine wk_draws_m (hz1 := (sk _ (sc _ (sc _ (sc _ sn))))) [(0, 0), (1, 0), (2, 0), (3, 0), (4, 0), (5, 0), (6, 0), (7, 0), (8, 0), (9, 2)] 9 Kx Kx (fun c d v a w h => by cases d <;> exact h) ?_
  simp only [List.map_cons, List.map_nil, List.getD_cons_zero, List.getD_cons_succ]
  refine rg_move ?_
  simp only [qz]
  refine rf_indexA (n := 2) (sz := 1) (j := 2) rfl rfl rfl rfl Try.underlying43 Kx (by decide) rfl ?_
  simp only [qz]
  refine rf_load rfl rfl rfl Try.underlying3 rfl (fun w hw => (Kn.hd0 hw).at rfl) ?_
  simp only [qz]
  refine rg_move ?_
  simp only [qz]
  refine rf_field (n := 3) (j := 0) rfl rfl rfl Try.underlying45 rfl Kx rfl ?_
  simp only [qz]
  refine rf_indexA (n := 2) (sz := 1) (j := 2) rfl rfl rfl rfl Try.underlying43 Kx (by decide) rfl ?_
  simp only [qz]
  refine rf_load rfl rfl rfl Try.underlying3 rfl (fun w hw => (Kn.hd0 (Kn.tl (Kn.tl (Kn.tl hw)))).at rfl) ?_
  simp only [qz]
  refine rf_add rfl rfl rfl rfl (wrap_ok Ox Ox) ?_
  simp only [qz]
  refine rf_indexA (n := 2) (sz := 1) (j := 2) rfl rfl rfl rfl Try.underlying43 Kx (by decide) rfl ?_
  simp only [qz]
  refine rf_storeM rfl rfl Kx rfl rfl (UpdR.here _ _ _ Nl) (sk _ (sc _ (sc _ (sc _ sn)))) ?_
  simp only [qz]
  refine rg_nil (ek_block (ek_next ?_))
  refine wk_region [0, 0] rfl Kx ?_
  simp only [qy]
  refine rf_add (r := 3) rfl rfl rfl rfl (by decide) ?_
  simp only [qz]
  refine rg_move ?_
  simp only [qz]
  refine rg_nil (ek_again (wk_seq ?_))
  refine wk_region [0] rfl Kx ?_
  simp only [qy]
  refine rf_lss (b := true) rfl rfl rfl rfl (by decide) ?_
  simp only [qz]
  refine rg_nil (ek_next (wk_seq (wk_cond_t rfl (wk_skip (ek_next (wk_seq (wk_block (wk_seq ?_))))))))
  refine wk_region [0, 0] rfl Kx ?_
  simp only [qy]
  refine rg_move ?_
  simp only [qz]
  refine rg_assign ?_
  simp only [qz]
  refine rg_nil (ek_next ?_)
  refine wk_draws_m (hz1 := (sk _ (sc _ (sc _ (sc _ sn))))) [(0, 0), (1, 0), (2, 0), (3, 0), (4, 0), (5, 0), (6, 0), (7, 0), (8, 0), (9, 2)] 9 Kx Kx (fun c d v a w h => by cases d <;> exact h) ?_
  simp only [List.map_cons, List.map_nil, List.getD_cons_zero, List.getD_cons_succ]
  refine rg_move ?_
  simp only [qz]
  refine rf_indexA (n := 3) (sz := 1) (j := 3) rfl rfl rfl rfl Try.underlying43 Kx (by decide) rfl ?_
  simp only [qz]
  refine rf_load rfl rfl rfl Try.underlying3 rfl (fun w hw => (Kn.hd0 hw).at rfl) ?_
  simp only [qz]
  refine rg_move ?_
  simp only [qz]
  refine rf_field (n := 3) (j := 0) rfl rfl rfl Try.underlying45 rfl Kx rfl ?_
  simp only [qz]
  refine rf_indexA (n := 3) (sz := 1) (j := 3) rfl rfl rfl rfl Try.underlying43 Kx (by decide) rfl ?_
  simp only [qz]
  refine rf_load rfl rfl rfl Try.underlying3 rfl (fun w hw => (Kn.hd0 (Kn.tl (Kn.tl (Kn.tl hw)))).at rfl) ?_
  simp only [qz]
  refine rf_add rfl rfl rfl rfl (wrap_ok Ox Ox) ?_
  simp only [qz]
  refine rf_indexA (n := 3) (sz := 1) (j := 3) rfl rfl rfl rfl Try.underlying43 Kx (by decide) rfl ?_
  simp only [qz]
  refine rf_storeM rfl rfl Kx rfl rfl (UpdR.here _ _ _ Nl) (sk _ (sc _ (sc _ (sc _ sn)))) ?_
  simp only [qz]
  refine rg_nil (ek_block (ek_next ?_))
  refine wk_region [0, 0] rfl Kx ?_
  simp only [qy]
  refine rf_add (r := 4) rfl rfl rfl rfl (by decide) ?_
  simp only [qz]
  refine rg_move ?_
  simp only [qz]
  refine rg_nil (ek_again (wk_seq ?_))
  refine wk_region [0] rfl Kx ?_
  simp only [qy]
  refine rf_lss (b := false) rfl rfl rfl rfl (by decide) ?_
  simp only [qz]
  refine rg_nil (ek_next (wk_seq (wk_cond_f rfl (wk_exit (ek_then_exit (ek_then_exit (ek_block_exit (ek_next (wk_seq ?_)))))))))
  refine wk_region [0, 0, 0, 0, 1] rfl Kx ?_
  simp only [qy]
  refine rf_loadR (n := 4) rfl rfl rfl Try.underlying43 rfl Kx (fun w hw => Kn.hd0 hw) rfl rfl ?_
  simp only [qz]
  refine rf_field (n := 0) (j := 4) rfl rfl rfl Try.underlying45 rfl Kx rfl ?_
  simp only [qz]
  refine rf_load rfl rfl rfl Try.underlying3 rfl (fun w hw => (Kn.hd0 (Kn.tl (Kn.tl (Kn.tl hw)))).at rfl) ?_
  simp only [qz]
  refine rf_build (cs := fun a => #[cellAt (a.eval (.tmp 35)) 0, cellAt (a.eval (.tmp 35)) 1, cellAt (a.eval (.tmp 35)) 2, cellAt (a.eval (.tmp 35)) 3, a.eval (.tmp 37)]) rfl rfl Kx ?_
  simp only [qz]
  refine rf_storeR (n := 5) rfl rfl Kx rfl rfl (UpdR.there _ (UpdR.here _ _ _ Nl)) Nz ?_
  simp only [qz, Nat.reduceAdd]
  refine rg_nil (ek_next (wk_ret ?_))
  refine ek_ret (fun w hw => ⟨rfl, _, run_results1 rfl rfl (Kn.hd0 (Kn.tl hw)) Try.underlying139 rfl Kx, ?_⟩)
  (try simp only [qz])
  exact ⟨by rw [addR_lt Ox]; rfl, hw.below⟩

set_option maxRecDepth 100000 in
set_option maxHeartbeats 1000000 in
theorem ammul_any (x y : Nm) (hx : x.Ok) (hy : y.Ok) (w : World) : Calls Try.prog 119 #[nmV x, nmV y] w fun e w' => e = .returned (nmV (x.mulR y)) ∧ Below w.heap.size w w' := by
  have hx' := hx
  have hy' := hy
  obtain ⟨⟨xa0, xa1, xb0, xb1, xc0, xc1, xd0, xd1⟩, xk0, xk1, xf⟩ := hx'
  obtain ⟨⟨ya0, ya1, yb0, yb1, yc0, yc1, yd0, yd1⟩, yk0, yk1, yf⟩ := hy'
  obtain ⟨⟨p0, r0⟩, ⟨p1, r1⟩, ⟨p2, r2⟩, ⟨p3, r3⟩, ⟨p4, r4⟩, ⟨p5, r5⟩, ⟨p6, r6⟩, ⟨p7, r7⟩, ⟨p8, r8⟩, ⟨p9, r9⟩, ⟨p10, r10⟩, ⟨p11, r11⟩, ⟨p12, r12⟩, ⟨p13, r13⟩, ⟨p14, r14⟩, ⟨p15, r15⟩⟩ := prods hx.fit hy.fit
  go_enter Try.func119, Try.ntmps119
  refine wk_start ?_
  refine wk_seq ?_
  refine wk_region [1, 1, 1] rfl Kx ?_
  simp only [qy]
  refine Rgn fun g1 => ?_
  simp only [qz]
  refine Rgn fun g2 => ?_
  simp only [qz]
  refine Rgn fun g3 => ?_
  simp only [qz]
  refine rg_nil (ek_next (wk_seq ?_))
  refine wk_region [0, 0, 0, 0, 0, 0, 1, 1] rfl Kx ?_
  simp only [qy]
  refine rf_field (n := 0) (j := 4) rfl rfl rfl Try.underlying45 rfl Kx rfl ?_
  simp only [qz]
  refine rf_load rfl rfl rfl Try.underlying3 rfl (fun w hw => (Kn.hd0 (Kn.tl (Kn.tl hw))).at rfl) ?_
  simp only [qz]
  refine rf_field (n := 0) (j := 4) rfl rfl rfl Try.underlying45 rfl Kx rfl ?_
  simp only [qz]
  refine rf_load rfl rfl rfl Try.underlying3 rfl (fun w hw => (Kn.hd0 (Kn.tl hw)).at rfl) ?_
  simp only [qz]
  refine rf_add rfl rfl rfl rfl (wrap_ok Ox Ox) ?_
  simp only [qz]
  refine rf_build (cs := fun a => #[.int .i64 0, .int .i64 0, .int .i64 0, .int .i64 0, a.eval (.tmp 14)]) rfl rfl Kx ?_
  simp only [qz]
  refine Rgn fun g4 => ?_
  simp only [qz]
  refine rf_storeR (n := 5) rfl rfl Kx rfl rfl (UpdR.here _ _ _ Nl) Nz ?_
  simp only [qz, Nat.reduceAdd]
  refine rg_nil (ek_next (wk_seq (wk_seq ?_)))
  refine wk_region [0, 0, 0] rfl Kx ?_
  simp only [qy]
  refine rf_field (n := 3) (j := 0) rfl rfl rfl Try.underlying45 rfl Kx rfl ?_
  simp only [qz]
  refine rf_loadR (n := 4) rfl rfl rfl Try.underlying43 rfl Kx (fun w hw => Kn.hd0 (Kn.tl (Kn.tl (Kn.tl hw)))) rfl rfl ?_
  simp only [qz]
  refine rg_move ?_
  simp only [qz]
  refine rg_nil (ek_next (wk_block ?_))
  refine wk_unroll 4 ?_
  refine wk_seq ?_
  refine wk_region [0] rfl Kx ?_
  simp only [qy]
  refine rf_lss (b := true) rfl rfl rfl rfl (by decide) ?_
  simp only [qz]
  refine rg_nil (ek_next (wk_seq (wk_cond_t rfl (wk_skip (ek_next (wk_seq (wk_block (wk_seq ?_))))))))
  refine wk_region [0, 0, 0, 0] rfl Kx ?_
  simp only [qy]
  refine rg_move ?_
  simp only [qz]
  apply rg_soft
  case hy => (intro w hw; go_simp; (try go_bits); exact Yld.mk _ _)
  simp only [qz]
  refine rg_assign ?_
  simp only [qz]
  refine rg_assign ?_
  simp only [qz]
  refine rg_nil (ek_next (wk_seq ?_))
  refine wk_region [0, 0, 0] rfl Kx ?_
  simp only [qy]
  refine rf_field (n := 3) (j := 0) rfl rfl rfl Try.underlying45 rfl Kx rfl ?_
  simp only [qz]
  refine rf_loadR (n := 4) rfl rfl rfl Try.underlying43 rfl Kx (fun w hw => Kn.hd0 (Kn.tl (Kn.tl hw))) rfl rfl ?_
  simp only [qz]
  refine rg_move ?_
  simp only [qz]
  refine rg_nil (ek_next (wk_block ?_))
  refine wk_unroll 4 ?_
  refine wk_seq ?_
  refine wk_region [0] rfl Kx ?_
  simp only [qy]
  refine rf_lss (b := true) rfl rfl rfl rfl (by decide) ?_
  simp only [qz]
  refine rg_nil (ek_next (wk_seq (wk_cond_t rfl (wk_skip (ek_next (wk_seq (wk_block (wk_seq ?_))))))))
  refine wk_region [0, 0, 0, 0] rfl Kx ?_
  simp only [qy]
  refine rg_move ?_
  simp only [qz]
  apply rg_soft
  case hy => (intro w hw; go_simp; (try go_bits); exact Yld.mk _ _)
  simp only [qz]
  refine rg_assign ?_
  simp only [qz]
  refine rg_assign ?_
  simp only [qz]
  refine rg_nil (ek_next (wk_seq ?_))
  refine wk_region [0, 0, 0, 0] rfl Kx ?_
  simp only [qy]
  refine rg_move ?_
  simp only [qz]
  refine rg_move ?_
  simp only [qz]
  refine rf_add (r := 0) rfl rfl rfl rfl (by decide) ?_
  simp only [qz]
  refine rf_lss (b := true) rfl rfl rfl rfl (by decide) ?_
  simp only [qz]
  refine rg_nil (ek_next (wk_cond_t rfl ?_))
  refine wk_region [0, 0, 0, 0, 0, 0, 0, 0, 0, 0, 0, 0, 1] rfl Kx ?_
  simp only [qy]
  refine rg_move ?_
  simp only [qz]
  refine rg_move ?_
  simp only [qz]
  refine rf_add (r := 0) rfl rfl rfl rfl (by decide) ?_
  simp only [qz]
  refine rf_field (n := 3) (j := 0) rfl rfl rfl Try.underlying139 rfl Kx rfl ?_
  simp only [qz]
  refine rf_indexA (n := 0) (sz := 1) (j := 0) rfl rfl rfl rfl Try.underlying43 Kx (by decide) rfl ?_
  simp only [qz]
  refine rf_load rfl rfl rfl Try.underlying3 rfl (fun w hw => (Kn.hd0 hw).at rfl) ?_
  simp only [qz]
  refine rg_move ?_
  simp only [qz]
  refine rg_move ?_
  simp only [qz]
  refine rf_mul rfl rfl rfl rfl (wrap_ok Ox Ox) ?_
  simp only [qz]
  refine rf_add rfl rfl rfl rfl (wrap_ok Ox Ox) ?_
  simp only [qz]
  refine rf_field (n := 3) (j := 0) rfl rfl rfl Try.underlying139 rfl Kx rfl ?_
  simp only [qz]
  refine rf_indexA (n := 0) (sz := 1) (j := 0) rfl rfl rfl rfl Try.underlying43 Kx (by decide) rfl ?_
  simp only [qz]
  refine rf_store rfl rfl Kx rfl rfl (UpdR.here _ _ _ Nl) Nz ?_
  simp only [qz]
  refine rg_nil (ek_block (ek_next ?_))
  refine wk_region [0, 0] rfl Kx ?_
  simp only [qy]
  refine rf_add (r := 1) rfl rfl rfl rfl (by decide) ?_
  simp only [qz]
  refine rg_move ?_
  simp only [qz]
  refine rg_nil (ek_again (wk_seq ?_))
  refine wk_region [0] rfl Kx ?_
  simp only [qy]
  refine rf_lss (b := true) rfl rfl rfl rfl (by decide) ?_
  simp only [qz]
  refine rg_nil (ek_next (wk_seq (wk_cond_t rfl (wk_skip (ek_next (wk_seq (wk_block (wk_seq ?_))))))))
  refine wk_region [0, 0, 0, 0] rfl Kx ?_
  simp only [qy]
  refine rg_move ?_
  simp only [qz]
  apply rg_soft
  case hy => (intro w hw; go_simp; (try go_bits); exact Yld.mk _ _)
  simp only [qz]
  refine rg_assign ?_
  simp only [qz]
  refine rg_assign ?_
  simp only [qz]
  refine rg_nil (ek_next (wk_seq ?_))
  refine wk_region [0, 0, 0, 0] rfl Kx ?_
  simp only [qy]
  refine rg_move ?_
  simp only [qz]
  refine rg_move ?_
  simp only [qz]
  refine rf_add (r := 1) rfl rfl rfl rfl (by decide) ?_
  simp only [qz]
  refine rf_lss (b := true) rfl rfl rfl rfl (by decide) ?_
  simp only [qz]
  refine rg_nil (ek_next (wk_cond_t rfl ?_))
  refine wk_region [0, 0, 0, 0, 0, 0, 0, 0, 0, 0, 0, 0, 1] rfl Kx ?_
  simp only [qy]
  refine rg_move ?_
  simp only [qz]
  refine rg_move ?_
  simp only [qz]
  refine rf_add (r := 1) rfl rfl rfl rfl (by decide) ?_
  simp only [qz]
  refine rf_field (n := 3) (j := 0) rfl rfl rfl Try.underlying139 rfl Kx rfl ?_
  simp only [qz]
  refine rf_indexA (n := 1) (sz := 1) (j := 1) rfl rfl rfl rfl Try.underlying43 Kx (by decide) rfl ?_
  simp only [qz]
  refine rf_load rfl rfl rfl Try.underlying3 rfl (fun w hw => (Kn.hd0 hw).at rfl) ?_
  simp only [qz]
  refine rg_move ?_
  simp only [qz]
  refine rg_move ?_
  simp only [qz]
  refine rf_mul rfl rfl rfl rfl (wrap_ok Ox Ox) ?_
  simp only [qz]
  refine rf_add rfl rfl rfl rfl (wrap_ok Ox Ox) ?_
  simp only [qz]
  refine rf_field (n := 3) (j := 0) rfl rfl rfl Try.underlying139 rfl Kx rfl ?_
  simp only [qz]
  refine rf_indexA (n := 1) (sz := 1) (j := 1) rfl rfl rfl rfl Try.underlying43 Kx (by decide) rfl ?_
  simp only [qz]
  refine rf_store rfl rfl Kx rfl rfl (UpdR.here _ _ _ Nl) Nz ?_
  simp only [qz]
  refine rg_nil (ek_block (ek_next ?_))
  refine wk_region [0, 0] rfl Kx ?_
  simp only [qy]
  refine rf_add (r := 2) rfl rfl rfl rfl (by decide) ?_
  simp only [qz]
  refine rg_move ?_
  simp only [qz]
  refine rg_nil (ek_again (wk_seq ?_))
  refine wk_region [0] rfl Kx ?_
  simp only [qy]
  refine rf_lss (b := true) rfl rfl rfl rfl (by decide) ?_
  simp only [qz]
  refine rg_nil (ek_next (wk_seq (wk_cond_t rfl (wk_skip (ek_next (wk_seq (wk_block (wk_seq ?_))))))))
  refine wk_region [0, 0, 0, 0] rfl Kx ?_
  simp only [qy]
  refine rg_move ?_
  simp only [qz]
  apply rg_soft
  case hy => (intro w hw; go_simp; (try go_bits); exact Yld.mk _ _)
  simp only [qz]
  refine rg_assign ?_
  simp only [qz]
  refine rg_assign ?_
  simp only [qz]
  refine rg_nil (ek_next (wk_seq ?_))
  refine wk_region [0, 0, 0, 0] rfl Kx ?_
  simp only [qy]
  refine rg_move ?_
  simp only [qz]
  refine rg_move ?_
  simp only [qz]
  refine rf_add (r := 2) rfl rfl rfl rfl (by decide) ?_
  simp only [qz]
  refine rf_lss (b := true) rfl rfl rfl rfl (by decide) ?_
  simp only [qz]
  refine rg_nil (ek_next (wk_cond_t rfl ?_))
  refine wk_region [0, 0, 0, 0, 0, 0, 0, 0, 0, 0, 0, 0, 1] rfl Kx ?_
  simp only [qy]
  refine rg_move ?_
  simp only [qz]
  refine rg_move ?_
  simp only [qz]
  refine rf_add (r := 2) rfl rfl rfl rfl (by decide) ?_
  simp only [qz]
  refine rf_field (n := 3) (j := 0) rfl rfl rfl Try.underlying139 rfl Kx rfl ?_
  simp only [qz]
  refine rf_indexA (n := 2) (sz := 1) (j := 2) rfl rfl rfl rfl Try.underlying43 Kx (by decide) rfl ?_
  simp only [qz]
  refine rf_load rfl rfl rfl Try.underlying3 rfl (fun w hw => (Kn.hd0 hw).at rfl) ?_
  simp only [qz]
  refine rg_move ?_
  simp only [qz]
  refine rg_move ?_
  simp only [qz]
  refine rf_mul rfl rfl rfl rfl (wrap_ok Ox Ox) ?_
  simp only [qz]
  refine rf_add rfl rfl rfl rfl (wrap_ok Ox Ox) ?_
  simp only [qz]
  refine rf_field (n := 3) (j := 0) rfl rfl rfl Try.underlying139 rfl Kx rfl ?_
  simp only [qz]
  refine rf_indexA (n := 2) (sz := 1) (j := 2) rfl rfl rfl rfl Try.underlying43 Kx (by decide) rfl ?_
  simp only [qz]
  refine rf_store rfl rfl Kx rfl rfl (UpdR.here _ _ _ Nl) Nz ?_
  simp only [qz]
  refine rg_nil (ek_block (ek_next ?_))
  refine wk_region [0, 0] rfl Kx ?_
  simp only [qy]
  refine rf_add (r := 3) rfl rfl rfl rfl (by decide) ?_
  simp only [qz]
  refine rg_move ?_
  simp only [qz]
  refine rg_nil (ek_again (wk_seq ?_))
  refine wk_region [0] rfl Kx ?_
  simp only [qy]
  refine rf_lss (b := true) rfl rfl rfl rfl (by decide) ?_
  simp only [qz]
  refine rg_nil (ek_next (wk_seq (wk_cond_t rfl (wk_skip (ek_next (wk_seq (wk_block (wk_seq ?_))))))))
  refine wk_region [0, 0, 0, 0] rfl Kx ?_
  simp only [qy]
  refine rg_move ?_
  simp only [qz]
  apply rg_soft
  case hy => (intro w hw; go_simp; (try go_bits); exact Yld.mk _ _)
  simp only [qz]
  refine rg_assign ?_
  simp only [qz]
  refine rg_assign ?_
  simp only [qz]
  refine rg_nil (ek_next (wk_seq ?_))
  refine wk_region [0, 0, 0, 0] rfl Kx ?_
  simp only [qy]
  refine rg_move ?_
  simp only [qz]
  refine rg_move ?_
  simp only [qz]
  refine rf_add (r := 3) rfl rfl rfl rfl (by decide) ?_
  simp only [qz]
  refine rf_lss (b := true) rfl rfl rfl rfl (by decide) ?_
  simp only [qz]
  refine rg_nil (ek_next (wk_cond_t rfl ?_))
  refine wk_region [0, 0, 0, 0, 0, 0, 0, 0, 0, 0, 0, 0, 1] rfl Kx ?_
  simp only [qy]
  refine rg_move ?_
  simp only [qz]
  refine rg_move ?_
  simp only [qz]
  refine rf_add (r := 3) rfl rfl rfl rfl (by decide) ?_
  simp only [qz]
  refine rf_field (n := 3) (j := 0) rfl rfl rfl Try.underlying139 rfl Kx rfl ?_
  simp only [qz]
  refine rf_indexA (n := 3) (sz := 1) (j := 3) rfl rfl rfl rfl Try.underlying43 Kx (by decide) rfl ?_
  simp only [qz]
  refine rf_load rfl rfl rfl Try.underlying3 rfl (fun w hw => (Kn.hd0 hw).at rfl) ?_
  simp only [qz]
  refine rg_move ?_
  simp only [qz]
  refine rg_move ?_
  simp only [qz]
  refine rf_mul rfl rfl rfl rfl (wrap_ok Ox Ox) ?_
  simp only [qz]
  refine rf_add rfl rfl rfl rfl (wrap_ok Ox Ox) ?_
  simp only [qz]
  refine rf_field (n := 3) (j := 0) rfl rfl rfl Try.underlying139 rfl Kx rfl ?_
  simp only [qz]
  refine rf_indexA (n := 3) (sz := 1) (j := 3) rfl rfl rfl rfl Try.underlying43 Kx (by decide) rfl ?_
  simp only [qz]
  refine rf_store rfl rfl Kx rfl rfl (UpdR.here _ _ _ Nl) Nz ?_
  simp only [qz]
  refine rg_nil (ek_block (ek_next ?_))
  refine wk_region [0, 0] rfl Kx ?_
  simp only [qy]
  refine rf_add (r := 4) rfl rfl rfl rfl (by decide) ?_
  simp only [qz]
  refine rg_move ?_
  simp only [qz]
  refine rg_nil (ek_again (wk_seq ?_))
  refine wk_region [0] rfl Kx ?_
  simp only [qy]
  refine rf_lss (b := false) rfl rfl rfl rfl (by decide) ?_
  simp only [qz]
  refine rg_nil (ek_next (wk_seq (wk_cond_f rfl (wk_exit (ek_then_exit (ek_then_exit (ek_block_exit (ek_block (ek_next ?_)))))))))
  refine wk_region [0, 0] rfl Kx ?_
  simp only [qy]
  refine rf_add (r := 1) rfl rfl rfl rfl (by decide) ?_
  simp only [qz]
  refine rg_move ?_
  simp only [qz]
  refine rg_nil (ek_again (wk_seq ?_))
  refine wk_region [0] rfl Kx ?_
  simp only [qy]
  refine rf_lss (b := true) rfl rfl rfl rfl (by decide) ?_
  simp only [qz]
  refine rg_nil (ek_next (wk_seq (wk_cond_t rfl (wk_skip (ek_next (wk_seq (wk_block (wk_seq ?_))))))))
  refine wk_region [0, 0, 0, 0] rfl Kx ?_
  simp only [qy]
  refine rg_move ?_
  simp only [qz]
  apply rg_soft
  case hy => (intro w hw; go_simp; (try go_bits); exact Yld.mk _ _)
  simp only [qz]
  refine rg_assign ?_
  simp only [qz]
  refine rg_assign ?_
  simp only [qz]
  refine rg_nil (ek_next (wk_seq ?_))
  refine wk_region [0, 0, 0] rfl Kx ?_
  simp only [qy]
  refine rf_field (n := 3) (j := 0) rfl rfl rfl Try.underlying45 rfl Kx rfl ?_
  simp only [qz]
  refine rf_loadR (n := 4) rfl rfl rfl Try.underlying43 rfl Kx (fun w hw => Kn.hd0 (Kn.tl (Kn.tl hw))) rfl rfl ?_
  simp only [qz]
  refine rg_move ?_
  simp only [qz]
  refine rg_nil (ek_next (wk_block ?_))
  refine wk_unroll 4 ?_
  refine wk_seq ?_
  refine wk_region [0] rfl Kx ?_
  simp only [qy]
  refine rf_lss (b := true) rfl rfl rfl rfl (by decide) ?_
  simp only [qz]
  refine rg_nil (ek_next (wk_seq (wk_cond_t rfl (wk_skip (ek_next (wk_seq (wk_block (wk_seq ?_))))))))
  refine wk_region [0, 0, 0, 0] rfl Kx ?_
  simp only [qy]
  refine rg_move ?_
  simp only [qz]
  apply rg_soft
  case hy => (intro w hw; go_simp; (try go_bits); exact Yld.mk _ _)
  simp only [qz]
  refine rg_assign ?_
  simp only [qz]
  refine rg_assign ?_
  simp only [qz]
  refine rg_nil (ek_next (wk_seq ?_))
  refine wk_region [0, 0, 0, 0] rfl Kx ?_
  simp only [qy]
  refine rg_move ?_
  simp only [qz]
  refine rg_move ?_
  simp only [qz]
  refine rf_add (r := 1) rfl rfl rfl rfl (by decide) ?_
  simp only [qz]
  refine rf_lss (b := true) rfl rfl rfl rfl (by decide) ?_
  simp only [qz]
  refine rg_nil (ek_next (wk_cond_t rfl ?_))
  refine wk_region [0, 0, 0, 0, 0, 0, 0, 0, 0, 0, 0, 0, 1] rfl Kx ?_
  simp only [qy]
  refine rg_move ?_
  simp only [qz]
  refine rg_move ?_
  simp only [qz]
  refine rf_add (r := 1) rfl rfl rfl rfl (by decide) ?_
  simp only [qz]
  refine rf_field (n := 3) (j := 0) rfl rfl rfl Try.underlying139 rfl Kx rfl ?_
  simp only [qz]
  refine rf_indexA (n := 1) (sz := 1) (j := 1) rfl rfl rfl rfl Try.underlying43 Kx (by decide) rfl ?_
  simp only [qz]
  refine rf_load rfl rfl rfl Try.underlying3 rfl (fun w hw => (Kn.hd0 hw).at rfl) ?_
  simp only [qz]
  refine rg_move ?_
  simp only [qz]
  refine rg_move ?_
  simp only [qz]
  refine rf_mul rfl rfl rfl rfl (wrap_ok Ox Ox) ?_
  simp only [qz]
  refine rf_add rfl rfl rfl rfl (wrap_ok Ox Ox) ?_
  simp only [qz]
  refine rf_field (n := 3) (j := 0) rfl rfl rfl Try.underlying139 rfl Kx rfl ?_
  simp only [qz]
  refine rf_indexA (n := 1) (sz := 1) (j := 1) rfl rfl rfl rfl Try.underlying43 Kx (by decide) rfl ?_
  simp only [qz]
  refine rf_store rfl rfl Kx rfl rfl (UpdR.here _ _ _ Nl) Nz ?_
  simp only [qz]
  refine rg_nil (ek_block (ek_next ?_))
  refine wk_region [0, 0] rfl Kx ?_
  simp only [qy]
  refine rf_add (r := 1) rfl rfl rfl rfl (by decide) ?_
  simp only [qz]
  refine rg_move ?_
  simp only [qz]
  refine rg_nil (ek_again (wk_seq ?_))
  refine wk_region [0] rfl Kx ?_
  simp only [qy]
  refine rf_lss (b := true) rfl rfl rfl rfl (by decide) ?_
  simp only [qz]
  refine rg_nil (ek_next (wk_seq (wk_cond_t rfl (wk_skip (ek_next (wk_seq (wk_block (wk_seq ?_))))))))
  refine wk_region [0, 0, 0, 0] rfl Kx ?_
  simp only [qy]
  refine rg_move ?_
  simp only [qz]
  apply rg_soft
  case hy => (intro w hw; go_simp; (try go_bits); exact Yld.mk _ _)
  simp only [qz]
  refine rg_assign ?_
  simp only [qz]
  refine rg_assign ?_
  simp only [qz]
  refine rg_nil (ek_next (wk_seq ?_))
  refine wk_region [0, 0, 0, 0] rfl Kx ?_
  simp only [qy]
  refine rg_move ?_
  simp only [qz]
  refine rg_move ?_
  simp only [qz]
  refine rf_add (r := 2) rfl rfl rfl rfl (by decide) ?_
  simp only [qz]
  refine rf_lss (b := true) rfl rfl rfl rfl (by decide) ?_
  simp only [qz]
  refine rg_nil (ek_next (wk_cond_t rfl ?_))
  refine wk_region [0, 0, 0, 0, 0, 0, 0, 0, 0, 0, 0, 0, 1] rfl Kx ?_
  simp only [qy]
  refine rg_move ?_
  simp only [qz]
  refine rg_move ?_
  simp only [qz]
  refine rf_add (r := 2) rfl rfl rfl rfl (by decide) ?_
  simp only [qz]
  refine rf_field (n := 3) (j := 0) rfl rfl rfl Try.underlying139 rfl Kx rfl ?_
  simp only [qz]
  refine rf_indexA (n := 2) (sz := 1) (j := 2) rfl rfl rfl rfl Try.underlying43 Kx (by decide) rfl ?_
  simp only [qz]
  refine rf_load rfl rfl rfl Try.underlying3 rfl (fun w hw => (Kn.hd0 hw).at rfl) ?_
  simp only [qz]
  refine rg_move ?_
  simp only [qz]
  refine rg_move ?_
  simp only [qz]
  refine rf_mul rfl rfl rfl rfl (wrap_ok Ox Ox) ?_
  simp only [qz]
  refine rf_add rfl rfl rfl rfl (wrap_ok Ox Ox) ?_
  simp only [qz]
  refine rf_field (n := 3) (j := 0) rfl rfl rfl Try.underlying139 rfl Kx rfl ?_
  simp only [qz]
  refine rf_indexA (n := 2) (sz := 1) (j := 2) rfl rfl rfl rfl Try.underlying43 Kx (by decide) rfl ?_
  simp only [qz]
  refine rf_store rfl rfl Kx rfl rfl (UpdR.here _ _ _ Nl) Nz ?_
  simp only [qz]
  refine rg_nil (ek_block (ek_next ?_))
  refine wk_region [0, 0] rfl Kx ?_
  simp only [qy]
  refine rf_add (r := 2) rfl rfl rfl rfl (by decide) ?_
  simp only [qz]
  refine rg_move ?_
  simp only [qz]
  refine rg_nil (ek_again (wk_seq ?_))
  refine wk_region [0] rfl Kx ?_
  simp only [qy]
  refine rf_lss (b := true) rfl rfl rfl rfl (by decide) ?_
  simp only [qz]
  refine rg_nil (ek_next (wk_seq (wk_cond_t rfl (wk_skip (ek_next (wk_seq (wk_block (wk_seq ?_))))))))
  refine wk_region [0, 0, 0, 0] rfl Kx ?_
  simp only [qy]
  refine rg_move ?_
  simp only [qz]
  apply rg_soft
  case hy => (intro w hw; go_simp; (try go_bits); exact Yld.mk _ _)
  simp only [qz]
  refine rg_assign ?_
  simp only [qz]
  refine rg_assign ?_
  simp only [qz]
  refine rg_nil (ek_next (wk_seq ?_))
  refine wk_region [0, 0, 0, 0] rfl Kx ?_
  simp only [qy]
  refine rg_move ?_
  simp only [qz]
  refine rg_move ?_
  simp only [qz]
  refine rf_add (r := 3) rfl rfl rfl rfl (by decide) ?_
  simp only [qz]
  refine rf_lss (b := true) rfl rfl rfl rfl (by decide) ?_
  simp only [qz]
  refine rg_nil (ek_next (wk_cond_t rfl ?_))
  refine wk_region [0, 0, 0, 0, 0, 0, 0, 0, 0, 0, 0, 0, 1] rfl Kx ?_
  simp only [qy]
  refine rg_move ?_
  simp only [qz]
  refine rg_move ?_
  simp only [qz]
  refine rf_add (r := 3) rfl rfl rfl rfl (by decide) ?_
  simp only [qz]
  refine rf_field (n := 3) (j := 0) rfl rfl rfl Try.underlying139 rfl Kx rfl ?_
  simp only [qz]
  refine rf_indexA (n := 3) (sz := 1) (j := 3) rfl rfl rfl rfl Try.underlying43 Kx (by decide) rfl ?_
  simp only [qz]
  refine rf_load rfl rfl rfl Try.underlying3 rfl (fun w hw => (Kn.hd0 hw).at rfl) ?_
  simp only [qz]
  refine rg_move ?_
  simp only [qz]
  refine rg_move ?_
  simp only [qz]
  refine rf_mul rfl rfl rfl rfl (wrap_ok Ox Ox) ?_
  simp only [qz]
  refine rf_add rfl rfl rfl rfl (wrap_ok Ox Ox) ?_
  simp only [qz]
  refine rf_field (n := 3) (j := 0) rfl rfl rfl Try.underlying139 rfl Kx rfl ?_
  simp only [qz]
  refine rf_indexA (n := 3) (sz := 1) (j := 3) rfl rfl rfl rfl Try.underlying43 Kx (by decide) rfl ?_
  simp only [qz]
  refine rf_store rfl rfl Kx rfl rfl (UpdR.here _ _ _ Nl) Nz ?_
  simp only [qz]
  refine rg_nil (ek_block (ek_next ?_))
  refine wk_region [0, 0] rfl Kx ?_
  simp only [qy]
  refine rf_add (r := 3) rfl rfl rfl rfl (by decide) ?_
  simp only [qz]
  refine rg_move ?_
  simp only [qz]
  refine rg_nil (ek_again (wk_seq ?_))
  refine wk_region [0] rfl Kx ?_
  simp only [qy]
  refine rf_lss (b := true) rfl rfl rfl rfl (by decide) ?_
  simp only [qz]
  refine rg_nil (ek_next (wk_seq (wk_cond_t rfl (wk_skip (ek_next (wk_seq (wk_block (wk_seq ?_))))))))
  refine wk_region [0, 0, 0, 0] rfl Kx ?_
  simp only [qy]
  refine rg_move ?_
  simp only [qz]
  apply rg_soft
  case hy => (intro w hw; go_simp; (try go_bits); exact Yld.mk _ _)
  simp only [qz]
  refine rg_assign ?_
  simp only [qz]
  refine rg_assign ?_
  simp only [qz]
  refine rg_nil (ek_next (wk_seq ?_))
  refine wk_region [0, 0, 0, 0] rfl Kx ?_
  simp only [qy]
  refine rg_move ?_
  simp only [qz]
  refine rg_move ?_
  simp only [qz]
  refine rf_add (r := 4) rfl rfl rfl rfl (by decide) ?_
  simp only [qz]
  refine rf_lss (b := false) rfl rfl rfl rfl (by decide) ?_
  simp only [qz]
  refine rg_nil (ek_next (wk_cond_f rfl ?_))
  refine wk_region [0, 0, 0, 0, 0, 0, 0, 0, 0, 0, 0, 0, 0, 1] rfl Kx ?_
  simp only [qy]
  refine rg_move ?_
  simp only [qz]
  refine rg_move ?_
  simp only [qz]
  refine rf_add (r := 4) rfl rfl rfl rfl (by decide) ?_
  simp only [qz]
  refine rf_sub (r := 0) rfl rfl rfl rfl (by decide) ?_
  simp only [qz]
  refine rf_field (n := 3) (j := 0) rfl rfl rfl Try.underlying139 rfl Kx rfl ?_
  simp only [qz]
  refine rf_indexA (n := 0) (sz := 1) (j := 0) rfl rfl rfl rfl Try.underlying43 Kx (by decide) rfl ?_
  simp only [qz]
  refine rf_load rfl rfl rfl Try.underlying3 rfl (fun w hw => (Kn.hd0 hw).at rfl) ?_
  simp only [qz]
  refine rg_move ?_
  simp only [qz]
  refine rg_move ?_
  simp only [qz]
  refine rf_mul rfl rfl rfl rfl (wrap_ok Ox Ox) ?_
  simp only [qz]
  refine rf_sub rfl rfl rfl rfl (wrap_ok Ox Ox) ?_
  simp only [qz]
  refine rf_field (n := 3) (j := 0) rfl rfl rfl Try.underlying139 rfl Kx rfl ?_
  simp only [qz]
  refine rf_indexA (n := 0) (sz := 1) (j := 0) rfl rfl rfl rfl Try.underlying43 Kx (by decide) rfl ?_
  simp only [qz]
  refine rf_store rfl rfl Kx rfl rfl (UpdR.here _ _ _ Nl) Nz ?_
  simp only [qz]
  refine rg_nil (ek_block (ek_next ?_))
  refine wk_region [0, 0] rfl Kx ?_
  simp only [qy]
  refine rf_add (r := 4) rfl rfl rfl rfl (by decide) ?_
  simp only [qz]
  refine rg_move ?_
  simp only [qz]
  refine rg_nil (ek_again (wk_seq ?_))
  refine wk_region [0] rfl Kx ?_
  simp only [qy]
  refine rf_lss (b := false) rfl rfl rfl rfl (by decide) ?_
  simp only [qz]
  refine rg_nil (ek_next (wk_seq (wk_cond_f rfl (wk_exit (ek_then_exit (ek_then_exit (ek_block_exit (ek_block (ek_next ?_)))))))))
  refine wk_region [0, 0] rfl Kx ?_
  simp only [qy]
  refine rf_add (r := 2) rfl rfl rfl rfl (by decide) ?_
  simp only [qz]
  refine rg_move ?_
  simp only [qz]
  refine rg_nil (ek_again (wk_seq ?_))
  refine wk_region [0] rfl Kx ?_
  simp only [qy]
  refine rf_lss (b := true) rfl rfl rfl rfl (by decide) ?_
  simp only [qz]
  refine rg_nil (ek_next (wk_seq (wk_cond_t rfl (wk_skip (ek_next (wk_seq (wk_block (wk_seq ?_))))))))
  refine wk_region [0, 0, 0, 0] rfl Kx ?_
  simp only [qy]
  refine rg_move ?_
  simp only [qz]
  apply rg_soft
  case hy => (intro w hw; go_simp; (try go_bits); exact Yld.mk _ _)
  simp only [qz]
  refine rg_assign ?_
  simp only [qz]
  refine rg_assign ?_
  simp only [qz]
  refine rg_nil (ek_next (wk_seq ?_))
  refine wk_region [0, 0, 0] rfl Kx ?_
  simp only [qy]
  refine rf_field (n := 3) (j := 0) rfl rfl rfl Try.underlying45 rfl Kx rfl ?_
  simp only [qz]
  refine rf_loadR (n := 4) rfl rfl rfl Try.underlying43 rfl Kx (fun w hw => Kn.hd0 (Kn.tl (Kn.tl hw))) rfl rfl ?_
  simp only [qz]
  refine rg_move ?_
  simp only [qz]
  refine rg_nil (ek_next (wk_block ?_))
  refine wk_unroll 4 ?_
  refine wk_seq ?_
  refine wk_region [0] rfl Kx ?_
  simp only [qy]
  refine rf_lss (b := true) rfl rfl rfl rfl (by decide) ?_
  simp only [qz]
  refine rg_nil (ek_next (wk_seq (wk_cond_t rfl (wk_skip (ek_next (wk_seq (wk_block (wk_seq ?_))))))))
  refine wk_region [0, 0, 0, 0] rfl Kx ?_
  simp only [qy]
  refine rg_move ?_
  simp only [qz]
  apply rg_soft
  case hy => (intro w hw; go_simp; (try go_bits); exact Yld.mk _ _)
  simp only [qz]
  refine rg_assign ?_
  simp only [qz]
  refine rg_assign ?_
  simp only [qz]
  refine rg_nil (ek_next (wk_seq ?_))
  refine wk_region [0, 0, 0, 0] rfl Kx ?_
  simp only [qy]
  refine rg_move ?_
  simp only [qz]
  refine rg_move ?_
  simp only [qz]
  refine rf_add (r := 2) rfl rfl rfl rfl (by decide) ?_
  simp only [qz]
  refine rf_lss (b := true) rfl rfl rfl rfl (by decide) ?_
  simp only [qz]
  refine rg_nil (ek_next (wk_cond_t rfl ?_))
  refine wk_region [0, 0, 0, 0, 0, 0, 0, 0, 0, 0, 0, 0, 1] rfl Kx ?_
  simp only [qy]
  refine rg_move ?_
  simp only [qz]
  refine rg_move ?_
  simp only [qz]
  refine rf_add (r := 2) rfl rfl rfl rfl (by decide) ?_
  simp only [qz]
  refine rf_field (n := 3) (j := 0) rfl rfl rfl Try.underlying139 rfl Kx rfl ?_
  simp only [qz]
  refine rf_indexA (n := 2) (sz := 1) (j := 2) rfl rfl rfl rfl Try.underlying43 Kx (by decide) rfl ?_
  simp only [qz]
  refine rf_load rfl rfl rfl Try.underlying3 rfl (fun w hw => (Kn.hd0 hw).at rfl) ?_
  simp only [qz]
  refine rg_move ?_
  simp only [qz]
  refine rg_move ?_
  simp only [qz]
  refine rf_mul rfl rfl rfl rfl (wrap_ok Ox Ox) ?_
  simp only [qz]
  refine rf_add rfl rfl rfl rfl (wrap_ok Ox Ox) ?_
  simp only [qz]
  refine rf_field (n := 3) (j := 0) rfl rfl rfl Try.underlying139 rfl Kx rfl ?_
  simp only [qz]
  refine rf_indexA (n := 2) (sz := 1) (j := 2) rfl rfl rfl rfl Try.underlying43 Kx (by decide) rfl ?_
  simp only [qz]
  refine rf_store rfl rfl Kx rfl rfl (UpdR.here _ _ _ Nl) Nz ?_
  simp only [qz]
  refine rg_nil (ek_block (ek_next ?_))
  refine wk_region [0, 0] rfl Kx ?_
  simp only [qy]
  refine rf_add (r := 1) rfl rfl rfl rfl (by decide) ?_
  simp only [qz]
  refine rg_move ?_
  simp only [qz]
  refine rg_nil (ek_again (wk_seq ?_))
  refine wk_region [0] rfl Kx ?_
  simp only [qy]
  refine rf_lss (b := true) rfl rfl rfl rfl (by decide) ?_
  simp only [qz]
  refine rg_nil (ek_next (wk_seq (wk_cond_t rfl (wk_skip (ek_next (wk_seq (wk_block (wk_seq ?_))))))))
  refine wk_region [0, 0, 0, 0] rfl Kx ?_
  simp only [qy]
  refine rg_move ?_
  simp only [qz]
  apply rg_soft
  case hy => (intro w hw; go_simp; (try go_bits); exact Yld.mk _ _)
  simp only [qz]
  refine rg_assign ?_
  simp only [qz]
  refine rg_assign ?_
  simp only [qz]
  refine rg_nil (ek_next (wk_seq ?_))
  refine wk_region [0, 0, 0, 0] rfl Kx ?_
  simp only [qy]
  refine rg_move ?_
  simp only [qz]
  refine rg_move ?_
  simp only [qz]
  refine rf_add (r := 3) rfl rfl rfl rfl (by decide) ?_
  simp only [qz]
  refine rf_lss (b := true) rfl rfl rfl rfl (by decide) ?_
  simp only [qz]
  refine rg_nil (ek_next (wk_cond_t rfl ?_))
  refine wk_region [0, 0, 0, 0, 0, 0, 0, 0, 0, 0, 0, 0, 1] rfl Kx ?_
  simp only [qy]
  refine rg_move ?_
  simp only [qz]
  refine rg_move ?_
  simp only [qz]
  refine rf_add (r := 3) rfl rfl rfl rfl (by decide) ?_
  simp only [qz]
  refine rf_field (n := 3) (j := 0) rfl rfl rfl Try.underlying139 rfl Kx rfl ?_
  simp only [qz]
  refine rf_indexA (n := 3) (sz := 1) (j := 3) rfl rfl rfl rfl Try.underlying43 Kx (by decide) rfl ?_
  simp only [qz]
  refine rf_load rfl rfl rfl Try.underlying3 rfl (fun w hw => (Kn.hd0 hw).at rfl) ?_
  simp only [qz]
  refine rg_move ?_
  simp only [qz]
  refine rg_move ?_
  simp only [qz]
  refine rf_mul rfl rfl rfl rfl (wrap_ok Ox Ox) ?_
  simp only [qz]
  refine rf_add rfl rfl rfl rfl (wrap_ok Ox Ox) ?_
  simp only [qz]
  refine rf_field (n := 3) (j := 0) rfl rfl rfl Try.underlying139 rfl Kx rfl ?_
  simp only [qz]
  refine rf_indexA (n := 3) (sz := 1) (j := 3) rfl rfl rfl rfl Try.underlying43 Kx (by decide) rfl ?_
  simp only [qz]
  refine rf_store rfl rfl Kx rfl rfl (UpdR.here _ _ _ Nl) Nz ?_
  simp only [qz]
  refine rg_nil (ek_block (ek_next ?_))
  refine wk_region [0, 0] rfl Kx ?_
  simp only [qy]
  refine rf_add (r := 2) rfl rfl rfl rfl (by decide) ?_
  simp only [qz]
  refine rg_move ?_
  simp only [qz]
  refine rg_nil (ek_again (wk_seq ?_))
  refine wk_region [0] rfl Kx ?_
  simp only [qy]
  refine rf_lss (b := true) rfl rfl rfl rfl (by decide) ?_
  simp only [qz]
  refine rg_nil (ek_next (wk_seq (wk_cond_t rfl (wk_skip (ek_next (wk_seq (wk_block (wk_seq ?_))))))))
  refine wk_region [0, 0, 0, 0] rfl Kx ?_
  simp only [qy]
  refine rg_move ?_
  simp only [qz]
  apply rg_soft
  case hy => (intro w hw; go_simp; (try go_bits); exact Yld.mk _ _)
  simp only [qz]
  refine rg_assign ?_
  simp only [qz]
  refine rg_assign ?_
  simp only [qz]
  refine rg_nil (ek_next (wk_seq ?_))
  refine wk_region [0, 0, 0, 0] rfl Kx ?_
  simp only [qy]
  refine rg_move ?_
  simp only [qz]
  refine rg_move ?_
  simp only [qz]
  refine rf_add (r := 4) rfl rfl rfl rfl (by decide) ?_
  simp only [qz]
  refine rf_lss (b := false) rfl rfl rfl rfl (by decide) ?_
  simp only [qz]
  refine rg_nil (ek_next (wk_cond_f rfl ?_))
  refine wk_region [0, 0, 0, 0, 0, 0, 0, 0, 0, 0, 0, 0, 0, 1] rfl Kx ?_
  simp only [qy]
  refine rg_move ?_
  simp only [qz]
  refine rg_move ?_
  simp only [qz]
  refine rf_add (r := 4) rfl rfl rfl rfl (by decide) ?_
  simp only [qz]
  refine rf_sub (r := 0) rfl rfl rfl rfl (by decide) ?_
  simp only [qz]
  refine rf_field (n := 3) (j := 0) rfl rfl rfl Try.underlying139 rfl Kx rfl ?_
  simp only [qz]
  refine rf_indexA (n := 0) (sz := 1) (j := 0) rfl rfl rfl rfl Try.underlying43 Kx (by decide) rfl ?_
  simp only [qz]
  refine rf_load rfl rfl rfl Try.underlying3 rfl (fun w hw => (Kn.hd0 hw).at rfl) ?_
  simp only [qz]
  refine rg_move ?_
  simp only [qz]
  refine rg_move ?_
  simp only [qz]
  refine rf_mul rfl rfl rfl rfl (wrap_ok Ox Ox) ?_
  simp only [qz]
  refine rf_sub rfl rfl rfl rfl (wrap_ok Ox Ox) ?_
  simp only [qz]
  refine rf_field (n := 3) (j := 0) rfl rfl rfl Try.underlying139 rfl Kx rfl ?_
  simp only [qz]
  refine rf_indexA (n := 0) (sz := 1) (j := 0) rfl rfl rfl rfl Try.underlying43 Kx (by decide) rfl ?_
  simp only [qz]
  refine rf_store rfl rfl Kx rfl rfl (UpdR.here _ _ _ Nl) Nz ?_
  simp only [qz]
  refine rg_nil (ek_block (ek_next ?_))
  refine wk_region [0, 0] rfl Kx ?_
  simp only [qy]
  refine rf_add (r := 3) rfl rfl rfl rfl (by decide) ?_
  simp only [qz]
  refine rg_move ?_
  simp only [qz]
  refine rg_nil (ek_again (wk_seq ?_))
  refine wk_region [0] rfl Kx ?_
  simp only [qy]
  refine rf_lss (b := true) rfl rfl rfl rfl (by decide) ?_
  simp only [qz]
  refine rg_nil (ek_next (wk_seq (wk_cond_t rfl (wk_skip (ek_next (wk_seq (wk_block (wk_seq ?_))))))))
  refine wk_region [0, 0, 0, 0] rfl Kx ?_
  simp only [qy]
  refine rg_move ?_
  simp only [qz]
  apply rg_soft
  case hy => (intro w hw; go_simp; (try go_bits); exact Yld.mk _ _)
  simp only [qz]
  refine rg_assign ?_
  simp only [qz]
  refine rg_assign ?_
  simp only [qz]
  refine rg_nil (ek_next (wk_seq ?_))
  refine wk_region [0, 0, 0, 0] rfl Kx ?_
  simp only [qy]
  refine rg_move ?_
  simp only [qz]
  refine rg_move ?_
  simp only [qz]
  refine rf_add (r := 5) rfl rfl rfl rfl (by decide) ?_
  simp only [qz]
  refine rf_lss (b := false) rfl rfl rfl rfl (by decide) ?_
  simp only [qz]
  refine rg_nil (ek_next (wk_cond_f rfl ?_))
  refine wk_region [0, 0, 0, 0, 0, 0, 0, 0, 0, 0, 0, 0, 0, 1] rfl Kx ?_
  simp only [qy]
  refine rg_move ?_
  simp only [qz]
  refine rg_move ?_
  simp only [qz]
  refine rf_add (r := 5) rfl rfl rfl rfl (by decide) ?_
  simp only [qz]
  refine rf_sub (r := 1) rfl rfl rfl rfl (by decide) ?_
  simp only [qz]
  refine rf_field (n := 3) (j := 0) rfl rfl rfl Try.underlying139 rfl Kx rfl ?_
  simp only [qz]
  refine rf_indexA (n := 1) (sz := 1) (j := 1) rfl rfl rfl rfl Try.underlying43 Kx (by decide) rfl ?_
  simp only [qz]
  refine rf_load rfl rfl rfl Try.underlying3 rfl (fun w hw => (Kn.hd0 hw).at rfl) ?_
  simp only [qz]
  refine rg_move ?_
  simp only [qz]
  refine rg_move ?_
  simp only [qz]
  refine rf_mul rfl rfl rfl rfl (wrap_ok Ox Ox) ?_
  simp only [qz]
  refine rf_sub rfl rfl rfl rfl (wrap_ok Ox Ox) ?_
  simp only [qz]
  refine rf_field (n := 3) (j := 0) rfl rfl rfl Try.underlying139 rfl Kx rfl ?_
  simp only [qz]
  refine rf_indexA (n := 1) (sz := 1) (j := 1) rfl rfl rfl rfl Try.underlying43 Kx (by decide) rfl ?_
  simp only [qz]
  refine rf_store rfl rfl Kx rfl rfl (UpdR.here _ _ _ Nl) Nz ?_
  simp only [qz]
  refine rg_nil (ek_block (ek_next ?_))
  refine wk_region [0, 0] rfl Kx ?_
  simp only [qy]
  refine rf_add (r := 4) rfl rfl rfl rfl (by decide) ?_
  simp only [qz]
  refine rg_move ?_
  simp only [qz]
  refine rg_nil (ek_again (wk_seq ?_))
  refine wk_region [0] rfl Kx ?_
  simp only [qy]
  refine rf_lss (b := false) rfl rfl rfl rfl (by decide) ?_
  simp only [qz]
  refine rg_nil (ek_next (wk_seq (wk_cond_f rfl (wk_exit (ek_then_exit (ek_then_exit (ek_block_exit (ek_block (ek_next ?_)))))))))
  refine wk_region [0, 0] rfl Kx ?_
  simp only [qy]
  refine rf_add (r := 3) rfl rfl rfl rfl (by decide) ?_
  simp only [qz]
  refine rg_move ?_
  simp only [qz]
  refine rg_nil (ek_again (wk_seq ?_))
  refine wk_region [0] rfl Kx ?_
  simp only [qy]
  refine rf_lss (b := true) rfl rfl rfl rfl (by decide) ?_
  simp only [qz]
  refine rg_nil (ek_next (wk_seq (wk_cond_t rfl (wk_skip (ek_next (wk_seq (wk_block (wk_seq ?_))))))))
  refine wk_region [0, 0, 0, 0] rfl Kx ?_
  simp only [qy]
  refine rg_move ?_
  simp only [qz]
  apply rg_soft
  case hy => (intro w hw; go_simp; (try go_bits); exact Yld.mk _ _)
  simp only [qz]
  refine rg_assign ?_
  simp only [qz]
  refine rg_assign ?_
  simp only [qz]
  refine rg_nil (ek_next (wk_seq ?_))
  refine wk_region [0, 0, 0] rfl Kx ?_
  simp only [qy]
  refine rf_field (n := 3) (j := 0) rfl rfl rfl Try.underlying45 rfl Kx rfl ?_
  simp only [qz]
  refine rf_loadR (n := 4) rfl rfl rfl Try.underlying43 rfl Kx (fun w hw => Kn.hd0 (Kn.tl (Kn.tl hw))) rfl rfl ?_
  simp only [qz]
  refine rg_move ?_
  simp only [qz]
  refine rg_nil (ek_next (wk_block ?_))
  refine wk_unroll 4 ?_
  refine wk_seq ?_
  refine wk_region [0] rfl Kx ?_
  simp only [qy]
  refine rf_lss (b := true) rfl rfl rfl rfl (by decide) ?_
  simp only [qz]
  refine rg_nil (ek_next (wk_seq (wk_cond_t rfl (wk_skip (ek_next (wk_seq (wk_block (wk_seq ?_))))))))
  refine wk_region [0, 0, 0, 0] rfl Kx ?_
  simp only [qy]
  refine rg_move ?_
  simp only [qz]
  apply rg_soft
  case hy => (intro w hw; go_simp; (try go_bits); exact Yld.mk _ _)
  simp only [qz]
  refine rg_assign ?_
  simp only [qz]
  refine rg_assign ?_
  simp only [qz]
  refine rg_nil (ek_next (wk_seq ?_))
  refine wk_region [0, 0, 0, 0] rfl Kx ?_
  simp only [qy]
  refine rg_move ?_
  simp only [qz]
  refine rg_move ?_
  simp only [qz]
  refine rf_add (r := 3) rfl rfl rfl rfl (by decide) ?_
  simp only [qz]
  refine rf_lss (b := true) rfl rfl rfl rfl (by decide) ?_
  simp only [qz]
  refine rg_nil (ek_next (wk_cond_t rfl ?_))
  refine wk_region [0, 0, 0, 0, 0, 0, 0, 0, 0, 0, 0, 0, 1] rfl Kx ?_
  simp only [qy]
  refine rg_move ?_
  simp only [qz]
  refine rg_move ?_
  simp only [qz]
  refine rf_add (r := 3) rfl rfl rfl rfl (by decide) ?_
  simp only [qz]
  refine rf_field (n := 3) (j := 0) rfl rfl rfl Try.underlying139 rfl Kx rfl ?_
  simp only [qz]
  refine rf_indexA (n := 3) (sz := 1) (j := 3) rfl rfl rfl rfl Try.underlying43 Kx (by decide) rfl ?_
  simp only [qz]
  refine rf_load rfl rfl rfl Try.underlying3 rfl (fun w hw => (Kn.hd0 hw).at rfl) ?_
  simp only [qz]
  refine rg_move ?_
  simp only [qz]
  refine rg_move ?_
  simp only [qz]
  refine rf_mul rfl rfl rfl rfl (wrap_ok Ox Ox) ?_
  simp only [qz]
  refine rf_add rfl rfl rfl rfl (wrap_ok Ox Ox) ?_
  simp only [qz]
  refine rf_field (n := 3) (j := 0) rfl rfl rfl Try.underlying139 rfl Kx rfl ?_
  simp only [qz]
  refine rf_indexA (n := 3) (sz := 1) (j := 3) rfl rfl rfl rfl Try.underlying43 Kx (by decide) rfl ?_
  simp only [qz]
  refine rf_store rfl rfl Kx rfl rfl (UpdR.here _ _ _ Nl) Nz ?_
  simp only [qz]
  refine rg_nil (ek_block (ek_next ?_))
  refine wk_region [0, 0] rfl Kx ?_
  simp only [qy]
  refine rf_add (r := 1) rfl rfl rfl rfl (by decide) ?_
  simp only [qz]
  refine rg_move ?_
  simp only [qz]
  refine rg_nil (ek_again (wk_seq ?_))
  refine wk_region [0] rfl Kx ?_
  simp only [qy]
  refine rf_lss (b := true) rfl rfl rfl rfl (by decide) ?_
  simp only [qz]
  refine rg_nil (ek_next (wk_seq (wk_cond_t rfl (wk_skip (ek_next (wk_seq (wk_block (wk_seq ?_))))))))
  refine wk_region [0, 0, 0, 0] rfl Kx ?_
  simp only [qy]
  refine rg_move ?_
  simp only [qz]
  apply rg_soft
  case hy => (intro w hw; go_simp; (try go_bits); exact Yld.mk _ _)
  simp only [qz]
  refine rg_assign ?_
  simp only [qz]
  refine rg_assign ?_
  simp only [qz]
  refine rg_nil (ek_next (wk_seq ?_))
  refine wk_region [0, 0, 0, 0] rfl Kx ?_
  simp only [qy]
  refine rg_move ?_
  simp only [qz]
  refine rg_move ?_
  simp only [qz]
  refine rf_add (r := 4) rfl rfl rfl rfl (by decide) ?_
  simp only [qz]
  refine rf_lss (b := false) rfl rfl rfl rfl (by decide) ?_
  simp only [qz]
  refine rg_nil (ek_next (wk_cond_f rfl ?_))
  refine wk_region [0, 0, 0, 0, 0, 0, 0, 0, 0, 0, 0, 0, 0, 1] rfl Kx ?_
  simp only [qy]
  refine rg_move ?_
  simp only [qz]
  refine rg_move ?_
  simp only [qz]
  refine rf_add (r := 4) rfl rfl rfl rfl (by decide) ?_
  simp only [qz]
  refine rf_sub (r := 0) rfl rfl rfl rfl (by decide) ?_
  simp only [qz]
  refine rf_field (n := 3) (j := 0) rfl rfl rfl Try.underlying139 rfl Kx rfl ?_
  simp only [qz]
  refine rf_indexA (n := 0) (sz := 1) (j := 0) rfl rfl rfl rfl Try.underlying43 Kx (by decide) rfl ?_
  simp only [qz]
  refine rf_load rfl rfl rfl Try.underlying3 rfl (fun w hw => (Kn.hd0 hw).at rfl) ?_
  simp only [qz]
  refine rg_move ?_
  simp only [qz]
  refine rg_move ?_
  simp only [qz]
  refine rf_mul rfl rfl rfl rfl (wrap_ok Ox Ox) ?_
  simp only [qz]
  refine rf_sub rfl rfl rfl rfl (wrap_ok Ox Ox) ?_
  simp only [qz]
  refine rf_field (n := 3) (j := 0) rfl rfl rfl Try.underlying139 rfl Kx rfl ?_
  simp only [qz]
  refine rf_indexA (n := 0) (sz := 1) (j := 0) rfl rfl rfl rfl Try.underlying43 Kx (by decide) rfl ?_
  simp only [qz]
  refine rf_store rfl rfl Kx rfl rfl (UpdR.here _ _ _ Nl) Nz ?_
  simp only [qz]
  refine rg_nil (ek_block (ek_next ?_))
  refine wk_region [0, 0] rfl Kx ?_
  simp only [qy]
  refine rf_add (r := 2) rfl rfl rfl rfl (by decide) ?_
  simp only [qz]
  refine rg_move ?_
  simp only [qz]
  refine rg_nil (ek_again (wk_seq ?_))
  refine wk_region [0] rfl Kx ?_
  simp only [qy]
  refine rf_lss (b := true) rfl rfl rfl rfl (by decide) ?_
  simp only [qz]
  refine rg_nil (ek_next (wk_seq (wk_cond_t rfl (wk_skip (ek_next (wk_seq (wk_block (wk_seq ?_))))))))
  refine wk_region [0, 0, 0, 0] rfl Kx ?_
  simp only [qy]
  refine rg_move ?_
  simp only [qz]
  apply rg_soft
  case hy => (intro w hw; go_simp; (try go_bits); exact Yld.mk _ _)
  simp only [qz]
  refine rg_assign ?_
  simp only [qz]
  refine rg_assign ?_
  simp only [qz]
  refine rg_nil (ek_next (wk_seq ?_))
  refine wk_region [0, 0, 0, 0] rfl Kx ?_
  simp only [qy]
  refine rg_move ?_
  simp only [qz]
  refine rg_move ?_
  simp only [qz]
  refine rf_add (r := 5) rfl rfl rfl rfl (by decide) ?_
  simp only [qz]
  refine rf_lss (b := false) rfl rfl rfl rfl (by decide) ?_
  simp only [qz]
  refine rg_nil (ek_next (wk_cond_f rfl ?_))
  refine wk_region [0, 0, 0, 0, 0, 0, 0, 0, 0, 0, 0, 0, 0, 1] rfl Kx ?_
  simp only [qy]
  refine rg_move ?_
  simp only [qz]
  refine rg_move ?_
  simp only [qz]
  refine rf_add (r := 5) rfl rfl rfl rfl (by decide) ?_
  simp only [qz]
  refine rf_sub (r := 1) rfl rfl rfl rfl (by decide) ?_
  simp only [qz]
  refine rf_field (n := 3) (j := 0) rfl rfl rfl Try.underlying139 rfl Kx rfl ?_
  simp only [qz]
  refine rf_indexA (n := 1) (sz := 1) (j := 1) rfl rfl rfl rfl Try.underlying43 Kx (by decide) rfl ?_
  simp only [qz]
  refine rf_load rfl rfl rfl Try.underlying3 rfl (fun w hw => (Kn.hd0 hw).at rfl) ?_
  simp only [qz]
  refine rg_move ?_
  simp only [qz]
  refine rg_move ?_
  simp only [qz]
  refine rf_mul rfl rfl rfl rfl (wrap_ok Ox Ox) ?_
  simp only [qz]
  refine rf_sub rfl rfl rfl rfl (wrap_ok Ox Ox) ?_
  simp only [qz]
  refine rf_field (n := 3) (j := 0) rfl rfl rfl Try.underlying139 rfl Kx rfl ?_
  simp only [qz]
  refine rf_indexA (n := 1) (sz := 1) (j := 1) rfl rfl rfl rfl Try.underlying43 Kx (by decide) rfl ?_
  simp only [qz]
  refine rf_store rfl rfl Kx rfl rfl (UpdR.here _ _ _ Nl) Nz ?_
  simp only [qz]
  refine rg_nil (ek_block (ek_next ?_))
  refine wk_region [0, 0] rfl Kx ?_
  simp only [qy]
  refine rf_add (r := 3) rfl rfl rfl rfl (by decide) ?_
  simp only [qz]
  refine rg_move ?_
  simp only [qz]
  refine rg_nil (ek_again (wk_seq ?_))
  refine wk_region [0] rfl Kx ?_
  simp only [qy]
  refine rf_lss (b := true) rfl rfl rfl rfl (by decide) ?_
  simp only [qz]
  refine rg_nil (ek_next (wk_seq (wk_cond_t rfl (wk_skip (ek_next (wk_seq (wk_block (wk_seq ?_))))))))
  refine wk_region [0, 0, 0, 0] rfl Kx ?_
  simp only [qy]
  refine rg_move ?_
  simp only [qz]
  apply rg_soft
  case hy => (intro w hw; go_simp; (try go_bits); exact Yld.mk _ _)
  simp only [qz]
  refine rg_assign ?_
  simp only [qz]
  refine rg_assign ?_
  simp only [qz]
  refine rg_nil (ek_next (wk_seq ?_))
  refine wk_region [0, 0, 0, 0] rfl Kx ?_
  simp only [qy]
  refine rg_move ?_
  simp only [qz]
  refine rg_move ?_
  simp only [qz]
  refine rf_add (r := 6) rfl rfl rfl rfl (by decide) ?_
  simp only [qz]
  refine rf_lss (b := false) rfl rfl rfl rfl (by decide) ?_
  simp only [qz]
  refine rg_nil (ek_next (wk_cond_f rfl ?_))
  refine wk_region [0, 0, 0, 0, 0, 0, 0, 0, 0, 0, 0, 0, 0, 1] rfl Kx ?_
  simp only [qy]
  refine rg_move ?_
  simp only [qz]
  refine rg_move ?_
  simp only [qz]
  refine rf_add (r := 6) rfl rfl rfl rfl (by decide) ?_
  simp only [qz]
  refine rf_sub (r := 2) rfl rfl rfl rfl (by decide) ?_
  simp only [qz]
  refine rf_field (n := 3) (j := 0) rfl rfl rfl Try.underlying139 rfl Kx rfl ?_
  simp only [qz]
  refine rf_indexA (n := 2) (sz := 1) (j := 2) rfl rfl rfl rfl Try.underlying43 Kx (by decide) rfl ?_
  simp only [qz]
  refine rf_load rfl rfl rfl Try.underlying3 rfl (fun w hw => (Kn.hd0 hw).at rfl) ?_
  simp only [qz]
  refine rg_move ?_
  simp only [qz]
  refine rg_move ?_
  simp only [qz]
  refine rf_mul rfl rfl rfl rfl (wrap_ok Ox Ox) ?_
  simp only [qz]
  refine rf_sub rfl rfl rfl rfl (wrap_ok Ox Ox) ?_
  simp only [qz]
  refine rf_field (n := 3) (j := 0) rfl rfl rfl Try.underlying139 rfl Kx rfl ?_
  simp only [qz]
  refine rf_indexA (n := 2) (sz := 1) (j := 2) rfl rfl rfl rfl Try.underlying43 Kx (by decide) rfl ?_
  simp only [qz]
  refine rf_store rfl rfl Kx rfl rfl (UpdR.here _ _ _ Nl) Nz ?_
  simp only [qz]
  refine rg_nil (ek_block (ek_next ?_))
  refine wk_region [0, 0] rfl Kx ?_
  simp only [qy]
  refine rf_add (r := 4) rfl rfl rfl rfl (by decide) ?_
  simp only [qz]
  refine rg_move ?_
  simp only [qz]
  refine rg_nil (ek_again (wk_seq ?_))
  refine wk_region [0] rfl Kx ?_
  simp only [qy]
  refine rf_lss (b := false) rfl rfl rfl rfl (by decide) ?_
  simp only [qz]
  refine rg_nil (ek_next (wk_seq (wk_cond_f rfl (wk_exit (ek_then_exit (ek_then_exit (ek_block_exit (ek_block (ek_next ?_)))))))))
  refine wk_region [0, 0] rfl Kx ?_
  simp only [qy]
  refine rf_add (r := 4) rfl rfl rfl rfl (by decide) ?_
  simp only [qz]
  refine rg_move ?_
  simp only [qz]
  refine rg_nil (ek_again (wk_seq ?_))
  refine wk_region [0] rfl Kx ?_
  simp only [qy]
  refine rf_lss (b := false) rfl rfl rfl rfl (by decide) ?_
  simp only [qz]
  refine rg_nil (ek_next (wk_seq (wk_cond_f rfl (wk_exit (ek_then_exit (ek_then_exit (ek_block_exit (ek_next (wk_seq ?_)))))))))
  refine wk_region [0, 1] rfl Kx ?_
  simp only [qy]
  refine rf_loadR (n := 5) rfl rfl rfl Try.underlying139 rfl Kx (fun w hw => Kn.hd0 hw) rfl rfl ?_
  simp only [qz]
  refine rf_storeR (n := 5) rfl rfl Kx rfl rfl (UpdR.there _ (UpdR.here _ _ _ Nl)) Nz ?_
  simp only [qz, Nat.reduceAdd]
  refine rg_nil (ek_next (wk_ret ?_))
  refine ek_ret (fun w hw => ⟨rfl, _, run_results1 rfl rfl (Kn.hd0 (Kn.tl hw)) Try.underlying139 rfl Kx, ?_⟩)
  (try simp only [qz])
  refine ⟨?_, hw.below⟩
  simp only [Nm.mulR, Int.zero_add]

set_option maxRecDepth 100000 in
set_option maxHeartbeats 1000000 in
theorem amAdd_ok (x y : Nm) (hx : x.Ok) (hy : y.Ok) (w : World) : Calls Try.prog 82 #[nmV x, nmV y] w fun e w' => e = .returned (numV (x.add y)) ∧ Below w.heap.size w w' := by
  go_enter Try.func82, Try.ntmps82
  refine wk_start ?_
  refine wk_seq ?_
  refine wk_region [1, 1, 1, 0] rfl Kx ?_
  simp only [qy]
  refine Rgn fun g1 => ?_
  simp only [qz]
  refine Rgn fun g2 => ?_
  simp only [qz]
  refine Rgn fun g3 => ?_
  simp only [qz]
  refine rg_assign ?_
  simp only [qz]
  refine rg_nil (ek_next (wk_seq (wk_seq ?_)))
  refine wk_region [0, 0, 1, 1, 0] rfl Kx ?_
  simp only [qy]
  refine rf_loadR (n := 5) rfl rfl rfl Try.underlying45 rfl Kx (fun w hw => Kn.hd0 (Kn.tl (Kn.tl hw))) rfl rfl ?_
  simp only [qz]
  refine rf_loadR (n := 5) rfl rfl rfl Try.underlying45 rfl Kx (fun w hw => Kn.hd0 (Kn.tl hw)) rfl rfl ?_
  simp only [qz]
  refine rg_newS (cs := ?_) (ty := ?_) (n := 2) (c := 2) Rx (fun w => ?_) Nz (fun g4 => ?_); rotate_left 2
  focus (go_simp; rfl)
  simp only [qz]
  apply rg_pure Rx Kx
  case hargs => exact Ax
  case h => exact fun w hw => ampvalid_yes [x, y] _ 2 Nl Nl (by intro z hz; simp only [List.mem_cons, List.not_mem_nil, or_false] at hz; rcases hz with rfl | rfl <;> assumption) w (as_hd (Kn.hd0 hw) rfl)
  case hz => exact Nz
  simp only [qz]
  refine rf_not rfl rfl rfl ?_
  simp only [qz]
  refine rg_nil (ek_next (wk_cond_f rfl (wk_skip (ek_next (wk_seq ?_)))))
  refine wk_region [0, 0, 1, 1, 0, 0, 1, 0] rfl Kx ?_
  simp only [qy]
  refine rf_loadR (n := 5) rfl rfl rfl Try.underlying45 rfl Kx (fun w hw => Kn.hd0 (Kn.tl (Kn.tl (Kn.tl hw)))) rfl rfl ?_
  simp only [qz]
  refine rf_loadR (n := 5) rfl rfl rfl Try.underlying45 rfl Kx (fun w hw => Kn.hd0 (Kn.tl (Kn.tl hw))) rfl rfl ?_
  simp only [qz]
  apply rg_pure Rx Kx
  case hargs => exact Ax
  case h => exact fun w hw => amadd_any x y hx hy w
  case hz => exact Nz
  simp only [qz]
  apply rg_num Rx Kx
  case hargs => exact Ax
  case h => exact fun w hw => result_any (x.addR y) (addR_fit hx hy) (by have := hx.k1; have := hy.k1; simp only [Nm.addR]; omega) w
  case hz => exact Nz
  case hc => exact (fun c h => mk_err h)
  · intro hr1
    simp only [qz]
    refine rf_extract rfl rfl rfl rfl ?_
    simp only [qz]
    refine rf_extract rfl rfl rfl rfl ?_
    simp only [qz]
    refine rf_storeR (n := 5) rfl rfl Kx rfl rfl (UpdR.there _ (UpdR.here _ _ _ Nl)) Nz ?_
    simp only [qz, Nat.reduceAdd]
    refine rg_assign ?_
    simp only [qz]
    refine rg_nil (ek_next (wk_ret ?_))
    refine ek_ret (fun w hw => ⟨rfl, _, run_results2 rfl rfl (Kn.hd0 (Kn.tl hw)) Try.underlying45 rfl Kx, ?_⟩)
    (try simp only [qz])
    exact ⟨by rw [show x.add y = _ from hr1]; rfl, hw.below⟩
  intro z1 hr1
  simp only [qz]
  refine rf_extract rfl rfl rfl rfl ?_
  simp only [qz]
  refine rf_extract rfl rfl rfl rfl ?_
  simp only [qz]
  refine rf_storeR (n := 5) rfl rfl Kx rfl rfl (UpdR.there _ (UpdR.here _ _ _ Nl)) Nz ?_
  simp only [qz, Nat.reduceAdd]
  refine rg_assign ?_
  simp only [qz]
  refine rg_nil (ek_next (wk_ret ?_))
  refine ek_ret (fun w hw => ⟨rfl, _, run_results2 rfl rfl (Kn.hd0 (Kn.tl hw)) Try.underlying45 rfl Kx, ?_⟩)
  (try simp only [qz])
  exact ⟨by rw [show x.add y = _ from hr1]; rfl, hw.below⟩

set_option maxRecDepth 100000 in
set_option maxHeartbeats 1000000 in
theorem amMul_ok (x y : Nm) (hx : x.Ok) (hy : y.Ok) (w : World) : Calls Try.prog 201 #[nmV x, nmV y] w fun e w' => e = .returned (numV (x.mul y)) ∧ Below w.heap.size w w' := by
  go_enter Try.func201, Try.ntmps201
  refine wk_start ?_
  refine wk_seq ?_
  refine wk_region [1, 1, 1, 0] rfl Kx ?_
  simp only [qy]
  refine Rgn fun g1 => ?_
  simp only [qz]
  refine Rgn fun g2 => ?_
  simp only [qz]
  refine Rgn fun g3 => ?_
  simp only [qz]
  refine rg_assign ?_
  simp only [qz]
  refine rg_nil (ek_next (wk_seq (wk_seq ?_)))
  refine wk_region [0, 0, 1, 1, 0] rfl Kx ?_
  simp only [qy]
  refine rf_loadR (n := 5) rfl rfl rfl Try.underlying45 rfl Kx (fun w hw => Kn.hd0 (Kn.tl (Kn.tl hw))) rfl rfl ?_
  simp only [qz]
  refine rf_loadR (n := 5) rfl rfl rfl Try.underlying45 rfl Kx (fun w hw => Kn.hd0 (Kn.tl hw)) rfl rfl ?_
  simp only [qz]
  refine rg_newS (cs := ?_) (ty := ?_) (n := 2) (c := 2) Rx (fun w => ?_) Nz (fun g4 => ?_); rotate_left 2
  focus (go_simp; rfl)
  simp only [qz]
  apply rg_pure Rx Kx
  case hargs => exact Ax
  case h => exact fun w hw => ampvalid_yes [x, y] _ 2 Nl Nl (by intro z hz; simp only [List.mem_cons, List.not_mem_nil, or_false] at hz; rcases hz with rfl | rfl <;> assumption) w (as_hd (Kn.hd0 hw) rfl)
  case hz => exact Nz
  simp only [qz]
  refine rf_not rfl rfl rfl ?_
  simp only [qz]
  refine rg_nil (ek_next (wk_cond_f rfl (wk_skip (ek_next (wk_seq ?_)))))
  refine wk_region [0, 0, 1, 1, 0, 0, 1, 0] rfl Kx ?_
  simp only [qy]
  refine rf_loadR (n := 5) rfl rfl rfl Try.underlying45 rfl Kx (fun w hw => Kn.hd0 (Kn.tl (Kn.tl (Kn.tl hw)))) rfl rfl ?_
  simp only [qz]
  refine rf_loadR (n := 5) rfl rfl rfl Try.underlying45 rfl Kx (fun w hw => Kn.hd0 (Kn.tl (Kn.tl hw))) rfl rfl ?_
  simp only [qz]
  apply rg_pure Rx Kx
  case hargs => exact Ax
  case h => exact fun w hw => ammul_any x y hx hy w
  case hz => exact Nz
  simp only [qz]
  apply rg_num Rx Kx
  case hargs => exact Ax
  case h => exact fun w hw => result_any (x.mulR y) (mulR_fit hx.fit hy.fit) (by have := hx.k1; have := hy.k1; simp only [Nm.mulR]; omega) w
  case hz => exact Nz
  case hc => exact (fun c h => mk_err h)
  · intro hr1
    simp only [qz]
    refine rf_extract rfl rfl rfl rfl ?_
    simp only [qz]
    refine rf_extract rfl rfl rfl rfl ?_
    simp only [qz]
    refine rf_storeR (n := 5) rfl rfl Kx rfl rfl (UpdR.there _ (UpdR.here _ _ _ Nl)) Nz ?_
    simp only [qz, Nat.reduceAdd]
    refine rg_assign ?_
    simp only [qz]
    refine rg_nil (ek_next (wk_ret ?_))
    refine ek_ret (fun w hw => ⟨rfl, _, run_results2 rfl rfl (Kn.hd0 (Kn.tl hw)) Try.underlying45 rfl Kx, ?_⟩)
    (try simp only [qz])
    exact ⟨by rw [show x.mul y = _ from hr1]; rfl, hw.below⟩
  intro z1 hr1
  simp only [qz]
  refine rf_extract rfl rfl rfl rfl ?_
  simp only [qz]
  refine rf_extract rfl rfl rfl rfl ?_
  simp only [qz]
  refine rf_storeR (n := 5) rfl rfl Kx rfl rfl (UpdR.there _ (UpdR.here _ _ _ Nl)) Nz ?_
  simp only [qz, Nat.reduceAdd]
  refine rg_assign ?_
  simp only [qz]
  refine rg_nil (ek_next (wk_ret ?_))
  refine ek_ret (fun w hw => ⟨rfl, _, run_results2 rfl rfl (Kn.hd0 (Kn.tl hw)) Try.underlying45 rfl Kx, ?_⟩)
  (try simp only [qz])
  exact ⟨by rw [show x.mul y = _ from hr1]; rfl, hw.below⟩

end Go.Proofs.Ytccbinnlnkpplaa
namespace Go.Proofs.Ytccbinnlnkpplaa
set_option linter.all false
open Go.RowKit

set_option maxRecDepth 100000 in
set_option maxHeartbeats 1000000 in
theorem products_any (n : Nat) (hn6 : n ≤ 6) (x y : Nat → Nm) (fv : Value) (hx : ∀ k, k < n → (x k).Ok) (hy : ∀ k, k < n → (y k).Ok) (w : World) (hF : FnV w fv (D1 n fun k => .tuple #[nmV (x k), nmV (y k)])) : Calls Try.prog 169 #[.int .i64 n, fv] w fun e w' => e = .returned (numV (prodsR x y n)) ∧ Below w.heap.size w w' := by
  go_enter Try.func169, Try.ntmps169
  refine wk_start ?_
  refine wk_seq ?_
  refine wk_region [1, 0] rfl Kx ?_
  simp only [qy]
  refine Rgn fun g1 => ?_
  simp only [qz]
  refine rg_assign ?_
  simp only [qz]
  refine rg_nil (ek_next (wk_seq ?_))
  refine wk_region [1] rfl Kx ?_
  simp only [qy]
  refine Rgn fun g2 => ?_
  simp only [qz]
  refine rg_nil (ek_next (wk_seq (wk_seq ?_)))
  refine wk_region [0, 0] rfl Kx ?_
  simp only [qy]
  refine rg_move ?_
  simp only [qz]
  refine rg_move ?_
  simp only [qz]
  refine rg_nil (ek_next (wk_block ?_))
  refine wk_loopF [5, 7, 8, 9, 10, 11, 13, 14, 15, 16, 17, 18, 19, 20, 21, 22, 23, 24, 25, 26, 27, 28, 29, 30, 31, 32, 33, 34, 35, 36, 37, 38, 39, 40, 41, 42] (fun mz f s => ∃ (k : Nat) (ac : Nm), f 13 = .int .i64 k ∧ s = ((g2, .cells #[.int .i64 ac.a, .int .i64 ac.b, .int .i64 ac.c, .int .i64 ac.d, .int .i64 ac.k] 45) :: ((g1, .cells #[.int .i64 0, .int .i64 0, .int .i64 0, .int .i64 0, .int .i64 0] 45) :: [])) ∧ mz = n - k ∧ k ≤ n ∧ Hid (prodsR x y k = .ok ac) ∧ ac.Ok) ((fun (k : Nat) (ac : Nm) => n - k) (0) (Nm.zero)) ?_ Kx ?_
  · exact ⟨0, Nm.zero, rfl, rfl, rfl, by omega, (Lib.hid rfl), zero_ok⟩
  rintro mz f1 s ⟨k, ac, hs1_13, rfl, hn, hd1, hd2, hd3⟩
  simp only [Act.putF, List.foldl_cons, List.foldl_nil, hs1_13, Act.put, Act.eval, q1, q2, q3, q4, q5, q6, q7, q8, q9, q10, q11, q12, q13, q14, q15, q16, q17, q18, Nat.reduceAdd, Bool.not_true, Bool.not_false]
  clear hs1_13
  refine wk_seq ?_
  refine wk_region [0] rfl Kx ?_
  simp only [qy]
  refine rfb_lss rfl rfl rfl rfl ?_
  intro x h1
  cases x
  · (try simp only [qd, ne_eq] at h1)
    simp only [qz]
    refine rg_nil (ek_next (wk_seq (wk_cond_f rfl (wk_exit (ek_then_exit (ek_then_exit (ek_block_exit (ek_next (wk_seq ?_)))))))))
    refine wk_region [0, 1, 0] rfl Kx ?_
    simp only [qy]
    refine rf_loadR (n := 5) rfl rfl rfl Try.underlying45 rfl Kx (fun w hw => Kn.hd0 hw) rfl rfl ?_
    simp only [qz]
    refine rf_storeR (n := 5) rfl rfl Kx rfl rfl (UpdR.there _ (UpdR.here _ _ _ Nl)) Nz ?_
    simp only [qz, Nat.reduceAdd]
    refine rg_assign ?_
    simp only [qz]
    refine rg_nil (ek_next (wk_ret ?_))
    refine ek_ret (fun w hw => ⟨rfl, _, run_results2 rfl rfl (Kn.hd0 (Kn.tl hw)) Try.underlying45 rfl Kx, ?_⟩)
    (try simp only [qz])
    obtain rfl : n = k := by omega
    exact ⟨by rw [hd2.out]; rfl, hw.below⟩
  (try simp only [qd, ne_eq] at h1)
  simp only [qz]
  refine rg_nil (ek_next (wk_seq (wk_cond_t rfl (wk_skip (ek_next (wk_seq (wk_block (wk_seq ?_))))))))
  refine wk_region [0, 0] rfl Kx ?_
  simp only [qy]
  refine rg_move ?_
  simp only [qz]
  refine rg_assign ?_
  simp only [qz]
  refine rg_nil (ek_next (wk_seq ?_))
  refine wk_region [0, 0, 1, 0, 0, 0, 1, 1, 1, 1] rfl Kx ?_
  simp only [qy]
  refine rg_move ?_
  simp only [qz]
  refine rg_move ?_
  simp only [qz]
  have hxk := hx k Ox
  have hyk := hy k Ox
  refine rg_fnv (.tuple #[nmV (x k), nmV (y k)]) Rx hF rfl (by simp only [qm, qs, Act.eval] <;> rfl) ⟨k, by omega, rfl, rfl⟩ Nz ?_
  simp only [qz]
  refine rg_move ?_
  simp only [qz]
  refine rf_extract rfl rfl rfl rfl ?_
  simp only [qz]
  refine rf_extract rfl rfl rfl rfl ?_
  simp only [qz]
  refine Rgn fun g3 => ?_
  simp only [qz]
  refine Rgn fun g4 => ?_
  simp only [qz]
  refine rf_storeR (n := 5) rfl rfl Kx rfl rfl (UpdR.there _ (UpdR.here _ _ _ Nl)) Nz ?_
  simp only [qz, Nat.reduceAdd]
  refine rf_storeR (n := 5) rfl rfl Kx rfl rfl (UpdR.here _ _ _ Nl) Nz ?_
  simp only [qz, Nat.reduceAdd]
  refine rg_nil (ek_next (wk_seq ?_))
  refine wk_region [0, 0, 1, 0, 0, 0, 1, 1, 0] rfl Kx ?_
  simp only [qy]
  refine rf_loadR (n := 5) rfl rfl rfl Try.underlying45 rfl Kx (fun w hw => Kn.hd0 (Kn.tl hw)) rfl rfl ?_
  simp only [qz]
  refine rf_loadR (n := 5) rfl rfl rfl Try.underlying45 rfl Kx (fun w hw => Kn.hd0 hw) rfl rfl ?_
  simp only [qz]
  apply rg_num Rx Kx
  case hargs => exact Ax
  case h => exact fun w hw => amMul_ok (x k) (y k) hxk hyk w
  case hz => exact Nz
  case hc => exact (fun c h => mk_err h)
  · intro hr2
    simp only [qz]
    refine rg_move ?_
    simp only [qz]
    refine rf_extract rfl rfl rfl rfl ?_
    simp only [qz]
    refine rf_extract rfl rfl rfl rfl ?_
    simp only [qz]
    refine Rgn fun g5 => ?_
    simp only [qz]
    refine rf_storeR (n := 5) rfl rfl Kx rfl rfl (UpdR.here _ _ _ Nl) Nz ?_
    simp only [qz, Nat.reduceAdd]
    refine rg_assign ?_
    simp only [qz]
    refine rg_nil (ek_next (wk_seq (wk_seq ?_)))
    refine wk_region [0, 0] rfl Kx ?_
    simp only [qy]
    refine rg_move ?_
    simp only [qz]
    refine rf_neq (b := true) rfl rfl rfl rfl (by decide) ?_
    simp only [qz]
    refine rg_nil (ek_next (wk_cond_t rfl (wk_seq ?_)))
    refine wk_region [0, 0, 1, 0] rfl Kx ?_
    simp only [qy]
    refine rf_build (cs := fun a => #[.int .i64 0, .int .i64 0, .int .i64 0, .int .i64 0, .int .i64 0]) rfl rfl Kx ?_
    simp only [qz]
    refine rg_move ?_
    simp only [qz]
    refine rf_storeR (n := 5) rfl rfl Kx rfl rfl (UpdR.there _ (UpdR.there _ (UpdR.there _ (UpdR.there _ (UpdR.here _ _ _ Nl))))) Nz ?_
    simp only [qz, Nat.reduceAdd]
    refine rg_assign ?_
    simp only [qz]
    refine rg_nil (ek_next (wk_ret (ek_then_ret (ek_block_ret (ek_then_ret (ek_then_ret (ek_block_ret (ek_then_ret ?_))))))))
    refine ek_ret (fun w hw => ⟨rfl, _, run_results2 rfl rfl (Kn.hd0 (Kn.tl (Kn.tl (Kn.tl (Kn.tl hw))))) Try.underlying45 rfl Kx, ?_⟩)
    (try simp only [qz])
    exact ⟨by rw [prodsR_err (k := k + 1) (c := 4) (by simp only [prodsR, hd2.out, hr2]) n Ox]; rfl, hw.below⟩
  intro z2 hr2
  simp only [qz]
  refine rg_move ?_
  simp only [qz]
  refine rf_extract rfl rfl rfl rfl ?_
  simp only [qz]
  refine rf_extract rfl rfl rfl rfl ?_
  simp only [qz]
  refine Rgn fun g6 => ?_
  simp only [qz]
  refine rf_storeR (n := 5) rfl rfl Kx rfl rfl (UpdR.here _ _ _ Nl) Nz ?_
  simp only [qz, Nat.reduceAdd]
  refine rg_assign ?_
  simp only [qz]
  refine rg_nil (ek_next (wk_seq (wk_seq ?_)))
  refine wk_region [0, 0] rfl Kx ?_
  simp only [qy]
  refine rg_move ?_
  simp only [qz]
  refine rf_neq (b := false) rfl rfl rfl rfl (by decide) ?_
  simp only [qz]
  refine rg_nil (ek_next (wk_cond_f rfl (wk_skip (ek_next (wk_seq ?_)))))
  refine wk_region [0, 0, 1, 0, 0, 0, 1, 0] rfl Kx ?_
  simp only [qy]
  refine rf_loadR (n := 5) rfl rfl rfl Try.underlying45 rfl Kx (fun w hw => Kn.hd0 (Kn.tl (Kn.tl (Kn.tl hw)))) rfl rfl ?_
  simp only [qz]
  refine rf_loadR (n := 5) rfl rfl rfl Try.underlying45 rfl Kx (fun w hw => Kn.hd0 hw) rfl rfl ?_
  simp only [qz]
  have hpk := (mk_ok (mulR_k hxk.k0 hyk.k0) hr2).1
  apply rg_num Rx Kx
  case hargs => exact Ax
  case h => exact fun w hw => amAdd_ok ac z2 hd3 hpk w
  case hz => exact Nz
  case hc => exact (fun c h => mk_err h)
  · intro hr3
    simp only [qz]
    refine rg_move ?_
    simp only [qz]
    refine rf_extract rfl rfl rfl rfl ?_
    simp only [qz]
    refine rf_extract rfl rfl rfl rfl ?_
    simp only [qz]
    refine rf_storeR (n := 5) rfl rfl Kx rfl rfl (UpdR.there _ (UpdR.there _ (UpdR.there _ (UpdR.here _ _ _ Nl)))) Nz ?_
    simp only [qz, Nat.reduceAdd]
    refine rg_assign ?_
    simp only [qz]
    refine rg_nil (ek_next (wk_seq ?_))
    refine wk_region [0, 0] rfl Kx ?_
    simp only [qy]
    refine rg_move ?_
    simp only [qz]
    refine rf_neq (b := true) rfl rfl rfl rfl (by decide) ?_
    simp only [qz]
    refine rg_nil (ek_next (wk_cond_t rfl (wk_seq ?_)))
    refine wk_region [0, 0, 1, 0] rfl Kx ?_
    simp only [qy]
    refine rf_build (cs := fun a => #[.int .i64 0, .int .i64 0, .int .i64 0, .int .i64 0, .int .i64 0]) rfl rfl Kx ?_
    simp only [qz]
    refine rg_move ?_
    simp only [qz]
    refine rf_storeR (n := 5) rfl rfl Kx rfl rfl (UpdR.there _ (UpdR.there _ (UpdR.there _ (UpdR.there _ (UpdR.here _ _ _ Nl))))) Nz ?_
    simp only [qz, Nat.reduceAdd]
    refine rg_assign ?_
    simp only [qz]
    refine rg_nil (ek_next (wk_ret (ek_block_ret (ek_then_ret (ek_then_ret (ek_block_ret (ek_then_ret ?_)))))))
    refine ek_ret (fun w hw => ⟨rfl, _, run_results2 rfl rfl (Kn.hd0 (Kn.tl (Kn.tl (Kn.tl (Kn.tl hw))))) Try.underlying45 rfl Kx, ?_⟩)
    (try simp only [qz])
    exact ⟨by rw [prodsR_err (k := k + 1) (c := 4) (by simp only [prodsR, hd2.out, hr2, hr3]) n Ox]; rfl, hw.below⟩
  intro z3 hr3
  simp only [qz]
  refine rg_move ?_
  simp only [qz]
  refine rf_extract rfl rfl rfl rfl ?_
  simp only [qz]
  refine rf_extract rfl rfl rfl rfl ?_
  simp only [qz]
  refine rf_storeR (n := 5) rfl rfl Kx rfl rfl (UpdR.there _ (UpdR.there _ (UpdR.there _ (UpdR.here _ _ _ Nl)))) Nz ?_
  simp only [qz, Nat.reduceAdd]
  refine rg_assign ?_
  simp only [qz]
  refine rg_nil (ek_next (wk_seq ?_))
  refine wk_region [0, 0] rfl Kx ?_
  simp only [qy]
  refine rg_move ?_
  simp only [qz]
  refine rf_neq (b := false) rfl rfl rfl rfl (by decide) ?_
  simp only [qz]
  refine rg_nil (ek_next (wk_cond_f rfl (wk_skip (ek_block (ek_next ?_)))))
  refine wk_region [0, 0] rfl Kx ?_
  simp only [qy]
  refine rf_add rfl rfl rfl rfl (wrap_ok Ox Ox) ?_
  simp only [qz]
  refine rg_move ?_
  simp only [qz]
  refine rg_nil ?_
  refine ek_sub (sk _ (sk _ (sk _ (sc _ (sc _ sn))))) ?_
  refine ek_roundF (n - (k + 1)) Ox Kx ?_
  exact ⟨k + 1, z3, rfl, by rfl, by rfl, Ox, (Lib.hid (by simp only [prodsR, hd2.out, hr2, hr3])), (mk_ok (addR_k hd3.k0) hr3).1⟩

set_option maxRecDepth 100000 in
set_option maxHeartbeats 1000000 in
theorem mul11_any (xs ys : List Nm) (a a' : Option Addr) (c c' : Nat) (N : Nat) (hN : N ≤ 6) (hlx : Hid (xs.length = N * N)) (hly : Hid (ys.length = N * N)) (i j k gx gi gy gk : Nat) (hi : i < N) (hj : j < N) (hk : k < N) (w : World) (hA : AS w a (nms xs)) (hB : AS w a' (nms ys)) (hX : Hd w gx 93 #[.int .i64 N, .slice a xs.length c]) (hY : Hd w gy 93 #[.int .i64 N, .slice a' ys.length c']) (hI : Hd w gi 3 #[.int .i64 i]) (hK : Hd w gk 3 #[.int .i64 k]) : Calls Try.prog 170 #[.int .i64 (j : Int), .pointer (some ⟨gx, 0, none⟩), .pointer (some ⟨gi, 0, none⟩), .pointer (some ⟨gy, 0, none⟩), .pointer (some ⟨gk, 0, none⟩)] w fun e w' => e = .returned (.tuple #[nmV (nm xs (i * N + j)), nmV (nm ys (j * N + k))]) ∧ Below w.heap.size w w' := by
  go_enter Try.func170, Try.ntmps170
  refine wk_start ?_
  refine wk_seq ?_
  refine wk_region [1, 1] rfl Kx ?_
  simp only [qy]
  refine Rgn fun g1 => ?_
  simp only [qz]
  refine Rgn fun g2 => ?_
  simp only [qz]
  refine rg_nil (ek_next (wk_seq ?_))
  refine wk_draws_m (hz1 := (sk _ (sk _ sn))) [(0, 0), (1, 0), (2, 0), (4, 3), (5, 3), (6, 3), (3, 1), (7, 1), (8, 2), (9, 1)] 8 Kx Kx (fun c d v a w h => by cases d <;> exact h) ?_
  simp only [List.map_cons, List.map_nil, List.getD_cons_zero, List.getD_cons_succ]
  refine rf_loadC (n := 2) (vs := [.int .i64 N, .slice a xs.length c]) rfl rfl rfl Try.underlying93 rfl Kx rfl (fun w hw => cells_range (Kn.hdB hw hX (by simp)) 0 2) ?_
  simp only [qz]
  refine rf_load (v := .int .i64 i) rfl rfl rfl Try.underlying3 rfl (fun w hw => (Kn.hdB hw hI (by simp)).at (i := 0) rfl) ?_
  simp only [qz]
  refine rg_move ?_
  simp only [qz]
  refine rf_loadC (n := 2) (vs := [.int .i64 N, .slice a' ys.length c']) rfl rfl rfl Try.underlying93 rfl Kx rfl (fun w hw => cells_range (Kn.hdB hw hY (by simp)) 0 2) ?_
  simp only [qz]
  refine rg_moveP ?_
  simp only [qz]
  refine rf_load (v := .int .i64 k) rfl rfl rfl Try.underlying3 rfl (fun w hw => (Kn.hdB hw hK (by simp)).at (i := 0) rfl) ?_
  simp only [qz]
  apply rg_pure Rx Kx
  case hargs => exact Ax
  case h => exact fun w hw => at_any N i j xs a c hlx.out hN hi hj w (hA.kn0 hw)
  case hz => exact (fun _ h => by cases h; exact (sc _ (sc _ sn)))
  simp only [qz]
  apply rg_pure Rx Kx
  case hargs => exact Ax
  case h => exact fun w hw => at_any N j k ys a' c' hly.out hN hj hk w (hB.kn0 hw)
  case hz => exact (fun _ h => by cases h; exact (sc _ (sc _ sn)))
  simp only [qz]
  refine rf_storeRM (n := 5) rfl rfl Kx rfl rfl (UpdR.there _ (UpdR.here _ _ _ Nl)) (sk _ (sk _ sn)) ?_
  simp only [qz, Nat.reduceAdd]
  refine rf_storeR (n := 5) rfl rfl Kx rfl rfl (UpdR.here _ _ _ Nl) (fun _ h => by cases h; exact (sk _ (sk _ sn))) ?_
  simp only [qz, Nat.reduceAdd]
  refine rg_nil (ek_next (wk_ret ?_))
  refine ek_ret (fun w hw => ⟨rfl, _, run_results_c2 rfl rfl (Kn.hd0 (Kn.tl hw)) Try.underlying45 rfl Kx rfl (Kn.hd0 hw) Try.underlying45 rfl Kx, ?_⟩)
  exact ⟨rfl, hw.below⟩

def mulF (N : Nat) (xs ys : List Nm) (i k : Nat) : NR := prodsR (fun j => nm xs (i * N + j)) (fun j => nm ys (j * N + k)) N
set_option maxRecDepth 100000 in
set_option maxHeartbeats 1000000 in
theorem mul1_any (xs ys : List Nm) (a a' : Option Addr) (c c' : Nat) (N : Nat) (hN : N ≤ 6) (hlx : Hid (xs.length = N * N)) (hly : Hid (ys.length = N * N)) (hox : allOk xs = true) (hoy : allOk ys = true) (i k gm gx gy : Nat) (hi : i < N) (hk : k < N) (w : World) (hA : AS w a (nms xs)) (hB : AS w a' (nms ys)) (hM : Hd w gm 38 #[.int .i64 N, .slice a xs.length c]) (hX : Hd w gx 93 #[.int .i64 N, .slice a xs.length c]) (hY : Hd w gy 93 #[.int .i64 N, .slice a' ys.length c']) : Calls Try.prog 168 #[.int .i64 (i : Int), .int .i64 (k : Int), .pointer (some ⟨gm, 0, none⟩), .pointer (some ⟨gx, 0, none⟩), .pointer (some ⟨gy, 0, none⟩)] w fun e w' => e = .returned (numV (mulF N xs ys i k)) ∧ Below w.heap.size w w' := by
  go_enter Try.func168, Try.ntmps168
  refine wk_start ?_
  refine wk_seq ?_
  refine wk_region [1, 1, 1, 0] rfl Kx ?_
  simp only [qy]
  refine Rgn fun g1 => ?_
  simp only [qz]
  refine Rgn fun g2 => ?_
  simp only [qz]
  refine Rgn fun g3 => ?_
  simp only [qz]
  refine rg_assign ?_
  simp only [qz]
  refine rg_nil (ek_next (wk_seq ?_))
  refine wk_region [0, 0, 0, 1, 0, 0, 1, 0] rfl Kx ?_
  simp only [qy]
  apply rg_soft
  case hy => (intro w hw; go_simp; (try go_bits); exact Yld.mk _ _)
  simp only [qz]
  refine rf_load (v := .int .i64 N) rfl rfl rfl Try.underlying3 rfl (fun w hw => (Kn.hdB hw hM (by simp)).at (i := 0) rfl) ?_
  simp only [qz]
  apply rg_soft
  case hy => (intro w hw; go_simp; (try go_bits); exact Yld.mk _ _)
  simp only [qz]
  apply rg_pure Rx Kx
  case hargs => exact Ax
  case h => exact fun w hw => products_any N hN (fun j => nm xs (i * N + j)) (fun j => nm ys (j * N + k)) _ (fun j hj => elemOk hox hlx.out hi hj) (fun j hj => elemOk hoy hly.out hj hk) w ⟨_, _, _, rfl, by kernel_rfl, fun w' hb vs r ⟨j, hj, hv, hr⟩ => by
      subst hv hr
      have h := mul11_any xs ys a a' c c' N hN hlx hly i j k gx g1 gy g2 hi hj hk w' ((hA.kn0 hw).below hb) ((hB.kn0 hw).below hb) ((Kn.hdB hw hX (by simp)).belowS hb) ((Kn.hdB hw hY (by simp)).belowS hb) ((Kn.hd0 (Kn.tl (Kn.tl hw))).belowS hb) ((Kn.hd0 (Kn.tl hw)).belowS hb)
      simpa using h⟩
  case hz => exact Nz
  simp only [qz]
  obtain ⟨v, e, hve⟩ := numV_ve2 (prodsR (fun j => nm xs (i * N + j)) (fun j => nm ys (j * N + k)) N)
  rw [hve]
  replace hve := Lib.hid hve
  refine rf_extract rfl rfl rfl rfl ?_
  simp only [qz]
  refine rf_extract rfl rfl rfl rfl ?_
  simp only [qz]
  refine rf_storeR (n := 5) rfl rfl Kx rfl rfl (UpdR.here _ _ _ Nl) Nz ?_
  simp only [qz, Nat.reduceAdd]
  refine rg_assign ?_
  simp only [qz]
  refine rg_nil (ek_next (wk_ret ?_))
  refine ek_ret (fun w hw => ⟨rfl, _, run_results2 rfl rfl (Kn.hd0 hw) Try.underlying45 rfl Kx, ?_⟩)
  (try simp only [qz])
  exact ⟨(congrArg Ending.returned hve.out).symm, hw.below⟩

end Go.Proofs.Ytccbinnlnkpplaa
namespace Go.Proofs.Ytccbinnlnkpplaa
set_option linter.all false
open Go.RowKit

def mulM (n m : Int) (xs ys : List Nm) : LR := if validB n xs && validB m ys then (if n = m then madeR n.toNat (mulF n.toNat xs ys) else .error 21) else .error 20
set_option maxRecDepth 100000 in
set_option maxHeartbeats 1000000 in
theorem mul_any (n m : Int) (xs ys : List Nm) (a a' : Option Addr) (c c' : Nat) (hl : xs.length ≤ 1000000) (hl' : ys.length ≤ 1000000) (w : World) (hA : AS w a (nms xs)) (hB : AS w a' (nms ys)) : Calls Try.prog 131 #[.agg #[.int .i64 n, .slice a xs.length c], .agg #[.int .i64 m, .slice a' ys.length c']] w fun e w' => RetM w (rN n.toNat (mulM n m xs ys)) (rL (mulM n m xs ys)) (rC (mulM n m xs ys)) e w' := by
  go_enter Try.func131, Try.ntmps131
  refine wk_start ?_
  refine wk_seq ?_
  refine wk_region [1, 1, 1, 0] rfl Kx ?_
  simp only [qy]
  refine Rgn fun g1 => ?_
  simp only [qz]
  refine Rgn fun g2 => ?_
  simp only [qz]
  refine Rgn fun g3 => ?_
  simp only [qz]
  refine rg_assign ?_
  simp only [qz]
  refine rg_nil (ek_next (wk_seq (wk_block (wk_seq ?_))))
  refine wk_region [0, 1, 0, 0, 0, 1, 0, 0, 0] rfl Kx ?_
  simp only [qy]
  refine rf_loadR (n := 2) rfl rfl rfl Try.underlying38 rfl Kx (fun w hw => Kn.hd0 (Kn.tl (Kn.tl hw))) rfl rfl ?_
  simp only [qz]
  apply rg_pureb Rx Kx
  case hargs => exact Ax
  case h => exact fun w hw => mvalid_any n xs a c hl w (hA.kn0 hw)
  case hz => exact Nz
  intro x h1
  cases x
  · (try simp only [qd, ne_eq] at h1)
    simp only [qz]
    refine rf_not rfl rfl rfl ?_
    simp only [qz]
    refine rg_move ?_
    simp only [qz]
    refine rg_skip Rx ?_
    simp only [qz]
    refine rg_skip_h Rx Nz ?_
    simp only [qz]
    refine rg_skip Rx ?_
    simp only [qz]
    refine rf_pick rfl rfl rfl ?_
    simp only [qz]
    refine rg_assign ?_
    simp only [qz]
    refine rg_nil (ek_next (wk_cond_t rfl (wk_seq ?_)))
    refine wk_region [0, 1, 0] rfl Kx ?_
    simp only [qy]
    refine rf_build (cs := fun a => #[.int .i64 0, .slice none 0 0]) rfl rfl Kx ?_
    simp only [qz]
    refine rf_storeR (n := 2) rfl rfl Kx rfl rfl (UpdR.here _ _ _ Nl) Nz ?_
    simp only [qz, Nat.reduceAdd]
    refine rg_assign ?_
    simp only [qz]
    refine rg_nil (ek_next (wk_ret (ek_block_ret (ek_then_ret ?_))))
    refine ek_ret (fun w hw => ⟨rfl, _, run_results2 rfl rfl (Kn.hd0 hw) Try.underlying38 rfl Kx, ?_⟩)
    (try simp only [qz])
    exact retM_err (c := 20) (by unfold mulM; rw [h1]; rfl) hw.below
  (try simp only [qd, ne_eq] at h1)
  simp only [qz]
  have hv := h1
  obtain ⟨N, rfl, hN1, hN, hlx, hlx36, hox⟩ := validB_N' hv
  replace hlx := Lib.hid hlx
  refine rf_not rfl rfl rfl ?_
  simp only [qz]
  refine rg_move ?_
  simp only [qz]
  refine rf_loadR (n := 2) rfl rfl rfl Try.underlying38 rfl Kx (fun w hw => Kn.hd0 (Kn.tl hw)) rfl rfl ?_
  simp only [qz]
  apply rg_pureb Rx Kx
  case hargs => exact Ax
  case h => exact fun w hw => mvalid_any m ys a' c' hl' w (hB.kn0 hw)
  case hz => exact Nz
  intro x h2
  cases x
  · (try simp only [qd, ne_eq] at h2)
    simp only [qz]
    refine rf_not rfl rfl rfl ?_
    simp only [qz]
    refine rf_pick rfl rfl rfl ?_
    simp only [qz]
    refine rg_assign ?_
    simp only [qz]
    refine rg_nil (ek_next (wk_cond_t rfl (wk_seq ?_)))
    refine wk_region [0, 1, 0] rfl Kx ?_
    simp only [qy]
    refine rf_build (cs := fun a => #[.int .i64 0, .slice none 0 0]) rfl rfl Kx ?_
    simp only [qz]
    refine rf_storeR (n := 2) rfl rfl Kx rfl rfl (UpdR.here _ _ _ Nl) Nz ?_
    simp only [qz, Nat.reduceAdd]
    refine rg_assign ?_
    simp only [qz]
    refine rg_nil (ek_next (wk_ret (ek_block_ret (ek_then_ret ?_))))
    refine ek_ret (fun w hw => ⟨rfl, _, run_results2 rfl rfl (Kn.hd0 hw) Try.underlying38 rfl Kx, ?_⟩)
    (try simp only [qz])
    exact retM_err (c := 20) (by unfold mulM; rw [h2, Bool.and_false]; rfl) hw.below
  (try simp only [qd, ne_eq] at h2)
  simp only [qz]
  have hv2 := h2
  obtain ⟨M, rfl, hM1, hM, hly, hly36, hoy⟩ := validB_N' hv2
  replace hly := Lib.hid hly
  refine rf_not rfl rfl rfl ?_
  simp only [qz]
  refine rf_pick rfl rfl rfl ?_
  simp only [qz]
  refine rg_assign ?_
  simp only [qz]
  refine rg_nil (ek_next (wk_cond_f rfl (wk_seq ?_)))
  refine wk_region [0, 0, 0, 0, 0, 0] rfl Kx ?_
  simp only [qy]
  refine rf_field (n := 0) (j := 0) rfl rfl rfl Try.underlying38 rfl Kx rfl ?_
  simp only [qz]
  refine rf_load rfl rfl rfl Try.underlying3 rfl (fun w hw => (Kn.hd0 (Kn.tl (Kn.tl hw))).at rfl) ?_
  simp only [qz]
  refine rf_field (n := 0) (j := 0) rfl rfl rfl Try.underlying38 rfl Kx rfl ?_
  simp only [qz]
  refine rf_load rfl rfl rfl Try.underlying3 rfl (fun w hw => (Kn.hd0 (Kn.tl hw)).at rfl) ?_
  simp only [qz]
  refine rfb_neq rfl rfl rfl rfl ?_
  intro x h3
  cases x
  · (try simp only [qd, ne_eq] at h3)
    simp only [qz]
    obtain rfl : N = M := by omega
    have hcp : mulM (N : Int) (N : Int) xs ys = madeR N (mulF N xs ys) := by (unfold mulM; rw [hv, hv2, Bool.and_self, if_pos rfl, if_pos rfl, Int.toNat_natCast])
    replace hcp := Lib.hid hcp
    refine rg_assign ?_
    simp only [qz]
    refine rg_nil (ek_next (wk_cond_f rfl (wk_skip (ek_block (ek_next ?_)))))
    refine wk_cutF [6, 7, 25, 26, 27, 28] (fun f s => ∃ (gx gy : Nat), f 6 = .pointer (some ⟨gx, 0, none⟩) ∧ f 7 = .pointer (some ⟨gy, 0, none⟩) ∧ s = ((gx, .cells #[.int .i64 N, .slice a xs.length c] 93) :: ((gy, .cells #[.int .i64 N, .slice a' ys.length c'] 93) :: ((g3, .cells #[.int .i64 0, .slice none 0 0] 38) :: ((g2, .cells #[.int .i64 N, .slice a' ys.length c'] 38) :: ((g1, .cells #[.int .i64 N, .slice a xs.length c] 38) :: [])))))) ?_ ?_
    · refine wk_rt _ Kx (sc _ (sc _ (sc _ sn))) ?_
      refine rt_soft (i := 0) rfl Kx (fun c d v a w h => by cases d <;> exact h) (sc _ (sc _ (sc _ sn))) ?_
      refine rf_loadR (n := 2) rfl rfl rfl Try.underlying38 rfl Kx (fun w hw => Kn.hd0 (Kn.tl (Kn.tl hw))) rfl rfl ?_
      simp only [qz]
      refine rg_nil ?_
      refine ek_rt (sc _ (sc _ (sc _ sn))) ?_
      refine rt_soft (i := 1) rfl Kx (fun c d v a w h => by cases d <;> exact h) (sc _ (sc _ (sc _ sn))) ?_
      refine rf_build (cs := fun a => #[cellAt (a.eval (.tmp 25)) 0, cellAt (a.eval (.tmp 25)) 1]) rfl rfl Kx ?_
      simp only [qz]
      refine rg_nil ?_
      refine ek_rt (sc _ (sc _ (sc _ sn))) ?_
      refine rt_soft (i := 2) rfl Kx (fun c d v a w h => by cases d <;> exact h) (sc _ (sc _ (sc _ sn))) ?_
      refine rf_loadR (n := 2) rfl rfl rfl Try.underlying38 rfl Kx (fun w hw => Kn.hd0 (Kn.tl hw)) rfl rfl ?_
      simp only [qz]
      refine rg_nil ?_
      refine ek_rt (sc _ (sc _ (sc _ sn))) ?_
      refine rt_soft (i := 3) rfl Kx (fun c d v a w h => by cases d <;> exact h) (sc _ (sc _ (sc _ sn))) ?_
      refine rf_build (cs := fun a => #[cellAt (a.eval (.tmp 27)) 0, cellAt (a.eval (.tmp 27)) 1]) rfl rfl Kx ?_
      simp only [qz]
      refine rg_nil ?_
      refine ek_rt (sc _ (sc _ (sc _ sn))) ?_
      refine rt_hard2 (i := 4) (j := 5) Kx rfl rfl ?_ ?_
      · refine rg_new (cs := ?_) (ty := ?_) Rx (fun w => ?_) (fun _ h => by cases h; exact (sc _ (sc _ (sc _ sn)))) (fun g4 => ?_); rotate_left 2
        focus (go_simp; rfl)
        simp only [qz]
        refine rg_nil ?_
        refine ek_rt (sk _ (sc _ (sc _ (sc _ sn)))) ?_
        refine rt_hard1 (i := 5) Kx rfl ?_
        refine rg_new (cs := ?_) (ty := ?_) Rx (fun w => ?_) (fun _ h => by cases h; exact (sk _ (sc _ (sc _ (sc _ sn))))) (fun g5 => ?_); rotate_left 2
        focus (go_simp; rfl)
        simp only [qz]
        refine rg_nil ?_
        refine ek_rt (sk _ (sk _ (sc _ (sc _ (sc _ sn))))) ?_
        refine rt_hard1 (i := 6) Kx rfl ?_
        refine rf_storeR (n := 2) rfl rfl Kx rfl rfl (UpdR.there _ (UpdR.here _ _ _ Nl)) (fun _ h => by cases h; exact (sk _ (sk _ (sc _ (sc _ (sc _ sn)))))) ?_
        simp only [qz, Nat.reduceAdd]
        refine rg_nil ?_
        refine ek_rt (sk _ (sk _ (sc _ (sc _ (sc _ sn))))) ?_
        refine rt_hard1 (i := 7) Kx rfl ?_
        refine rf_storeR (n := 2) rfl rfl Kx rfl rfl (UpdR.here _ _ _ Nl) (fun _ h => by cases h; exact (sk _ (sk _ (sc _ (sc _ (sc _ sn)))))) ?_
        simp only [qz, Nat.reduceAdd]
        refine rg_nil ?_
        refine ek_rt (sk _ (sk _ (sc _ (sc _ (sc _ sn))))) ?_
        refine rt_nil Kx ?_
        refine ek_perm (perm_at (l := [_]) (List.Perm.refl _)) ?_
        refine ek_midF Kx ?_
        exact ⟨g4, g5, rfl, rfl, by rfl⟩
      refine rg_new (cs := ?_) (ty := ?_) Rx (fun w => ?_) (fun _ h => by cases h; exact (sc _ (sc _ (sc _ sn)))) (fun g6 => ?_); rotate_left 2
      focus (go_simp; rfl)
      simp only [qz]
      refine rg_nil ?_
      refine ek_rt (sk _ (sc _ (sc _ (sc _ sn)))) ?_
      refine rt_hard1 (i := 4) Kx rfl ?_
      refine rg_new (cs := ?_) (ty := ?_) Rx (fun w => ?_) (fun _ h => by cases h; exact (sk _ (sc _ (sc _ (sc _ sn))))) (fun g7 => ?_); rotate_left 2
      focus (go_simp; rfl)
      simp only [qz]
      refine rg_nil ?_
      refine ek_rt (sk _ (sk _ (sc _ (sc _ (sc _ sn))))) ?_
      refine rt_hard1 (i := 6) Kx rfl ?_
      refine rf_storeR (n := 2) rfl rfl Kx rfl rfl (UpdR.here _ _ _ Nl) (fun _ h => by cases h; exact (sk _ (sk _ (sc _ (sc _ (sc _ sn)))))) ?_
      simp only [qz, Nat.reduceAdd]
      refine rg_nil ?_
      refine ek_rt (sk _ (sk _ (sc _ (sc _ (sc _ sn))))) ?_
      refine rt_hard1 (i := 7) Kx rfl ?_
      refine rf_storeR (n := 2) rfl rfl Kx rfl rfl (UpdR.there _ (UpdR.here _ _ _ Nl)) (fun _ h => by cases h; exact (sk _ (sk _ (sc _ (sc _ (sc _ sn)))))) ?_
      simp only [qz, Nat.reduceAdd]
      refine rg_nil ?_
      refine ek_rt (sk _ (sk _ (sc _ (sc _ (sc _ sn))))) ?_
      refine rt_nil Kx ?_
      refine ek_midF Kx ?_
      exact ⟨g7, g6, rfl, rfl, by rfl⟩
    rintro f1 s ⟨gx, gy, hs1_6, hs1_7, rfl⟩
    simp only [Act.putF, List.foldl_cons, List.foldl_nil, hs1_6, hs1_7, Act.put, Act.eval, q1, q2, q3, q4, q5, q6, q7, q8, q9, q10, q11, q12, q13, q14, q15, q16, q17, q18, Nat.reduceAdd, Bool.not_true, Bool.not_false]
    clear hs1_6 hs1_7
    refine wk_seq ?_
    refine wk_region [0, 0, 0, 1, 0, 0, 1, 0] rfl Kx ?_
    simp only [qy]
    refine rf_field (n := 0) (j := 0) rfl rfl rfl Try.underlying38 rfl Kx rfl ?_
    simp only [qz]
    refine rf_load rfl rfl rfl Try.underlying3 rfl (fun w hw => (Kn.hd0 (Kn.tl (Kn.tl (Kn.tl (Kn.tl hw))))).at rfl) ?_
    simp only [qz]
    apply rg_soft
    case hy => (intro w hw; go_simp; (try go_bits); exact Yld.mk _ _)
    simp only [qz]
    apply rg_retM Rx Kx
    case hargs => exact Ax
    case h => exact fun w hw => made_any N hN (mulF N xs ys) _ (fun i k c hi hk h => by have := prodsR_code h; omega) w ⟨_, _, _, rfl, by kernel_rfl, fun w' hb vs r ⟨i, k, hi, hk, hv, hr⟩ => by
        subst hv hr
        have h := mul1_any xs ys a a' c c' N hN hlx hly hox hoy i k g1 gx gy hi hk w' ((hA.kn0 hw).below hb) ((hB.kn0 hw).below hb) ((Kn.hd0 (Kn.tl (Kn.tl (Kn.tl (Kn.tl hw))))).belowS hb) ((Kn.hd0 hw).belowS hb) ((Kn.hd0 (Kn.tl hw)).belowS hb)
        simpa using h⟩
    case hz => exact Nz
    intro va9 vc9 u9 hO9
    simp only [qz]
    refine rf_extract rfl rfl rfl rfl ?_
    simp only [qz]
    refine rf_extract rfl rfl rfl rfl ?_
    simp only [qz]
    refine rf_storeR (n := 2) rfl rfl Kx rfl rfl (UpdR.app _ (UpdR.there _ (UpdR.there _ (UpdR.here _ _ _ Nl)))) Nz ?_
    simp only [qz, Nat.reduceAdd]
    refine rg_assign ?_
    simp only [qz]
    refine rg_nil (ek_next (wk_ret ?_))
    refine ek_ret (fun w hw => ⟨rfl, _, run_results2 rfl rfl (Kn.hd0 (Kn.tl (Kn.tl (Kn.tlU hw)))) Try.underlying38 rfl Kx, ?_⟩)
    (try simp only [qz])
    exact ⟨.slice va9 _ vc9, u9, by rw [hcp.out]; rfl, by rw [hcp.out]; exact hO9, hw.made (List.sublist_append_left _ _)⟩
  (try simp only [qd, ne_eq] at h3)
  simp only [qz]
  refine rg_assign ?_
  simp only [qz]
  refine rg_nil (ek_next (wk_cond_t rfl (wk_seq ?_)))
  refine wk_region [0, 1, 0] rfl Kx ?_
  simp only [qy]
  refine rf_build (cs := fun a => #[.int .i64 0, .slice none 0 0]) rfl rfl Kx ?_
  simp only [qz]
  refine rf_storeR (n := 2) rfl rfl Kx rfl rfl (UpdR.here _ _ _ Nl) Nz ?_
  simp only [qz, Nat.reduceAdd]
  refine rg_assign ?_
  simp only [qz]
  refine rg_nil (ek_next (wk_ret (ek_block_ret (ek_then_ret ?_))))
  refine ek_ret (fun w hw => ⟨rfl, _, run_results2 rfl rfl (Kn.hd0 hw) Try.underlying38 rfl Kx, ?_⟩)
  (try simp only [qz])
  exact retM_err (c := 21) (by unfold mulM; rw [hv, hv2, Bool.and_self, if_pos rfl, if_neg Ox]) hw.below

end Go.Proofs.Ytccbinnlnkpplaa
namespace Go.Proofs.Ytccbinnlnkpplaa
set_option linter.all false
open Go.RowKit

theorem and7 (x : Int) : bits .and .i64 x 7 = x % 8 := by
  show IntKind.i64.wrap ((BitVec.ofInt 64 x &&& BitVec.ofInt 64 7).toNat : Int) = _
  have h1 : (BitVec.ofInt 64 (7 : Int)).toNat = 2 ^ 3 - 1 := by decide
  rw [BitVec.toNat_and, h1, Nat.and_two_pow_sub_one_eq_mod, BitVec.toNat_ofInt, IntKind.wrap_i64]
  omega
/-- So many eighths of a turn. -/
def Nm.turn : Nat → Nm → Nm
  | 0, z => z
  | n + 1, z => (Nm.turn n z).rot
set_option maxRecDepth 100000 in
set_option maxHeartbeats 1000000 in
theorem amchanged_ok (z r : Nm) (hz : z.Ok) (f : Nat) (caps : Array Value) (hgo : isGo Try.prog f = true) (w : World) (hf : ∀ w', Below w.heap.size w w' → Calls Try.prog f (#[nmV z] ++ caps) w' fun e w'' => e = .returned (nmV r) ∧ Below w'.heap.size w' w'') : Calls Try.prog 153 #[nmV z, .func (.func f) #[] caps] w fun e w' => e = .returned (.tuple #[nmV r, .int .i64 0]) ∧ Below w.heap.size w w' := by
  go_enter Try.func153, Try.ntmps153
  refine wk_start ?_
  refine wk_seq ?_
  refine wk_region [1, 1, 0] rfl Kx ?_
  simp only [qy]
  refine Rgn fun g1 => ?_
  simp only [qz]
  refine Rgn fun g2 => ?_
  simp only [qz]
  refine rg_assign ?_
  simp only [qz]
  refine rg_nil (ek_next (wk_seq (wk_seq ?_)))
  refine wk_region [0, 1, 0] rfl Kx ?_
  simp only [qy]
  refine rf_loadR (n := 5) rfl rfl rfl Try.underlying45 rfl Kx (fun w hw => Kn.hd0 (Kn.tl hw)) rfl rfl ?_
  simp only [qz]
  apply rg_pure Rx Kx
  case hargs => exact Ax
  case h => exact fun w hw => by have := amvalid_any z w; rw [okB_yes hz] at this; exact this
  case hz => exact Nz
  simp only [qz]
  refine rf_not rfl rfl rfl ?_
  simp only [qz]
  refine rg_nil (ek_next (wk_cond_f rfl (wk_skip (ek_next (wk_seq ?_)))))
  refine wk_region [0, 0, 1, 1, 0] rfl Kx ?_
  simp only [qy]
  refine rg_move ?_
  simp only [qz]
  refine rf_loadR (n := 5) rfl rfl rfl Try.underlying45 rfl Kx (fun w hw => Kn.hd0 (Kn.tl hw)) rfl rfl ?_
  simp only [qz]
  refine CV.rg_callV (caps := caps) (vs := #[nmV z]) (v := nmV r) Rx rfl hgo (by simp only [qm, qs, Act.eval]) (fun w hw => hf w hw.below) Nz ?_
  simp only [qz]
  refine rf_storeR (n := 5) rfl rfl Kx rfl rfl (UpdR.here _ _ _ Nl) Nz ?_
  simp only [qz, Nat.reduceAdd]
  refine rg_assign ?_
  simp only [qz]
  refine rg_nil (ek_next (wk_ret ?_))
  refine ek_ret (fun w hw => ⟨rfl, _, run_results2 rfl rfl (Kn.hd0 hw) Try.underlying45 rfl Kx, ?_⟩)
  (try simp only [qz])
  first | exact ⟨rfl, hw.below⟩ | exact ⟨trivial, hw.below⟩ | exact hw.below

end Go.Proofs.Ytccbinnlnkpplaa
namespace Go.Proofs.Ytccbinnlnkpplaa
set_option linter.all false
open Go.RowKit

/-- The matrix of a function of the elements. -/
def mapM (F : Nat → List Nm → Nat → Nat → NR) (n : Int) (xs : List Nm) : LR := if validB n xs then madeR n.toNat (F n.toNat xs) else .error 20
end Go.Proofs.Ytccbinnlnkpplaa
namespace Go.Proofs.Ytccbinnlnkpplaa
set_option linter.all false
open Go.RowKit

set_option maxRecDepth 100000 in
set_option maxHeartbeats 1000000 in
theorem amConj_ok (z : Nm) (hz : z.Ok) (w : World) : Calls Try.prog 106 #[nmV z] w fun e w' => e = .returned (.tuple #[nmV z.conj, .int .i64 0]) ∧ Below w.heap.size w w' := by
  go_enter Try.func106, Try.ntmps106
  refine wk_start ?_
  refine wk_seq ?_
  refine wk_region [1, 1, 0] rfl Kx ?_
  simp only [qy]
  refine Rgn fun g1 => ?_
  simp only [qz]
  refine Rgn fun g2 => ?_
  simp only [qz]
  refine rg_assign ?_
  simp only [qz]
  refine rg_nil (ek_next (wk_seq ?_))
  refine wk_region [0, 1, 0, 0, 1, 0] rfl Kx ?_
  simp only [qy]
  refine rf_loadR (n := 5) rfl rfl rfl Try.underlying45 rfl Kx (fun w hw => Kn.hd0 (Kn.tl hw)) rfl rfl ?_
  simp only [qz]
  apply rg_pure Rx Kx
  case hargs => exact Ax
  case h => exact fun w hw => amchanged_ok z z.conj hz 120 #[] Kx w (fun w' _ => amconj_any z (Nm.fit_mono hz.fit Ox) w')
  case hz => exact Nz
  simp only [qz]
  refine rf_extract rfl rfl rfl rfl ?_
  simp only [qz]
  refine rf_extract rfl rfl rfl rfl ?_
  simp only [qz]
  refine rf_storeR (n := 5) rfl rfl Kx rfl rfl (UpdR.here _ _ _ Nl) Nz ?_
  simp only [qz, Nat.reduceAdd]
  refine rg_assign ?_
  simp only [qz]
  refine rg_nil (ek_next (wk_ret ?_))
  refine ek_ret (fun w hw => ⟨rfl, _, run_results2 rfl rfl (Kn.hd0 hw) Try.underlying45 rfl Kx, ?_⟩)
  (try simp only [qz])
  first | exact ⟨rfl, hw.below⟩ | exact ⟨trivial, hw.below⟩ | exact hw.below

end Go.Proofs.Ytccbinnlnkpplaa
namespace Go.Proofs.Ytccbinnlnkpplaa
set_option linter.all false
open Go.RowKit

def dagF (N : Nat) (xs : List Nm) (i k : Nat) : NR := .ok (nm xs (k * N + i)).conj
set_option maxRecDepth 100000 in
set_option maxHeartbeats 1000000 in
theorem dag1_any (xs : List Nm) (a : Option Addr) (c : Nat) (N : Nat) (hN : N ≤ 6) (hlx : Hid (xs.length = N * N)) (hox : allOk xs = true) (i k gx : Nat) (hi : i < N) (hk : k < N) (w : World) (hA : AS w a (nms xs)) (hX : Hd w gx 93 #[.int .i64 N, .slice a xs.length c]) : Calls Try.prog 105 #[.int .i64 (i : Int), .int .i64 (k : Int), .pointer (some ⟨gx, 0, none⟩)] w fun e w' => e = .returned (numV (dagF N xs i k)) ∧ Below w.heap.size w w' := by
  go_enter Try.func105, Try.ntmps105
  refine wk_start ?_
  refine wk_seq ?_
  refine wk_region [1, 0] rfl Kx ?_
  simp only [qy]
  refine Rgn fun g1 => ?_
  simp only [qz]
  refine rg_assign ?_
  simp only [qz]
  refine rg_nil (ek_next (wk_seq ?_))
  refine wk_region [0, 0, 0, 1, 1, 0, 0, 1, 0] rfl Kx ?_
  simp only [qy]
  refine rf_loadC (n := 2) (vs := [.int .i64 N, .slice a xs.length c]) rfl rfl rfl Try.underlying93 rfl Kx rfl (fun w hw => cells_range (Kn.hdB hw hX (by simp)) 0 2) ?_
  simp only [qz]
  refine rg_move ?_
  simp only [qz]
  refine rg_move ?_
  simp only [qz]
  apply rg_pure Rx Kx
  case hargs => exact Ax
  case h => exact fun w hw => at_any N k i xs a c hlx.out hN hk hi w (hA.kn0 hw)
  case hz => exact Nz
  simp only [qz]
  apply rg_pure Rx Kx
  case hargs => exact Ax
  case h => exact fun w hw => amConj_ok (nm xs (k * N + i)) (elemOk hox hlx.out hk hi) w
  case hz => exact Nz
  simp only [qz]
  refine rf_extract rfl rfl rfl rfl ?_
  simp only [qz]
  refine rf_extract rfl rfl rfl rfl ?_
  simp only [qz]
  refine rf_storeR (n := 5) rfl rfl Kx rfl rfl (UpdR.here _ _ _ Nl) Nz ?_
  simp only [qz, Nat.reduceAdd]
  refine rg_assign ?_
  simp only [qz]
  refine rg_nil (ek_next (wk_ret ?_))
  refine ek_ret (fun w hw => ⟨rfl, _, run_results2 rfl rfl (Kn.hd0 hw) Try.underlying45 rfl Kx, ?_⟩)
  (try simp only [qz])
  exact ⟨rfl, hw.below⟩

set_option maxRecDepth 100000 in
set_option maxHeartbeats 1000000 in
theorem mdagger_any (n : Int) (xs : List Nm) (a : Option Addr) (c : Nat) (hl : xs.length ≤ 1000000) (w : World) (hA : AS w a (nms xs)) : Calls Try.prog 58 #[.agg #[.int .i64 n, .slice a xs.length c]] w fun e w' => RetM w (rN n.toNat (mapM dagF n xs)) (rL (mapM dagF n xs)) (rC (mapM dagF n xs)) e w' := by
  go_enter Try.func58, Try.ntmps58
  refine wk_start ?_
  refine wk_seq ?_
  refine wk_region [1, 1, 0] rfl Kx ?_
  simp only [qy]
  refine Rgn fun g1 => ?_
  simp only [qz]
  refine Rgn fun g2 => ?_
  simp only [qz]
  refine rg_assign ?_
  simp only [qz]
  refine rg_nil (ek_next (wk_seq (wk_seq ?_)))
  refine wk_region [0, 1, 0] rfl Kx ?_
  simp only [qy]
  refine rf_loadR (n := 2) rfl rfl rfl Try.underlying38 rfl Kx (fun w hw => Kn.hd0 (Kn.tl hw)) rfl rfl ?_
  simp only [qz]
  apply rg_pureb Rx Kx
  case hargs => exact Ax
  case h => exact fun w hw => mvalid_any n xs a c hl w (hA.kn0 hw)
  case hz => exact Nz
  intro x h1
  cases x
  · (try simp only [qd, ne_eq] at h1)
    simp only [qz]
    refine rf_not rfl rfl rfl ?_
    simp only [qz]
    refine rg_nil (ek_next (wk_cond_t rfl (wk_seq ?_)))
    refine wk_region [0, 1, 0] rfl Kx ?_
    simp only [qy]
    refine rf_build (cs := fun a => #[.int .i64 0, .slice none 0 0]) rfl rfl Kx ?_
    simp only [qz]
    refine rf_storeR (n := 2) rfl rfl Kx rfl rfl (UpdR.here _ _ _ Nl) Nz ?_
    simp only [qz, Nat.reduceAdd]
    refine rg_assign ?_
    simp only [qz]
    refine rg_nil (ek_next (wk_ret (ek_then_ret ?_)))
    refine ek_ret (fun w hw => ⟨rfl, _, run_results2 rfl rfl (Kn.hd0 hw) Try.underlying38 rfl Kx, ?_⟩)
    (try simp only [qz])
    exact retM_err (c := 20) (by unfold mapM; rw [h1]; rfl) hw.below
  (try simp only [qd, ne_eq] at h1)
  simp only [qz]
  have hv := h1
  obtain ⟨N, rfl, hN1, hN, hlx, hlx36, hox⟩ := validB_N' hv
  replace hlx := Lib.hid hlx
  have hcp : mapM dagF (N : Int) xs = madeR N (dagF N xs) := by (unfold mapM; rw [hv, if_pos rfl, Int.toNat_natCast])
  replace hcp := Lib.hid hcp
  refine rf_not rfl rfl rfl ?_
  simp only [qz]
  refine rg_nil (ek_next (wk_cond_f rfl (wk_skip (ek_next (wk_seq ?_)))))
  refine wk_region [0, 0, 1, 1] rfl Kx ?_
  simp only [qy]
  refine rf_loadR (n := 2) rfl rfl rfl Try.underlying38 rfl Kx (fun w hw => Kn.hd0 (Kn.tl hw)) rfl rfl ?_
  simp only [qz]
  refine rf_build (cs := fun a => #[cellAt (a.eval (.tmp 9)) 0, cellAt (a.eval (.tmp 9)) 1]) rfl rfl Kx ?_
  simp only [qz]
  refine Rgn fun g3 => ?_
  simp only [qz]
  refine rf_storeR (n := 2) rfl rfl Kx rfl rfl (UpdR.here _ _ _ Nl) Nz ?_
  simp only [qz, Nat.reduceAdd]
  refine rg_nil (ek_next (wk_seq ?_))
  refine wk_region [0, 0, 0, 1, 0, 0, 1, 0] rfl Kx ?_
  simp only [qy]
  refine rf_field (n := 0) (j := 0) rfl rfl rfl Try.underlying38 rfl Kx rfl ?_
  simp only [qz]
  refine rf_load rfl rfl rfl Try.underlying3 rfl (fun w hw => (Kn.hd0 (Kn.tl (Kn.tl hw))).at rfl) ?_
  simp only [qz]
  apply rg_soft
  case hy => (intro w hw; go_simp; (try go_bits); exact Yld.mk _ _)
  simp only [qz]
  apply rg_retM Rx Kx
  case hargs => exact Ax
  case h => exact fun w hw => made_any N hN (dagF N xs) _ (fun i k c hi hk h => by cases h) w ⟨_, _, _, rfl, by kernel_rfl, fun w' hb vs r ⟨i, k, hi, hk, hv, hr⟩ => by
      subst hv hr
      have h := dag1_any xs a c N hN hlx hox i k g3 hi hk w' ((hA.kn0 hw).below hb) ((Kn.hd0 hw).belowS hb)
      simpa using h⟩
  case hz => exact Nz
  intro va5 vc5 u5 hO5
  simp only [qz]
  refine rf_extract rfl rfl rfl rfl ?_
  simp only [qz]
  refine rf_extract rfl rfl rfl rfl ?_
  simp only [qz]
  refine rf_storeR (n := 2) rfl rfl Kx rfl rfl (UpdR.app _ (UpdR.there _ (UpdR.here _ _ _ Nl))) Nz ?_
  simp only [qz, Nat.reduceAdd]
  refine rg_assign ?_
  simp only [qz]
  refine rg_nil (ek_next (wk_ret ?_))
  refine ek_ret (fun w hw => ⟨rfl, _, run_results2 rfl rfl (Kn.hd0 (Kn.tl (Kn.tlU hw))) Try.underlying38 rfl Kx, ?_⟩)
  (try simp only [qz])
  exact ⟨.slice va5 _ vc5, u5, by rw [hcp.out]; rfl, by rw [hcp.out]; exact hO5, hw.made (List.sublist_append_left _ _)⟩

end Go.Proofs.Ytccbinnlnkpplaa
