/- Rules for single operations over lists of known blocks, without the walk's simp. -/
import Derived.Test.YtccbinnlnkpplaaSh
import Derived.Deep.MidRow
import Derived.Laws.BitsAllLaws
namespace Go.Proofs.Ytccbinnlnkpplaa
set_option linter.all false
open Go.RowKit

section
variable {R : Option Nat} {P : Program} {ops : Array Oper} {Q : Exit → Act → World → Prop} {B : World} {F : List Nat} {s0 : Option (List Blk × List Blk)}
variable {l : List (Oper × Nat)} {a : Act} {s s' : List Blk} {d : Option Tmp} {op : Op} {t : TypeId} {p : String} {af : Array Edge} {v : Value} {gd : Option (Nat × Bool)} {m : Nat}

/-! ### Loops and cuts: the written slots as a function of their numbers -/
def Act.putF (a : Act) (W : List Nat) (f : Nat → Value) : Act := ⟨W.foldl (fun t k => t.setIfInBounds k (f k)) a.tmps, a.defers⟩
def Act.valF (a : Act) : Nat → Value := fun k => a.tmps.getD k undef
section
variable {R : Option Nat} {P : Program} {Q : Exit → Act → World → Prop} {B : World} {F : List Nat} {a : Act} {s : List Blk}
def RelF (W : List Nat) (a0 : Act) (J : Nat → (Nat → Value) → List Blk → Prop) : Nat → Act → List Blk → Prop := fun n a s => ∃ f, a = Act.putF a0 W f ∧ J n f s
theorem wk_loopF {c : Code} (W : List Nat) (J : Nat → (Nat → Value) → List Blk → Prop) (n : Nat) (h0 : J n (Act.valF a) s) (ha : a = Act.putF a W (Act.valF a))
    (round : ∀ n f s, J n f s → Wk R P B F (Exit.then (Rnd B F (RelF W a J) n) Q) (Act.putF a W f) s c) : Wk R P B F Q a s (.loop c) :=
  wk_loop (RelF W a J) n ⟨_, ha, h0⟩ fun n a' s' h => by
    obtain ⟨f, rfl, hJ⟩ := h
    exact round n f s' hJ
theorem ek_roundF {W : List Nat} {a0 : Act} {J : Nat → (Nat → Value) → List Blk → Prop} {n : Nat} (m : Nat) (hm : m < n) (ha : a = Act.putF a0 W (Act.valF a)) (h : J m (Act.valF a) s) :
    Ek B F (Exit.then (Rnd B F (RelF W a0 J) n) Q) .normal a s := ek_round m hm ⟨_, ha, h⟩
def MidF (W : List Nat) (a0 : Act) (J : (Nat → Value) → List Blk → Prop) : Act → List Blk → Prop := fun a s => ∃ f, a = Act.putF a0 W f ∧ J f s
theorem wk_cutF {x y : Code} (W : List Nat) (J : (Nat → Value) → List Blk → Prop) (h1 : Wk R P B F (Exit.then (Mid B F (MidF W a J)) Q) a s x)
    (h2 : ∀ f s, J f s → Wk R P B F Q (Act.putF a W f) s y) : Wk R P B F Q a s (.seq x y) :=
  wk_cut (MidF W a J) h1 fun a' s' h => by
    obtain ⟨f, rfl, hJ⟩ := h
    exact h2 f s' hJ
theorem ek_midF {W : List Nat} {a0 : Act} {J : (Nat → Value) → List Blk → Prop} (ha : a = Act.putF a0 W (Act.valF a)) (h : J (Act.valF a) s) :
    Ek B F (Exit.then (Mid B F (MidF W a0 J)) Q) .normal a s := ek_mid ⟨_, ha, h⟩
end
def bsel (b : Bool) (x y : Value) : Value := match b with
  | true => x
  | false => y
def cellAt (v : Value) (j : Nat) : Value := v.cells.getD j undef
def soft03 (m : Nat) : Bool := m == 0 || decide (3 ≤ m)
/-- An operation that reads no memory. -/
theorem rg_any (hm : soft03 m = true) (hg : Region.wanted ⟨d, op, t, p, af, gd⟩ (yielded ops a.tmps) = true) (hy : ∀ w, Yld ((execOp a.eval ⟨d, op, t, p, af, gd⟩).run P w) v w) (h : Rg R P ops Q B F s0 l (a.put d v) s) :
    Rg R P ops Q B F s0 ((⟨d, op, t, p, af, gd⟩, m) :: l) a s := by
  match m, hm with
  | 0, _ => exact ⟨v, .inl ⟨hg, fun w _ => hy w⟩, h⟩
  | n + 3, _ => exact ⟨v, .inl ⟨hg, fun w _ => hy w⟩, h⟩
/-- What is known when an operation with this mark comes up. -/
def kOf : Nat → Option (List Blk × List Blk) → List Blk → List Blk
  | 0, s0, s => zOf s0 s
  | _ + 1, s0, s => yOf s0 s
/-- An operation that reads memory. -/
theorem rg_read (hm : soft03 m = true) (hg : Region.wanted ⟨d, op, t, p, af, gd⟩ (yielded ops a.tmps) = true) (hy : ∀ w, Kn B F (kOf m s0 s) w → Yld ((execOp a.eval ⟨d, op, t, p, af, gd⟩).run P w) v w) (h : Rg R P ops Q B F s0 l (a.put d v) s) :
    Rg R P ops Q B F s0 ((⟨d, op, t, p, af, gd⟩, m) :: l) a s := by
  match m, hm with
  | 0, _ => exact ⟨v, .inl ⟨hg, hy⟩, h⟩
  | n + 3, _ => exact ⟨v, .inl ⟨hg, hy⟩, h⟩

theorem rf_field {T k : Nat} {x : Operand} {g i j n : Nat} {fs : Array Field} {f : Field} (hm : soft03 m = true) (hg : Region.wanted ⟨d, .fieldAddr T x k, t, p, af, gd⟩ (yielded ops a.tmps) = true)
    (hx : a.eval x = .pointer (some ⟨g, i, none⟩)) (hu : P.underlying T = some (.struct fs)) (hf : fs[k]? = some f) (hs : (P.info? f.type).map (·.size) = some (n + 1)) (hj : i + f.offset = j)
    (h : Rg R P ops Q B F s0 l (a.put d (.pointer (some ⟨g, j, none⟩))) s) : Rg R P ops Q B F s0 ((⟨d, .fieldAddr T x k, t, p, af, gd⟩, m) :: l) a s := by
  refine rg_any hm hg (fun w => ?_) h
  unfold Yld
  cases hq : P.info? f.type with
  | none => simp [hq] at hs
  | some q =>
    have hs' : q.size = n + 1 := by simpa [hq] using hs
    have hne : ¬ q.size = 0 := by omega
    have hadd : (⟨g, i, none⟩ : Addr).add f.offset = ⟨g, j, none⟩ := by rw [Addr.add_mid, hj]
    simp [execOp, hx, Instr.fieldAt, run_underlying hu, hf, Instr.sureAddr, fieldPlace, sizeOf, typeInfo, hq, hs', hadd]
theorem rf_indexA {T : Nat} {x y : Operand} {g i j n len e sz : Nat} {k : IntKind} (hm : soft03 m = true) (hg : Region.wanted ⟨d, .indexAddr T x y, t, p, af, gd⟩ (yielded ops a.tmps) = true)
    (hx : a.eval x = .pointer (some ⟨g, i, none⟩)) (hy : a.eval y = .int k (n : Int)) (hu : P.underlying T = some (.array len e)) (hs : (P.info? e).map (·.size) = some sz) (hn : n < len) (hj : i + n * sz = j)
    (h : Rg R P ops Q B F s0 l (a.put d (.pointer (some ⟨g, j, none⟩))) s) : Rg R P ops Q B F s0 ((⟨d, .indexAddr T x y, t, p, af, gd⟩, m) :: l) a s := by
  refine rg_any hm hg (fun w => ?_) h
  unfold Yld
  cases hq : P.info? e with
  | none => simp [hq] at hs
  | some q =>
    have hs' : q.size = sz := by simpa [hq] using hs
    have hadd : (⟨g, i, none⟩ : Addr).add (n * sz) = ⟨g, j, none⟩ := by rw [Addr.add_mid, hj]
    simp [execOp, hx, hy, Instr.indexAt, run_underlying hu, asIntOf, Instr.sureAddr, sizeOf, typeInfo, hq, hs', hadd, hn]
theorem rf_indexS {T : Nat} {x y : Operand} {g i j n len cap e sz : Nat} {k : IntKind} {z : Int} (hm : soft03 m = true) (hg : Region.wanted ⟨d, .indexAddr T x y, t, p, af, gd⟩ (yielded ops a.tmps) = true)
    (hx : a.eval x = .slice (some ⟨g, i, none⟩) len cap) (hy : a.eval y = .int k z) (hu : P.underlying T = some (.slice e)) (hs : (P.info? e).map (·.size) = some sz) (hz : z = (n : Int)) (hn : n < len) (hj : i + n * sz = j)
    (h : Rg R P ops Q B F s0 l (a.put d (.pointer (some ⟨g, j, none⟩))) s) : Rg R P ops Q B F s0 ((⟨d, .indexAddr T x y, t, p, af, gd⟩, m) :: l) a s := by
  subst hz
  refine rg_any hm hg (fun w => ?_) h
  unfold Yld
  cases hq : P.info? e with
  | none => simp [hq] at hs
  | some q =>
    have hs' : q.size = sz := by simpa [hq] using hs
    have hadd : (⟨g, i, none⟩ : Addr).add (n * sz) = ⟨g, j, none⟩ := by rw [Addr.add_mid, hj]
    simp [execOp, hx, hy, Instr.indexAt, run_underlying hu, asIntOf, sizeOf, typeInfo, hq, hs', hadd, hn]
/-- The first part of a slice. -/
theorem rf_sliceTo {T : Nat} {x y : Operand} {A : Option Addr} {n len cap e sz : Nat} {k : IntKind} {z : Int} (hm : soft03 m = true) (hg : Region.wanted ⟨d, .slice T x none (some y) none, t, p, af, gd⟩ (yielded ops a.tmps) = true)
    (hx : a.eval x = .slice A len cap) (hy : a.eval y = .int k z) (hu : P.underlying T = some (.slice e)) (hs : (P.info? e).map (·.size) = some sz) (hz : z = (n : Int)) (hn : n ≤ cap)
    (h : Rg R P ops Q B F s0 l (a.put d (.slice A n cap)) s) : Rg R P ops Q B F s0 ((⟨d, .slice T x none (some y) none, t, p, af, gd⟩, m) :: l) a s := by
  subst hz
  refine rg_any hm hg (fun w => ?_) h
  unfold Yld
  cases hq : P.info? e with
  | none => simp [hq] at hs
  | some q =>
    have hs' : q.size = sz := by simpa [hq] using hs
    have hb := fun w => run_sliceBound (P := P) w k (n : Int) cap .sliceAcap (by omega) (by omega)
    cases A <;> simp [execOp, hx, hy, Instr.sliceAt, Instr.slice, Instr.sliceBounds, run_underlying hu, sizeOf, typeInfo, hq, hs', hb, Addr.add_mid] <;> (intro h0; simp [Addr.add])
/-- A struct or an array out of its parts; cs: its cells, by the frame. -/
theorem rf_build {T : TypeId} {parts : Array (Nat × Operand)} {cs : Act → Array Value} (hm : soft03 m = true) (hg : Region.wanted ⟨d, .build T parts, t, p, af, gd⟩ (yielded ops a.tmps) = true)
    (hb : P.built T (parts.map fun (i, x) => (i, a.eval x)).toList = some (cs a)) (h : Rg R P ops Q B F s0 l (a.put d (.agg (cs a))) s) : Rg R P ops Q B F s0 ((⟨d, .build T parts, t, p, af, gd⟩, m) :: l) a s := by
  refine rg_any hm hg (fun w => ?_) h
  unfold Yld
  have := run_build w T (parts.map fun (i, x) => (i, a.eval x)) _ hb
  simp only [execOp]
  rw [Sem.run_bind, this]
  rfl
theorem rf_extract {x : Operand} {n : Nat} {vs : Array Value} (hm : soft03 m = true) (hg : Region.wanted ⟨d, .extract x n, t, p, af, gd⟩ (yielded ops a.tmps) = true)
    (hx : a.eval x = .tuple vs) (hv : vs[n]? = some v) (h : Rg R P ops Q B F s0 l (a.put d v) s) : Rg R P ops Q B F s0 ((⟨d, .extract x n, t, p, af, gd⟩, m) :: l) a s := by
  refine rg_any hm hg (fun w => ?_) h
  unfold Yld
  simp [execOp, hx, Instr.extract, hv]
theorem rf_not {x : Operand} {T : TypeId} {b : Bool} (hm : soft03 m = true) (hg : Region.wanted ⟨d, .unOp .not T x, t, p, af, gd⟩ (yielded ops a.tmps) = true)
    (hx : a.eval x = .bool b) (h : Rg R P ops Q B F s0 l (a.put d (.bool (!b))) s) : Rg R P ops Q B F s0 ((⟨d, .unOp .not T x, t, p, af, gd⟩, m) :: l) a s := by
  refine rg_any hm hg (fun w => ?_) h
  unfold Yld
  simp [execOp, hx, Op.unary]
theorem rf_neg {x : Operand} {T : TypeId} {k : IntKind} {n r : Int} (hm : soft03 m = true) (hg : Region.wanted ⟨d, .unOp .neg T x, t, p, af, gd⟩ (yielded ops a.tmps) = true)
    (hx : a.eval x = .int k n) (hr : k.wrap (-n) = r) (h : Rg R P ops Q B F s0 l (a.put d (.int k r)) s) : Rg R P ops Q B F s0 ((⟨d, .unOp .neg T x, t, p, af, gd⟩, m) :: l) a s := by
  refine rg_any hm hg (fun w => ?_) h
  unfold Yld
  simp [execOp, hx, Op.unary, Op.intArith, hr]

theorem wrap_ok {n : Int} (h1 : -9223372036854775808 ≤ n) (h2 : n ≤ 9223372036854775807) : IntKind.i64.wrap n = n := by rw [IntKind.wrap_i64]; omega
theorem wrap_okU {n : Int} (h1 : 0 ≤ n) (h2 : n ≤ 18446744073709551615) : IntKind.u64.wrap n = n := by rw [IntKind.wrap_u64]; omega
theorem rf_add {x y : Operand} {T z : TypeId} {k : IntKind} {n q r : Int} (hm : soft03 m = true) (hg : Region.wanted ⟨d, .binOp .add T x y z, t, p, af, gd⟩ (yielded ops a.tmps) = true)
    (hx : a.eval x = .int k n) (hy : a.eval y = .int k q) (hr : k.wrap (n + q) = r) (h : Rg R P ops Q B F s0 l (a.put d (.int k r)) s) : Rg R P ops Q B F s0 ((⟨d, .binOp .add T x y z, t, p, af, gd⟩, m) :: l) a s := by
  refine rg_any hm hg (fun w => ?_) h
  unfold Yld
  simp [execOp, hx, hy, eqGuard, binOp, Op.intArith, hr]
theorem rf_sub {x y : Operand} {T z : TypeId} {k : IntKind} {n q r : Int} (hm : soft03 m = true) (hg : Region.wanted ⟨d, .binOp .sub T x y z, t, p, af, gd⟩ (yielded ops a.tmps) = true)
    (hx : a.eval x = .int k n) (hy : a.eval y = .int k q) (hr : k.wrap (n - q) = r) (h : Rg R P ops Q B F s0 l (a.put d (.int k r)) s) : Rg R P ops Q B F s0 ((⟨d, .binOp .sub T x y z, t, p, af, gd⟩, m) :: l) a s := by
  refine rg_any hm hg (fun w => ?_) h
  unfold Yld
  simp [execOp, hx, hy, eqGuard, binOp, Op.intArith, hr]
theorem rf_mul {x y : Operand} {T z : TypeId} {k : IntKind} {n q r : Int} (hm : soft03 m = true) (hg : Region.wanted ⟨d, .binOp .mul T x y z, t, p, af, gd⟩ (yielded ops a.tmps) = true)
    (hx : a.eval x = .int k n) (hy : a.eval y = .int k q) (hr : k.wrap (n * q) = r) (h : Rg R P ops Q B F s0 l (a.put d (.int k r)) s) : Rg R P ops Q B F s0 ((⟨d, .binOp .mul T x y z, t, p, af, gd⟩, m) :: l) a s := by
  refine rg_any hm hg (fun w => ?_) h
  unfold Yld
  simp [execOp, hx, hy, eqGuard, binOp, Op.intArith, hr]
theorem rf_conv {x : Operand} {T T' : TypeId} {k k' : IntKind} {dd : TypeDesc} {n r : Int} (hm : soft03 m = true) (hg : Region.wanted ⟨d, .convert T T' x, t, p, af, gd⟩ (yielded ops a.tmps) = true)
    (hx : a.eval x = .int k n) (hu : P.underlying T = some dd) (hu' : P.underlying T' = some (.int k')) (hr : k'.wrap n = r) (h : Rg R P ops Q B F s0 l (a.put d (.int k' r)) s) : Rg R P ops Q B F s0 ((⟨d, .convert T T' x, t, p, af, gd⟩, m) :: l) a s := by
  refine rg_any hm hg (fun w => ?_) h
  have hk : P.intKind T' = k' := by simp [Program.intKind, hu']
  have := run_convert_int (P := P) w T T' k n (by rw [hu]; rfl) (by rw [hk]; exact hu')
  rw [hk, hr] at this
  unfold Yld
  show (convert T T' (a.eval x) >>= fun r => pure (Next.value r)).run P w = _
  rw [hx, Sem.run_bind, this]
  rfl
theorem rf_shr {x y : Operand} {T z : TypeId} {k k' : IntKind} {n q : Int} {c : Nat} (hm : soft03 m = true) (hg : Region.wanted ⟨d, .binOp .shr T x y z, t, p, af, gd⟩ (yielded ops a.tmps) = true)
    (hx : a.eval x = .int k n) (hy : a.eval y = .int k' (c : Int)) (hc : Nat.ble c k.bits = true) (hq : (2 : Int) ^ c = q) (h : Rg R P ops Q B F s0 l (a.put d (.int k (n / q))) s) : Rg R P ops Q B F s0 ((⟨d, .binOp .shr T x y z, t, p, af, gd⟩, m) :: l) a s := by
  refine rg_any hm hg (fun w => ?_) h
  have hc' : c ≤ k.bits := Nat.le_of_ble_eq_true hc
  have hs := shift_shr k k' n (c : Int) (by omega) (by omega)
  unfold Yld
  simp [execOp, hx, hy, eqGuard, binOp, hs, hq]
theorem rf_shl {x y : Operand} {T z : TypeId} {k k' : IntKind} {n q r : Int} {c : Nat} (hm : soft03 m = true) (hg : Region.wanted ⟨d, .binOp .shl T x y z, t, p, af, gd⟩ (yielded ops a.tmps) = true)
    (hx : a.eval x = .int k n) (hy : a.eval y = .int k' (c : Int)) (hc : Nat.ble c k.bits = true) (hq : (2 : Int) ^ c = q) (hr : k.wrap (n * q) = r) (h : Rg R P ops Q B F s0 l (a.put d (.int k r)) s) : Rg R P ops Q B F s0 ((⟨d, .binOp .shl T x y z, t, p, af, gd⟩, m) :: l) a s := by
  refine rg_any hm hg (fun w => ?_) h
  have hc' : c ≤ k.bits := Nat.le_of_ble_eq_true hc
  have hmin : min (c : Int).toNat k.bits = c := by rw [Int.toNat_natCast]; omega
  unfold Yld
  have hneg : ¬ ((c : Int) < 0) := by omega
  simp only [execOp, hx, hy, eqGuard, binOp, Op.shift, hneg, if_false, hmin, hq, hr]
  rfl
theorem rf_lss {x y : Operand} {T z : TypeId} {k : IntKind} {n q : Int} {b : Bool} (hm : soft03 m = true) (hg : Region.wanted ⟨d, .binOp .lss T x y z, t, p, af, gd⟩ (yielded ops a.tmps) = true)
    (hx : a.eval x = .int k n) (hy : a.eval y = .int k q) (hr : decide (n < q) = b) (h : Rg R P ops Q B F s0 l (a.put d (.bool b)) s) : Rg R P ops Q B F s0 ((⟨d, .binOp .lss T x y z, t, p, af, gd⟩, m) :: l) a s := by
  subst hr
  refine rg_any hm hg (fun w => ?_) h
  unfold Yld
  simp [execOp, hx, hy, eqGuard, binOp, Op.intCmp]
theorem rf_leq {x y : Operand} {T z : TypeId} {k : IntKind} {n q : Int} {b : Bool} (hm : soft03 m = true) (hg : Region.wanted ⟨d, .binOp .leq T x y z, t, p, af, gd⟩ (yielded ops a.tmps) = true)
    (hx : a.eval x = .int k n) (hy : a.eval y = .int k q) (hr : decide (n ≤ q) = b) (h : Rg R P ops Q B F s0 l (a.put d (.bool b)) s) : Rg R P ops Q B F s0 ((⟨d, .binOp .leq T x y z, t, p, af, gd⟩, m) :: l) a s := by
  subst hr
  refine rg_any hm hg (fun w => ?_) h
  unfold Yld
  simp [execOp, hx, hy, eqGuard, binOp, Op.intCmp]
theorem rf_gtr {x y : Operand} {T z : TypeId} {k : IntKind} {n q : Int} {b : Bool} (hm : soft03 m = true) (hg : Region.wanted ⟨d, .binOp .gtr T x y z, t, p, af, gd⟩ (yielded ops a.tmps) = true)
    (hx : a.eval x = .int k n) (hy : a.eval y = .int k q) (hr : decide (q < n) = b) (h : Rg R P ops Q B F s0 l (a.put d (.bool b)) s) : Rg R P ops Q B F s0 ((⟨d, .binOp .gtr T x y z, t, p, af, gd⟩, m) :: l) a s := by
  subst hr
  refine rg_any hm hg (fun w => ?_) h
  unfold Yld
  simp [execOp, hx, hy, eqGuard, binOp, Op.intCmp]
theorem rf_geq {x y : Operand} {T z : TypeId} {k : IntKind} {n q : Int} {b : Bool} (hm : soft03 m = true) (hg : Region.wanted ⟨d, .binOp .geq T x y z, t, p, af, gd⟩ (yielded ops a.tmps) = true)
    (hx : a.eval x = .int k n) (hy : a.eval y = .int k q) (hr : decide (q ≤ n) = b) (h : Rg R P ops Q B F s0 l (a.put d (.bool b)) s) : Rg R P ops Q B F s0 ((⟨d, .binOp .geq T x y z, t, p, af, gd⟩, m) :: l) a s := by
  subst hr
  refine rg_any hm hg (fun w => ?_) h
  unfold Yld
  simp [execOp, hx, hy, eqGuard, binOp, Op.intCmp]
theorem rf_eql {x y : Operand} {T z : TypeId} {k : IntKind} {n q : Int} {b : Bool} (hm : soft03 m = true) (hg : Region.wanted ⟨d, .binOp .eql T x y z, t, p, af, gd⟩ (yielded ops a.tmps) = true)
    (hx : a.eval x = .int k n) (hy : a.eval y = .int k q) (hr : decide (n = q) = b) (h : Rg R P ops Q B F s0 l (a.put d (.bool b)) s) : Rg R P ops Q B F s0 ((⟨d, .binOp .eql T x y z, t, p, af, gd⟩, m) :: l) a s := by
  subst hr
  refine rg_any hm hg (fun w => ?_) h
  unfold Yld
  simp [execOp, hx, hy, eqGuard, binOp, Op.intCmp]
  rfl
theorem rf_neq {x y : Operand} {T z : TypeId} {k : IntKind} {n q : Int} {b : Bool} (hm : soft03 m = true) (hg : Region.wanted ⟨d, .binOp .neq T x y z, t, p, af, gd⟩ (yielded ops a.tmps) = true)
    (hx : a.eval x = .int k n) (hy : a.eval y = .int k q) (hr : decide (n ≠ q) = b) (h : Rg R P ops Q B F s0 l (a.put d (.bool b)) s) : Rg R P ops Q B F s0 ((⟨d, .binOp .neq T x y z, t, p, af, gd⟩, m) :: l) a s := by
  subst hr
  refine rg_any hm hg (fun w => ?_) h
  unfold Yld
  by_cases hnq : n = q <;> simp [execOp, hx, hy, eqGuard, binOp, Op.intCmp, hnq]
theorem rfb_lss {x y : Operand} {T z : TypeId} {k : IntKind} {n q : Int} (hm : soft03 m = true) (hg : Region.wanted ⟨d, .binOp .lss T x y z, t, p, af, gd⟩ (yielded ops a.tmps) = true)
    (hx : a.eval x = .int k n) (hy : a.eval y = .int k q) (h : ∀ b, decide (n < q) = b → Rg R P ops Q B F s0 l (a.put d (.bool b)) s) : Rg R P ops Q B F s0 ((⟨d, .binOp .lss T x y z, t, p, af, gd⟩, m) :: l) a s :=
  rf_lss hm hg hx hy rfl (h _ rfl)
theorem rfb_leq {x y : Operand} {T z : TypeId} {k : IntKind} {n q : Int} (hm : soft03 m = true) (hg : Region.wanted ⟨d, .binOp .leq T x y z, t, p, af, gd⟩ (yielded ops a.tmps) = true)
    (hx : a.eval x = .int k n) (hy : a.eval y = .int k q) (h : ∀ b, decide (n ≤ q) = b → Rg R P ops Q B F s0 l (a.put d (.bool b)) s) : Rg R P ops Q B F s0 ((⟨d, .binOp .leq T x y z, t, p, af, gd⟩, m) :: l) a s :=
  rf_leq hm hg hx hy rfl (h _ rfl)
theorem rfb_gtr {x y : Operand} {T z : TypeId} {k : IntKind} {n q : Int} (hm : soft03 m = true) (hg : Region.wanted ⟨d, .binOp .gtr T x y z, t, p, af, gd⟩ (yielded ops a.tmps) = true)
    (hx : a.eval x = .int k n) (hy : a.eval y = .int k q) (h : ∀ b, decide (q < n) = b → Rg R P ops Q B F s0 l (a.put d (.bool b)) s) : Rg R P ops Q B F s0 ((⟨d, .binOp .gtr T x y z, t, p, af, gd⟩, m) :: l) a s :=
  rf_gtr hm hg hx hy rfl (h _ rfl)
theorem rfb_geq {x y : Operand} {T z : TypeId} {k : IntKind} {n q : Int} (hm : soft03 m = true) (hg : Region.wanted ⟨d, .binOp .geq T x y z, t, p, af, gd⟩ (yielded ops a.tmps) = true)
    (hx : a.eval x = .int k n) (hy : a.eval y = .int k q) (h : ∀ b, decide (q ≤ n) = b → Rg R P ops Q B F s0 l (a.put d (.bool b)) s) : Rg R P ops Q B F s0 ((⟨d, .binOp .geq T x y z, t, p, af, gd⟩, m) :: l) a s :=
  rf_geq hm hg hx hy rfl (h _ rfl)
theorem rfb_eql {x y : Operand} {T z : TypeId} {k : IntKind} {n q : Int} (hm : soft03 m = true) (hg : Region.wanted ⟨d, .binOp .eql T x y z, t, p, af, gd⟩ (yielded ops a.tmps) = true)
    (hx : a.eval x = .int k n) (hy : a.eval y = .int k q) (h : ∀ b, decide (n = q) = b → Rg R P ops Q B F s0 l (a.put d (.bool b)) s) : Rg R P ops Q B F s0 ((⟨d, .binOp .eql T x y z, t, p, af, gd⟩, m) :: l) a s :=
  rf_eql hm hg hx hy rfl (h _ rfl)
theorem rfb_neq {x y : Operand} {T z : TypeId} {k : IntKind} {n q : Int} (hm : soft03 m = true) (hg : Region.wanted ⟨d, .binOp .neq T x y z, t, p, af, gd⟩ (yielded ops a.tmps) = true)
    (hx : a.eval x = .int k n) (hy : a.eval y = .int k q) (h : ∀ b, decide (n ≠ q) = b → Rg R P ops Q B F s0 l (a.put d (.bool b)) s) : Rg R P ops Q B F s0 ((⟨d, .binOp .neq T x y z, t, p, af, gd⟩, m) :: l) a s :=
  rf_neq hm hg hx hy rfl (h _ rfl)
theorem rf_pick {x y z : Operand} {b : Bool} (hm : soft03 m = true) (hg : Region.wanted ⟨d, .pick x y z, t, p, af, gd⟩ (yielded ops a.tmps) = true)
    (hx : a.eval x = .bool b) (h : Rg R P ops Q B F s0 l (a.put d (bsel b (a.eval y) (a.eval z))) s) : Rg R P ops Q B F s0 ((⟨d, .pick x y z, t, p, af, gd⟩, m) :: l) a s := by
  refine rg_any hm hg (fun w => ?_) h
  unfold Yld
  cases b <;> simp [execOp, hx, asBool, bsel]
theorem rf_len {x : Operand} {T e : TypeId} {b : Option Addr} {n c : Nat} (hm : soft03 m = true) (hg : Region.wanted ⟨d, .call ⟨.builtin .len, #[x], #[T]⟩, t, p, af, gd⟩ (yielded ops a.tmps) = true)
    (hx : a.eval x = .slice b n c) (hu : P.underlying T = some (.slice e)) (h : Rg R P ops Q B F s0 l (a.put d (.int .i64 n)) s) :
    Rg R P ops Q B F s0 ((⟨d, .call ⟨.builtin .len, #[x], #[T]⟩, t, p, af, gd⟩, m) :: l) a s := by
  refine rg_any hm hg (fun w => ?_) h
  unfold Yld
  have hu' : P.underlying T = some (.slice (P.elem T)) := by rw [hu]; simp [Program.elem, hu]
  have hx1 : execOp a.eval ⟨d, .call ⟨.builtin .len, #[x], #[T]⟩, t, p, af, gd⟩ = (do let d ← resolve a.eval ⟨.builtin .len, #[x], #[T]⟩ t; invoke d.target d.args) := rfl
  rw [hx1]
  simp only [resolve, invoke, builtin, Sem.run_bind, Sem.run_pure, Result.andThen_ok, List.map_toArray, List.map_cons, List.map_nil, hx, run_len_slice w T t b n c hu']
  rfl

/-- A load of one cell. -/
theorem rf_load {x : Operand} {T : TypeId} {g i : Nat} {dd : TypeDesc} (hm : soft03 m = true) (hg : Region.wanted ⟨d, .load T x, t, p, af, gd⟩ (yielded ops a.tmps) = true)
    (hx : a.eval x = .pointer (some ⟨g, i, none⟩)) (hu : P.underlying T = some dd) (hr : isRow dd = false) (hc : ∀ w, Kn B F (kOf m s0 s) w → w.cell? ⟨g, i, none⟩ = some v)
    (h : Rg R P ops Q B F s0 l (a.put d v) s) : Rg R P ops Q B F s0 ((⟨d, .load T x, t, p, af, gd⟩, m) :: l) a s := by
  refine rg_read hm hg (fun w hw => ?_) h
  unfold Yld
  have hagg : (isAgg T).run P w = .ok false w := by
    unfold isAgg
    rw [Sem.run_bind, run_underlying hu w]
    cases dd <;> simp_all [isRow]
  simp [execOp, hx, Instr.loadAt, Instr.sureAddr, loadVar, hagg, run_load, hc w hw]
theorem Hd.at {w : World} {g e i : Nat} {xs : List Value} {v : Value} (hd : Hd w g e xs.toArray) (h : xs[i]? = some v) : w.cell? ⟨g, i, none⟩ = some v := by rw [hd.cell]; simpa using h
theorem cells_range {w : World} {g e : Nat} {cs : Array Value} (hd : Hd w g e cs) (i n : Nat) : w.rangeAt g i ((cs.toList.drop i).take n) := by
  intro j v hj
  rw [hd.cell]
  rw [List.getElem?_take] at hj
  split at hj
  · rw [List.getElem?_drop] at hj
    rw [← Array.getElem?_toList]
    exact hj
  cases hj
/-- A load of a row of cells. -/
theorem rf_loadR {x : Operand} {T : TypeId} {g i n e : Nat} {cs : Array Value} {vs : List Value} {dd : TypeDesc} (hm : soft03 m = true) (hg : Region.wanted ⟨d, .load T x, t, p, af, gd⟩ (yielded ops a.tmps) = true)
    (hx : a.eval x = .pointer (some ⟨g, i, none⟩)) (hu : P.underlying T = some dd) (hr : dd.isRow = true) (hi : (P.info? T).map (·.size) = some n)
    (hc : ∀ w, Kn B F (kOf m s0 s) w → Hd w g e cs) (hv : (cs.toList.drop i).take n = vs) (hn : vs.length = n)
    (h : Rg R P ops Q B F s0 l (a.put d (.agg vs.toArray)) s) : Rg R P ops Q B F s0 ((⟨d, .load T x, t, p, af, gd⟩, m) :: l) a s := by
  refine rg_read hm hg (fun w hw => ?_) h
  have hrange : w.rangeAt g i vs := by rw [← hv]; exact cells_range (hc w hw) i n
  unfold Yld
  simp [execOp, hx, run_loadAt_mid w g i T vs dd hrange hu hr (by rw [hi, hn])]
theorem rf_loadC {x : Operand} {T : TypeId} {g i n : Nat} {vs : List Value} {dd : TypeDesc} (hm : soft03 m = true) (hg : Region.wanted ⟨d, .load T x, t, p, af, gd⟩ (yielded ops a.tmps) = true)
    (hx : a.eval x = .pointer (some ⟨g, i, none⟩)) (hu : P.underlying T = some dd) (hr : dd.isRow = true) (hi : (P.info? T).map (·.size) = some n) (hn : vs.length = n)
    (hc : ∀ w, Kn B F (kOf m s0 s) w → w.rangeAt g i vs)
    (h : Rg R P ops Q B F s0 l (a.put d (.agg vs.toArray)) s) : Rg R P ops Q B F s0 ((⟨d, .load T x, t, p, af, gd⟩, m) :: l) a s := by
  refine rg_read hm hg (fun w hw => ?_) h
  unfold Yld
  simp [execOp, hx, run_loadAt_mid w g i T vs dd (hc w hw) hu hr (by rw [hi, hn])]

/-- Cells from i on are replaced. -/
def setMany : Array Value → Nat → List Value → Array Value
  | cs, _, [] => cs
  | cs, i, v :: vs => setMany (cs.setIfInBounds i v) (i + 1) vs
theorem setMany_size : ∀ (vs : List Value) (cs : Array Value) (i : Nat), (setMany cs i vs).size = cs.size
  | [], _, _ => rfl
  | v :: vs, cs, i => by rw [setMany, setMany_size vs]; simp
inductive UpdR (g i : Nat) (vs : List Value) : List Blk → List Blk → Prop
  | here (t : Nat) (cs : Array Value) (s : List Blk) : i + vs.length ≤ cs.size → UpdR g i vs ((g, .cells cs t) :: s) ((g, .cells (setMany cs i vs) t) :: s)
  | there (b : Blk) {s s' : List Blk} : UpdR g i vs s s' → UpdR g i vs (b :: s) (b :: s')
theorem UpdR.app {g i : Nat} {vs : List Value} {s s' : List Blk} (u : List Blk) (h : UpdR g i vs s s') : UpdR g i vs (u ++ s) (u ++ s') := by
  induction u with
  | nil => exact h
  | cons b u ih => exact .there b ih
theorem UpdR.mem {g i : Nat} {vs : List Value} {s s' : List Blk} (h : UpdR g i vs s s') : ∃ t cs, (g, Obj.cells cs t) ∈ s ∧ i + vs.length ≤ cs.size := by
  induction h with
  | here t cs s hle => exact ⟨t, cs, by simp, hle⟩
  | there b _ ih => obtain ⟨t, cs, h, hle⟩ := ih; exact ⟨t, cs, by simp [h], hle⟩
theorem UpdR.step {g i : Nat} {v : Value} {vs : List Value} {s s' : List Blk} (h : UpdR g i (v :: vs) s s') : ∃ s1, Upd g i v s s1 ∧ UpdR g (i + 1) vs s1 s' := by
  induction h with
  | here t cs s hle => exact ⟨_, Upd.here t cs s, by rw [setMany]; exact UpdR.here _ _ _ (by simp only [List.length_cons] at hle; simp; omega)⟩
  | there b _ ih => obtain ⟨s1, h1, h2⟩ := ih; exact ⟨_, .there b h1, .there b h2⟩
theorem UpdR.nilEq {g i : Nat} {s s' : List Blk} (h : UpdR g i [] s s') : s' = s := by
  induction h with
  | here => rfl
  | there b _ ih => rw [ih]
theorem Kn.putR {g : Nat} : ∀ {vs : List Value} {i : Nat} {s s' : List Blk} {w : World}, UpdR g i vs s s' → Kn B F s w → Kn B F s' (w.setCells g i vs)
  | [], _, _, _, _, h, K => by rw [h.nilEq]; exact K
  | v :: vs, i, s, s', w, h, K => by
    obtain ⟨s1, h1, h2⟩ := h.step
    have := Kn.putR h2 (K.set h1)
    exact this
theorem there_of {w : World} {g i n t : Nat} {cs : Array Value} (hd : Hd w g t cs) (h : i + n ≤ cs.size) : w.there g i n := fun j hj => by
  refine ⟨?_, hd.free _⟩
  rw [hd.cell, Array.getElem?_eq_getElem (by omega)]
  rfl
/-- A store of a row of cells. -/
theorem rf_storeR {x y : Operand} {T : TypeId} {g i n : Nat} {vs : List Value} (hx : a.eval x = .pointer (some ⟨g, i, none⟩)) (hy : a.eval y = .agg vs.toArray) (hi : (P.info? T).map (·.size) = some n) (hn : vs.length = n)
    (h1 : vs.all (·.oneCell') = true) (hu : UpdR g i vs s s') (hz : ∀ z ∈ s0, z.1.Sublist s') (h : Rg R P ops Q B F s0 l (a.put d undef) s') :
    Rg R P ops Q B F s0 ((⟨d, .store T x y, t, p, af, none⟩, 1) :: l) a s := by
  refine rg_store (fun w K => ⟨w.setCells g i vs, ?_, K.putR hu⟩) hz h
  obtain ⟨t, cs, hm, hle⟩ := hu.mem
  have ht : w.there g i vs.toArray.size := there_of (K.hd hm) (by simpa using hle)
  unfold Dne
  have := run_storeAt_mid (P := P) w g i T vs.toArray ht (by rw [hi, ← hn]; simp) (by simpa using h1)
  simp [execOp, hx, hy, this]
theorem rf_storeRM {z : List Blk × List Blk} {x y : Operand} {T : TypeId} {g i n : Nat} {vs : List Value} (hx : a.eval x = .pointer (some ⟨g, i, none⟩)) (hy : a.eval y = .agg vs.toArray) (hi : (P.info? T).map (·.size) = some n) (hn : vs.length = n)
    (h1 : vs.all (·.oneCell') = true) (hu : UpdR g i vs s s') (hz : z.2.Sublist s') (h : Rg R P ops Q B F (some (z.2, z.2)) l (a.put d undef) s') :
    Rg R P ops Q B F (some z) ((⟨d, .store T x y, t, p, af, none⟩, 2) :: l) a s := by
  refine rg_storeM (fun w K => ⟨w.setCells g i vs, ?_, K.putR hu⟩) hz h
  obtain ⟨t, cs, hm, hle⟩ := hu.mem
  have ht : w.there g i vs.toArray.size := there_of (K.hd hm) (by simpa using hle)
  unfold Dne
  have := run_storeAt_mid (P := P) w g i T vs.toArray ht (by rw [hi, ← hn]; simp) (by simpa using h1)
  simp [execOp, hx, hy, this]
theorem run_store1 {x y : Operand} {T : TypeId} {g i : Nat} {w : World} (hx : a.eval x = .pointer (some ⟨g, i, none⟩)) (hy : a.eval y = v) (hi : (P.info? T).map (·.size) = some 1) (h1 : v.oneCell' = true) (hc : v.cells = #[v])
    (ht : w.there g i 1) : (execOp a.eval ⟨d, .store T x y, t, p, af, none⟩).run P w = .ok .skip (w.setCell ⟨g, i, none⟩ v) := by
  obtain ⟨h2, h3⟩ := ht 0 (by omega)
  rw [Nat.add_zero] at h2 h3
  cases hq : P.info? T with
  | none => simp [hq] at hi
  | some q =>
    have hs' : q.size = 1 := by simpa [hq] using hi
    have hst := run_storeCells_cells (P := P) g i [v] 0 w (fun j hj => by simp only [List.length_cons, List.length_nil] at hj; obtain rfl : j = 0 := (by omega); simpa using h2)
      (fun j hj => by simp only [List.length_cons, List.length_nil] at hj; obtain rfl : j = 0 := (by omega); simpa using h3) (fun u hu => by simp only [List.mem_singleton] at hu; subst hu; exact h1)
    simp only [Nat.add_zero] at hst
    simp [execOp, hx, hy, Instr.storeAt, Instr.sureAddr, storeVar, hc, sizeOf, typeInfo, hq, hs', hst]
    rfl
/-- A store of one cell. -/
theorem rf_store {x y : Operand} {T : TypeId} {g i : Nat} (hx : a.eval x = .pointer (some ⟨g, i, none⟩)) (hy : a.eval y = v) (hi : (P.info? T).map (·.size) = some 1)
    (h1 : v.oneCell' = true) (hc : v.cells = #[v]) (hu : UpdR g i [v] s s') (hz : ∀ z ∈ s0, z.1.Sublist s') (h : Rg R P ops Q B F s0 l (a.put d undef) s') :
    Rg R P ops Q B F s0 ((⟨d, .store T x y, t, p, af, none⟩, 1) :: l) a s := by
  refine rg_store (fun w K => ⟨w.setCell ⟨g, i, none⟩ v, ?_, K.putR hu⟩) hz h
  obtain ⟨t, cs, hm, hle⟩ := hu.mem
  exact run_store1 hx hy hi h1 hc (there_of (K.hd hm) hle)
theorem rf_storeM {z : List Blk × List Blk} {x y : Operand} {T : TypeId} {g i : Nat} (hx : a.eval x = .pointer (some ⟨g, i, none⟩)) (hy : a.eval y = v) (hi : (P.info? T).map (·.size) = some 1)
    (h1 : v.oneCell' = true) (hc : v.cells = #[v]) (hu : UpdR g i [v] s s') (hz : z.2.Sublist s') (h : Rg R P ops Q B F (some (z.2, z.2)) l (a.put d undef) s') :
    Rg R P ops Q B F (some z) ((⟨d, .store T x y, t, p, af, none⟩, 2) :: l) a s := by
  refine rg_storeM (fun w K => ⟨w.setCell ⟨g, i, none⟩ v, ?_, K.putR hu⟩) hz h
  obtain ⟨t, cs, hm, hle⟩ := hu.mem
  exact run_store1 hx hy hi h1 hc (there_of (K.hd hm) hle)
end
theorem q9 {α : Type} {xs : List α} : xs.toArray.toList = xs := rfl
theorem q10 {α : Type} {x : α} {xs : List α} {n : Nat} : (x :: xs).drop (n + 1) = xs.drop n := rfl
theorem q11 {α : Type} {xs : List α} : xs.drop 0 = xs := rfl
theorem q12 {α : Type} {x : α} {xs : List α} {n : Nat} : (x :: xs).take (n + 1) = x :: xs.take n := rfl
theorem q13 {α : Type} {xs : List α} : xs.take 0 = [] := rfl
theorem q14 {cs : Array Value} {i : Nat} : setMany cs i [] = cs := rfl
theorem q15 {cs : Array Value} {i : Nat} {v : Value} {vs : List Value} : setMany cs i (v :: vs) = setMany (cs.setIfInBounds i v) (i + 1) vs := rfl
theorem q18 {vs : Array Value} {j : Nat} : cellAt (.agg vs) j = vs.getD j undef := rfl
theorem q16 {a b : Value} : bsel true a b = a := rfl
theorem q17 {a b : Value} : bsel false a b = b := rfl
theorem qn {α : Type} : (∀ (xs : List α) (i : Nat) (a : α), xs.toArray.setIfInBounds i a = (xs.set i a).toArray) ∧ (∀ (x : α) (xs : List α) (a : α), (x :: xs).set 0 a = a :: xs) ∧ (∀ (x : α) (xs : List α) (a : α) (n : Nat), (x :: xs).set (n + 1) a = x :: xs.set n a) ∧ (∀ (xs : Array α) (i : Nat) (d : α), xs.getD i d = xs[i]?.getD d) ∧ (∀ (xs : List α) (i : Nat), xs.toArray[i]? = xs[i]?) ∧ (∀ (x : α) (xs : List α), (x :: xs)[0]? = some x) ∧ (∀ (x : α) (xs : List α) (n : Nat), (x :: xs)[n + 1]? = xs[n]?) ∧ (∀ (x y : α), (some x).getD y = x) ∧ (∀ (xs : List α), xs.toArray.toList = xs) ∧ (∀ (x : α) (xs : List α) (n : Nat), (x :: xs).drop (n + 1) = xs.drop n) ∧ (∀ (xs : List α), xs.drop 0 = xs) ∧ (∀ (x : α) (xs : List α) (n : Nat), (x :: xs).take (n + 1) = x :: xs.take n) ∧ (∀ (xs : List α), xs.take 0 = []) :=
  ⟨fun _ _ _ => List.setIfInBounds_toArray .., fun _ _ _ => rfl, fun _ _ _ _ => rfl, fun _ _ _ => Array.getD_eq_getD_getElem? .., fun _ _ => List.getElem?_toArray .., fun _ _ => rfl, fun _ _ _ => rfl, fun _ _ => rfl, fun _ => rfl, fun _ _ _ => rfl, fun _ => rfl, fun _ _ _ => rfl, fun _ => rfl⟩
theorem qv : (∀ (cs : Array Value) (i : Nat), setMany cs i [] = cs) ∧ (∀ (cs : Array Value) (i : Nat) (v : Value) (vs : List Value), setMany cs i (v :: vs) = setMany (cs.setIfInBounds i v) (i + 1) vs) ∧ (∀ (vs : Array Value) (j : Nat), cellAt (.agg vs) j = vs.getD j undef) ∧ (∀ (a b : Value), bsel true a b = a) ∧ (∀ (a b : Value), bsel false a b = b) ∧ ((!true) = false) ∧ ((!false) = true) :=
  ⟨fun _ _ => rfl, fun _ _ _ _ => rfl, fun _ _ => rfl, fun _ _ => rfl, fun _ _ => rfl, rfl, rfl⟩
theorem qz : (∀ (t : Array Value) (ds : List Deferred) (d : Nat) (v : Value), Act.put ⟨t, ds⟩ (some d) v = ⟨t.setIfInBounds d v, ds⟩) ∧ (∀ (t : Array Value) (ds : List Deferred) (v : Value), Act.put ⟨t, ds⟩ none v = ⟨t, ds⟩) ∧
    (∀ (t : Array Value) (ds : List Deferred) (k : Nat), Act.eval ⟨t, ds⟩ (.tmp k) = t.getD k undef) ∧ (∀ (a : Act) (v : Value), Act.eval a (.const v) = v) ∧ (∀ (a : Act) (g : Nat), Act.eval a (.global g) = .pointer (some ⟨g, 0, none⟩)) ∧ (∀ (a : Act) (f : Nat), Act.eval a (.func f) = .func (.func f) #[] #[]) ∧
    (∀ (xs : List Value) (i : Nat) (a : Value), xs.toArray.setIfInBounds i a = (xs.set i a).toArray) ∧ (∀ (x : Value) (xs : List Value) (a : Value), (x :: xs).set 0 a = a :: xs) ∧ (∀ (x : Value) (xs : List Value) (a : Value) (n : Nat), (x :: xs).set (n + 1) a = x :: xs.set n a) ∧
    (∀ (xs : Array Value) (i : Nat) (d : Value), xs.getD i d = xs[i]?.getD d) ∧ (∀ (xs : List Value) (i : Nat), xs.toArray[i]? = xs[i]?) ∧ (∀ (x : Value) (xs : List Value), (x :: xs)[0]? = some x) ∧ (∀ (x : Value) (xs : List Value) (n : Nat), (x :: xs)[n + 1]? = xs[n]?) ∧ (∀ (x y : Value), (some x).getD y = x) ∧
    (∀ (xs : List Value), xs.toArray.toList = xs) ∧ (∀ (x : Value) (xs : List Value) (n : Nat), (x :: xs).drop (n + 1) = xs.drop n) ∧ (∀ (xs : List Value), xs.drop 0 = xs) ∧ (∀ (x : Value) (xs : List Value) (n : Nat), (x :: xs).take (n + 1) = x :: xs.take n) ∧ (∀ (xs : List Value), xs.take 0 = []) ∧
    (∀ (cs : Array Value) (i : Nat), setMany cs i [] = cs) ∧ (∀ (cs : Array Value) (i : Nat) (v : Value) (vs : List Value), setMany cs i (v :: vs) = setMany (cs.setIfInBounds i v) (i + 1) vs) ∧ (∀ (vs : Array Value) (j : Nat), cellAt (.agg vs) j = vs.getD j undef) ∧ (∀ (a b : Value), bsel true a b = a) ∧ (∀ (a b : Value), bsel false a b = b) ∧ ((!true) = false) ∧ ((!false) = true) :=
  ⟨fun _ _ _ _ => rfl, fun _ _ _ => rfl, fun _ _ _ => rfl, fun _ _ => rfl, fun _ _ => rfl, fun _ _ => rfl, fun _ _ _ => List.setIfInBounds_toArray .., fun _ _ _ => rfl, fun _ _ _ _ => rfl, fun _ _ _ => Array.getD_eq_getD_getElem? .., fun _ _ => List.getElem?_toArray .., fun _ _ => rfl, fun _ _ _ => rfl, fun _ _ => rfl,
    fun _ => rfl, fun _ _ _ => rfl, fun _ => rfl, fun _ _ _ => rfl, fun _ => rfl, fun _ _ => rfl, fun _ _ _ _ => rfl, fun _ _ => rfl, fun _ _ => rfl, fun _ _ => rfl, rfl, rfl⟩
theorem qy : (∀ (x : Oper) (xs : List Oper) (y : Nat) (ys : List Nat), (x :: xs).zip (y :: ys) = (x, y) :: xs.zip ys) ∧ (∀ (xs : List Oper), xs.zip ([] : List Nat) = []) := ⟨fun _ _ _ _ => rfl, fun _ => List.zip_nil_right⟩
theorem qd : (∀ (p : Prop) [Decidable p], (decide p = true) = p) ∧ (∀ (p : Prop) [Decidable p], (decide p = false) ↔ ¬ p) ∧ (∀ a b : Int, (¬ a < b) ↔ b ≤ a) ∧ (∀ a b : Int, (¬ a ≤ b) ↔ b < a) ∧ (∀ a b : Int, ((a == b) = true) ↔ a = b) ∧ (∀ a b : Int, ((a == b) = false) ↔ ¬ a = b) ∧ (∀ a b : Int, ((a != b) = true) ↔ ¬ a = b) ∧ (∀ a b : Int, ((a != b) = false) ↔ a = b) ∧ (∀ b : Bool, ((!b) = true) = (b = false)) ∧ (∀ b : Bool, ((!b) = false) = (b = true)) :=
  ⟨fun p _ => decide_eq_true_eq, fun p _ => decide_eq_false_iff_not, fun _ _ => Int.not_lt, fun _ _ => Int.not_le, fun _ _ => beq_iff_eq, fun _ _ => beq_eq_false_iff_ne, fun _ _ => bne_iff_ne, fun _ _ => bne_eq_false_iff_eq, fun b => by cases b <;> simp, fun b => by cases b <;> simp⟩
end Go.Proofs.Ytccbinnlnkpplaa
