/- Several texts in one. -/
import Derived.Test.YtpbbbfglecbceaaMt3
import Derived.Deep.MidRow
import Derived.Laws.BitsAllLaws
import Derived.Test.YtpbbbfglecbceaaMt1
import Derived.Defers
import Derived.Test.YtpbbbfglecbceaaMt2
/- Rules for single operations over lists of known blocks, without the walk's simp. -/
namespace Go.Proofs.Ytpbbbfglecbceaa
set_option linter.all false
open Go.RowKit

section
variable {R : Option Nat} {P : Program} {ops : Array Oper} {Q : Exit → Act → World → Prop} {B : World} {F : List Nat} {s0 : Option (List Blk × List Blk)}
variable {l : List (Oper × Nat)} {a : Act} {s s' : List Blk} {d : Option Tmp} {op : Op} {t : TypeId} {p : String} {af : Array Edge} {v : Value} {gd : Option (Nat × Bool)} {m : Nat}

/-! ### Loops and cuts: the written slots as a function of their numbers -/
def Act.putF (a : Act) (W : List Nat) (f : Nat → Value) : Act := ⟨W.foldl (fun t k => t.setIfInBounds k (f k)) a.tmps, a.defers⟩
def Act.valF (a : Act) : Nat → Value := fun k => a.tmps.getD k undef
section
variable {R : Option Nat} {P : Program} {Q : Exit → Act → World → Prop} {B : World} {F : List Nat} {a : Act} {s : List Blk}
def RelF (W : List Nat) (a0 : Act) (J : Nat → (Nat → Value) → List Blk → Prop) : Nat → Act → List Blk → Prop := fun n a s => ∃ f, a = Act.putF a0 W f ∧ J n f s
theorem wk_loopF {c : Code} (W : List Nat) (J : Nat → (Nat → Value) → List Blk → Prop) (n : Nat) (h0 : J n (Act.valF a) s) (ha : a = Act.putF a W (Act.valF a))
    (round : ∀ n f s, J n f s → Wk R P B F (Exit.then (Rnd B F (RelF W a J) n) Q) (Act.putF a W f) s c) : Wk R P B F Q a s (.loop c) :=
  wk_loop (RelF W a J) n ⟨_, ha, h0⟩ fun n a' s' h => by
    obtain ⟨f, rfl, hJ⟩ := h
    exact round n f s' hJ
theorem ek_roundF {W : List Nat} {a0 : Act} {J : Nat → (Nat → Value) → List Blk → Prop} {n : Nat} (m : Nat) (hm : m < n) (ha : a = Act.putF a0 W (Act.valF a)) (h : J m (Act.valF a) s) :
    Ek B F (Exit.then (Rnd B F (RelF W a0 J) n) Q) .normal a s := ek_round m hm ⟨_, ha, h⟩
def MidF (W : List Nat) (a0 : Act) (J : (Nat → Value) → List Blk → Prop) : Act → List Blk → Prop := fun a s => ∃ f, a = Act.putF a0 W f ∧ J f s
theorem wk_cutF {x y : Code} (W : List Nat) (J : (Nat → Value) → List Blk → Prop) (h1 : Wk R P B F (Exit.then (Mid B F (MidF W a J)) Q) a s x)
    (h2 : ∀ f s, J f s → Wk R P B F Q (Act.putF a W f) s y) : Wk R P B F Q a s (.seq x y) :=
  wk_cut (MidF W a J) h1 fun a' s' h => by
    obtain ⟨f, rfl, hJ⟩ := h
    exact h2 f s' hJ
theorem ek_midF {W : List Nat} {a0 : Act} {J : (Nat → Value) → List Blk → Prop} (ha : a = Act.putF a0 W (Act.valF a)) (h : J (Act.valF a) s) :
    Ek B F (Exit.then (Mid B F (MidF W a0 J)) Q) .normal a s := ek_mid ⟨_, ha, h⟩
end
def bsel (b : Bool) (x y : Value) : Value := match b with
  | true => x
  | false => y
def cellAt (v : Value) (j : Nat) : Value := v.cells.getD j undef
def soft03 (m : Nat) : Bool := m == 0 || decide (3 ≤ m)
/-- An operation that reads no memory. -/
theorem rg_any (hm : soft03 m = true) (hg : Region.wanted ⟨d, op, t, p, af, gd⟩ (yielded ops a.tmps) = true) (hy : ∀ w, Yld ((execOp a.eval ⟨d, op, t, p, af, gd⟩).run P w) v w) (h : Rg R P ops Q B F s0 l (a.put d v) s) :
    Rg R P ops Q B F s0 ((⟨d, op, t, p, af, gd⟩, m) :: l) a s := by
  match m, hm with
  | 0, _ => exact ⟨v, .inl ⟨hg, fun w _ => hy w⟩, h⟩
  | n + 3, _ => exact ⟨v, .inl ⟨hg, fun w _ => hy w⟩, h⟩
/-- What is known when an operation with this mark comes up. -/
def kOf : Nat → Option (List Blk × List Blk) → List Blk → List Blk
  | 0, s0, s => zOf s0 s
  | _ + 1, s0, s => yOf s0 s
/-- An operation that reads memory. -/
theorem rg_read (hm : soft03 m = true) (hg : Region.wanted ⟨d, op, t, p, af, gd⟩ (yielded ops a.tmps) = true) (hy : ∀ w, Kn B F (kOf m s0 s) w → Yld ((execOp a.eval ⟨d, op, t, p, af, gd⟩).run P w) v w) (h : Rg R P ops Q B F s0 l (a.put d v) s) :
    Rg R P ops Q B F s0 ((⟨d, op, t, p, af, gd⟩, m) :: l) a s := by
  match m, hm with
  | 0, _ => exact ⟨v, .inl ⟨hg, hy⟩, h⟩
  | n + 3, _ => exact ⟨v, .inl ⟨hg, hy⟩, h⟩

theorem rf_field {T k : Nat} {x : Operand} {g i j n : Nat} {fs : Array Field} {f : Field} (hm : soft03 m = true) (hg : Region.wanted ⟨d, .fieldAddr T x k, t, p, af, gd⟩ (yielded ops a.tmps) = true)
    (hx : a.eval x = .pointer (some ⟨g, i, none⟩)) (hu : P.underlying T = some (.struct fs)) (hf : fs[k]? = some f) (hs : (P.info? f.type).map (·.size) = some (n + 1)) (hj : i + f.offset = j)
    (h : Rg R P ops Q B F s0 l (a.put d (.pointer (some ⟨g, j, none⟩))) s) : Rg R P ops Q B F s0 ((⟨d, .fieldAddr T x k, t, p, af, gd⟩, m) :: l) a s := by
  refine rg_any hm hg (fun w => ?_) h
  unfold Yld
  cases hq : P.info? f.type with
  | none => simp [hq] at hs
  | some q =>
    have hs' : q.size = n + 1 := by simpa [hq] using hs
    have hne : ¬ q.size = 0 := by omega
    have hadd : (⟨g, i, none⟩ : Addr).add f.offset = ⟨g, j, none⟩ := by rw [Addr.add_mid, hj]
    simp [execOp, hx, Instr.fieldAt, run_underlying hu, hf, Instr.sureAddr, fieldPlace, sizeOf, typeInfo, hq, hs', hadd]
theorem rf_indexA {T : Nat} {x y : Operand} {g i j n len e sz : Nat} {k : IntKind} (hm : soft03 m = true) (hg : Region.wanted ⟨d, .indexAddr T x y, t, p, af, gd⟩ (yielded ops a.tmps) = true)
    (hx : a.eval x = .pointer (some ⟨g, i, none⟩)) (hy : a.eval y = .int k (n : Int)) (hu : P.underlying T = some (.array len e)) (hs : (P.info? e).map (·.size) = some sz) (hn : n < len) (hj : i + n * sz = j)
    (h : Rg R P ops Q B F s0 l (a.put d (.pointer (some ⟨g, j, none⟩))) s) : Rg R P ops Q B F s0 ((⟨d, .indexAddr T x y, t, p, af, gd⟩, m) :: l) a s := by
  refine rg_any hm hg (fun w => ?_) h
  unfold Yld
  cases hq : P.info? e with
  | none => simp [hq] at hs
  | some q =>
    have hs' : q.size = sz := by simpa [hq] using hs
    have hadd : (⟨g, i, none⟩ : Addr).add (n * sz) = ⟨g, j, none⟩ := by rw [Addr.add_mid, hj]
    simp [execOp, hx, hy, Instr.indexAt, run_underlying hu, asIntOf, Instr.sureAddr, sizeOf, typeInfo, hq, hs', hadd, hn]
theorem rf_indexS {T : Nat} {x y : Operand} {g i j n len cap e sz : Nat} {k : IntKind} {z : Int} (hm : soft03 m = true) (hg : Region.wanted ⟨d, .indexAddr T x y, t, p, af, gd⟩ (yielded ops a.tmps) = true)
    (hx : a.eval x = .slice (some ⟨g, i, none⟩) len cap) (hy : a.eval y = .int k z) (hu : P.underlying T = some (.slice e)) (hs : (P.info? e).map (·.size) = some sz) (hz : z = (n : Int)) (hn : n < len) (hj : i + n * sz = j)
    (h : Rg R P ops Q B F s0 l (a.put d (.pointer (some ⟨g, j, none⟩))) s) : Rg R P ops Q B F s0 ((⟨d, .indexAddr T x y, t, p, af, gd⟩, m) :: l) a s := by
  subst hz
  refine rg_any hm hg (fun w => ?_) h
  unfold Yld
  cases hq : P.info? e with
  | none => simp [hq] at hs
  | some q =>
    have hs' : q.size = sz := by simpa [hq] using hs
    have hadd : (⟨g, i, none⟩ : Addr).add (n * sz) = ⟨g, j, none⟩ := by rw [Addr.add_mid, hj]
    simp [execOp, hx, hy, Instr.indexAt, run_underlying hu, asIntOf, sizeOf, typeInfo, hq, hs', hadd, hn]
/-- A prefix of a slice. -/
theorem rf_sliceTo {T : Nat} {x y : Operand} {A : Option Addr} {n len cap e sz : Nat} {k : IntKind} {z : Int} (hm : soft03 m = true) (hg : Region.wanted ⟨d, .slice T x none (some y) none, t, p, af, gd⟩ (yielded ops a.tmps) = true)
    (hx : a.eval x = .slice A len cap) (hy : a.eval y = .int k z) (hu : P.underlying T = some (.slice e)) (hs : (P.info? e).map (·.size) = some sz) (hz : z = (n : Int)) (hn : n ≤ cap)
    (h : Rg R P ops Q B F s0 l (a.put d (.slice A n cap)) s) : Rg R P ops Q B F s0 ((⟨d, .slice T x none (some y) none, t, p, af, gd⟩, m) :: l) a s := by
  subst hz
  refine rg_any hm hg (fun w => ?_) h
  unfold Yld
  cases hq : P.info? e with
  | none => simp [hq] at hs
  | some q =>
    have hs' : q.size = sz := by simpa [hq] using hs
    have hb := fun w => run_sliceBound (P := P) w k (n : Int) cap .sliceAcap (by omega) (by omega)
    cases A <;> simp [execOp, hx, hy, Instr.sliceAt, Instr.slice, Instr.sliceBounds, run_underlying hu, sizeOf, typeInfo, hq, hs', hb, Addr.add_mid] <;> (intro h0; simp [Addr.add])
/-- A struct or an array out of its parts; cs: its cells, by the frame. -/
theorem rf_build {T : TypeId} {parts : Array (Nat × Operand)} {cs : Act → Array Value} (hm : soft03 m = true) (hg : Region.wanted ⟨d, .build T parts, t, p, af, gd⟩ (yielded ops a.tmps) = true)
    (hb : P.built T (parts.map fun (i, x) => (i, a.eval x)).toList = some (cs a)) (h : Rg R P ops Q B F s0 l (a.put d (.agg (cs a))) s) : Rg R P ops Q B F s0 ((⟨d, .build T parts, t, p, af, gd⟩, m) :: l) a s := by
  refine rg_any hm hg (fun w => ?_) h
  unfold Yld
  have := run_build w T (parts.map fun (i, x) => (i, a.eval x)) _ hb
  simp only [execOp]
  rw [Sem.run_bind, this]
  rfl
theorem rf_extract {x : Operand} {n : Nat} {vs : Array Value} (hm : soft03 m = true) (hg : Region.wanted ⟨d, .extract x n, t, p, af, gd⟩ (yielded ops a.tmps) = true)
    (hx : a.eval x = .tuple vs) (hv : vs[n]? = some v) (h : Rg R P ops Q B F s0 l (a.put d v) s) : Rg R P ops Q B F s0 ((⟨d, .extract x n, t, p, af, gd⟩, m) :: l) a s := by
  refine rg_any hm hg (fun w => ?_) h
  unfold Yld
  simp [execOp, hx, Instr.extract, hv]
theorem rf_not {x : Operand} {T : TypeId} {b : Bool} (hm : soft03 m = true) (hg : Region.wanted ⟨d, .unOp .not T x, t, p, af, gd⟩ (yielded ops a.tmps) = true)
    (hx : a.eval x = .bool b) (h : Rg R P ops Q B F s0 l (a.put d (.bool (!b))) s) : Rg R P ops Q B F s0 ((⟨d, .unOp .not T x, t, p, af, gd⟩, m) :: l) a s := by
  refine rg_any hm hg (fun w => ?_) h
  unfold Yld
  simp [execOp, hx, Op.unary]
theorem rf_neg {x : Operand} {T : TypeId} {k : IntKind} {n r : Int} (hm : soft03 m = true) (hg : Region.wanted ⟨d, .unOp .neg T x, t, p, af, gd⟩ (yielded ops a.tmps) = true)
    (hx : a.eval x = .int k n) (hr : k.wrap (-n) = r) (h : Rg R P ops Q B F s0 l (a.put d (.int k r)) s) : Rg R P ops Q B F s0 ((⟨d, .unOp .neg T x, t, p, af, gd⟩, m) :: l) a s := by
  refine rg_any hm hg (fun w => ?_) h
  unfold Yld
  simp [execOp, hx, Op.unary, Op.intArith, hr]

theorem wrap_ok {n : Int} (h1 : -9223372036854775808 ≤ n) (h2 : n ≤ 9223372036854775807) : IntKind.i64.wrap n = n := by rw [IntKind.wrap_i64]; omega
theorem wrap_okU {n : Int} (h1 : 0 ≤ n) (h2 : n ≤ 18446744073709551615) : IntKind.u64.wrap n = n := by rw [IntKind.wrap_u64]; omega
theorem rf_add {x y : Operand} {T z : TypeId} {k : IntKind} {n q r : Int} (hm : soft03 m = true) (hg : Region.wanted ⟨d, .binOp .add T x y z, t, p, af, gd⟩ (yielded ops a.tmps) = true)
    (hx : a.eval x = .int k n) (hy : a.eval y = .int k q) (hr : k.wrap (n + q) = r) (h : Rg R P ops Q B F s0 l (a.put d (.int k r)) s) : Rg R P ops Q B F s0 ((⟨d, .binOp .add T x y z, t, p, af, gd⟩, m) :: l) a s := by
  refine rg_any hm hg (fun w => ?_) h
  unfold Yld
  simp [execOp, hx, hy, eqGuard, binOp, Op.intArith, hr]
theorem rf_sub {x y : Operand} {T z : TypeId} {k : IntKind} {n q r : Int} (hm : soft03 m = true) (hg : Region.wanted ⟨d, .binOp .sub T x y z, t, p, af, gd⟩ (yielded ops a.tmps) = true)
    (hx : a.eval x = .int k n) (hy : a.eval y = .int k q) (hr : k.wrap (n - q) = r) (h : Rg R P ops Q B F s0 l (a.put d (.int k r)) s) : Rg R P ops Q B F s0 ((⟨d, .binOp .sub T x y z, t, p, af, gd⟩, m) :: l) a s := by
  refine rg_any hm hg (fun w => ?_) h
  unfold Yld
  simp [execOp, hx, hy, eqGuard, binOp, Op.intArith, hr]
theorem rf_mul {x y : Operand} {T z : TypeId} {k : IntKind} {n q r : Int} (hm : soft03 m = true) (hg : Region.wanted ⟨d, .binOp .mul T x y z, t, p, af, gd⟩ (yielded ops a.tmps) = true)
    (hx : a.eval x = .int k n) (hy : a.eval y = .int k q) (hr : k.wrap (n * q) = r) (h : Rg R P ops Q B F s0 l (a.put d (.int k r)) s) : Rg R P ops Q B F s0 ((⟨d, .binOp .mul T x y z, t, p, af, gd⟩, m) :: l) a s := by
  refine rg_any hm hg (fun w => ?_) h
  unfold Yld
  simp [execOp, hx, hy, eqGuard, binOp, Op.intArith, hr]
theorem rf_conv {x : Operand} {T T' : TypeId} {k k' : IntKind} {dd : TypeDesc} {n r : Int} (hm : soft03 m = true) (hg : Region.wanted ⟨d, .convert T T' x, t, p, af, gd⟩ (yielded ops a.tmps) = true)
    (hx : a.eval x = .int k n) (hu : P.underlying T = some dd) (hu' : P.underlying T' = some (.int k')) (hr : k'.wrap n = r) (h : Rg R P ops Q B F s0 l (a.put d (.int k' r)) s) : Rg R P ops Q B F s0 ((⟨d, .convert T T' x, t, p, af, gd⟩, m) :: l) a s := by
  refine rg_any hm hg (fun w => ?_) h
  have hk : P.intKind T' = k' := by simp [Program.intKind, hu']
  have := run_convert_int (P := P) w T T' k n (by rw [hu]; rfl) (by rw [hk]; exact hu')
  rw [hk, hr] at this
  unfold Yld
  show (convert T T' (a.eval x) >>= fun r => pure (Next.value r)).run P w = _
  rw [hx, Sem.run_bind, this]
  rfl
theorem rf_shr {x y : Operand} {T z : TypeId} {k k' : IntKind} {n q : Int} {c : Nat} (hm : soft03 m = true) (hg : Region.wanted ⟨d, .binOp .shr T x y z, t, p, af, gd⟩ (yielded ops a.tmps) = true)
    (hx : a.eval x = .int k n) (hy : a.eval y = .int k' (c : Int)) (hc : Nat.ble c k.bits = true) (hq : (2 : Int) ^ c = q) (h : Rg R P ops Q B F s0 l (a.put d (.int k (n / q))) s) : Rg R P ops Q B F s0 ((⟨d, .binOp .shr T x y z, t, p, af, gd⟩, m) :: l) a s := by
  refine rg_any hm hg (fun w => ?_) h
  have hc' : c ≤ k.bits := Nat.le_of_ble_eq_true hc
  have hs := shift_shr k k' n (c : Int) (by omega) (by omega)
  unfold Yld
  simp [execOp, hx, hy, eqGuard, binOp, hs, hq]
theorem rf_shl {x y : Operand} {T z : TypeId} {k k' : IntKind} {n q r : Int} {c : Nat} (hm : soft03 m = true) (hg : Region.wanted ⟨d, .binOp .shl T x y z, t, p, af, gd⟩ (yielded ops a.tmps) = true)
    (hx : a.eval x = .int k n) (hy : a.eval y = .int k' (c : Int)) (hc : Nat.ble c k.bits = true) (hq : (2 : Int) ^ c = q) (hr : k.wrap (n * q) = r) (h : Rg R P ops Q B F s0 l (a.put d (.int k r)) s) : Rg R P ops Q B F s0 ((⟨d, .binOp .shl T x y z, t, p, af, gd⟩, m) :: l) a s := by
  refine rg_any hm hg (fun w => ?_) h
  have hc' : c ≤ k.bits := Nat.le_of_ble_eq_true hc
  have hmin : min (c : Int).toNat k.bits = c := by rw [Int.toNat_natCast]; omega
  unfold Yld
  have hneg : ¬ ((c : Int) < 0) := by omega
  simp only [execOp, hx, hy, eqGuard, binOp, Op.shift, hneg, if_false, hmin, hq, hr]
  rfl
theorem rf_lss {x y : Operand} {T z : TypeId} {k : IntKind} {n q : Int} {b : Bool} (hm : soft03 m = true) (hg : Region.wanted ⟨d, .binOp .lss T x y z, t, p, af, gd⟩ (yielded ops a.tmps) = true)
    (hx : a.eval x = .int k n) (hy : a.eval y = .int k q) (hr : decide (n < q) = b) (h : Rg R P ops Q B F s0 l (a.put d (.bool b)) s) : Rg R P ops Q B F s0 ((⟨d, .binOp .lss T x y z, t, p, af, gd⟩, m) :: l) a s := by
  subst hr
  refine rg_any hm hg (fun w => ?_) h
  unfold Yld
  simp [execOp, hx, hy, eqGuard, binOp, Op.intCmp]
theorem rf_leq {x y : Operand} {T z : TypeId} {k : IntKind} {n q : Int} {b : Bool} (hm : soft03 m = true) (hg : Region.wanted ⟨d, .binOp .leq T x y z, t, p, af, gd⟩ (yielded ops a.tmps) = true)
    (hx : a.eval x = .int k n) (hy : a.eval y = .int k q) (hr : decide (n ≤ q) = b) (h : Rg R P ops Q B F s0 l (a.put d (.bool b)) s) : Rg R P ops Q B F s0 ((⟨d, .binOp .leq T x y z, t, p, af, gd⟩, m) :: l) a s := by
  subst hr
  refine rg_any hm hg (fun w => ?_) h
  unfold Yld
  simp [execOp, hx, hy, eqGuard, binOp, Op.intCmp]
theorem rf_gtr {x y : Operand} {T z : TypeId} {k : IntKind} {n q : Int} {b : Bool} (hm : soft03 m = true) (hg : Region.wanted ⟨d, .binOp .gtr T x y z, t, p, af, gd⟩ (yielded ops a.tmps) = true)
    (hx : a.eval x = .int k n) (hy : a.eval y = .int k q) (hr : decide (q < n) = b) (h : Rg R P ops Q B F s0 l (a.put d (.bool b)) s) : Rg R P ops Q B F s0 ((⟨d, .binOp .gtr T x y z, t, p, af, gd⟩, m) :: l) a s := by
  subst hr
  refine rg_any hm hg (fun w => ?_) h
  unfold Yld
  simp [execOp, hx, hy, eqGuard, binOp, Op.intCmp]
theorem rf_geq {x y : Operand} {T z : TypeId} {k : IntKind} {n q : Int} {b : Bool} (hm : soft03 m = true) (hg : Region.wanted ⟨d, .binOp .geq T x y z, t, p, af, gd⟩ (yielded ops a.tmps) = true)
    (hx : a.eval x = .int k n) (hy : a.eval y = .int k q) (hr : decide (q ≤ n) = b) (h : Rg R P ops Q B F s0 l (a.put d (.bool b)) s) : Rg R P ops Q B F s0 ((⟨d, .binOp .geq T x y z, t, p, af, gd⟩, m) :: l) a s := by
  subst hr
  refine rg_any hm hg (fun w => ?_) h
  unfold Yld
  simp [execOp, hx, hy, eqGuard, binOp, Op.intCmp]
theorem rf_eql {x y : Operand} {T z : TypeId} {k : IntKind} {n q : Int} {b : Bool} (hm : soft03 m = true) (hg : Region.wanted ⟨d, .binOp .eql T x y z, t, p, af, gd⟩ (yielded ops a.tmps) = true)
    (hx : a.eval x = .int k n) (hy : a.eval y = .int k q) (hr : decide (n = q) = b) (h : Rg R P ops Q B F s0 l (a.put d (.bool b)) s) : Rg R P ops Q B F s0 ((⟨d, .binOp .eql T x y z, t, p, af, gd⟩, m) :: l) a s := by
  subst hr
  refine rg_any hm hg (fun w => ?_) h
  unfold Yld
  simp [execOp, hx, hy, eqGuard, binOp, Op.intCmp]
  rfl
theorem rf_neq {x y : Operand} {T z : TypeId} {k : IntKind} {n q : Int} {b : Bool} (hm : soft03 m = true) (hg : Region.wanted ⟨d, .binOp .neq T x y z, t, p, af, gd⟩ (yielded ops a.tmps) = true)
    (hx : a.eval x = .int k n) (hy : a.eval y = .int k q) (hr : decide (n ≠ q) = b) (h : Rg R P ops Q B F s0 l (a.put d (.bool b)) s) : Rg R P ops Q B F s0 ((⟨d, .binOp .neq T x y z, t, p, af, gd⟩, m) :: l) a s := by
  subst hr
  refine rg_any hm hg (fun w => ?_) h
  unfold Yld
  by_cases hnq : n = q <;> simp [execOp, hx, hy, eqGuard, binOp, Op.intCmp, hnq]
theorem rfb_lss {x y : Operand} {T z : TypeId} {k : IntKind} {n q : Int} (hm : soft03 m = true) (hg : Region.wanted ⟨d, .binOp .lss T x y z, t, p, af, gd⟩ (yielded ops a.tmps) = true)
    (hx : a.eval x = .int k n) (hy : a.eval y = .int k q) (h : ∀ b, decide (n < q) = b → Rg R P ops Q B F s0 l (a.put d (.bool b)) s) : Rg R P ops Q B F s0 ((⟨d, .binOp .lss T x y z, t, p, af, gd⟩, m) :: l) a s :=
  rf_lss hm hg hx hy rfl (h _ rfl)
theorem rfb_leq {x y : Operand} {T z : TypeId} {k : IntKind} {n q : Int} (hm : soft03 m = true) (hg : Region.wanted ⟨d, .binOp .leq T x y z, t, p, af, gd⟩ (yielded ops a.tmps) = true)
    (hx : a.eval x = .int k n) (hy : a.eval y = .int k q) (h : ∀ b, decide (n ≤ q) = b → Rg R P ops Q B F s0 l (a.put d (.bool b)) s) : Rg R P ops Q B F s0 ((⟨d, .binOp .leq T x y z, t, p, af, gd⟩, m) :: l) a s :=
  rf_leq hm hg hx hy rfl (h _ rfl)
theorem rfb_gtr {x y : Operand} {T z : TypeId} {k : IntKind} {n q : Int} (hm : soft03 m = true) (hg : Region.wanted ⟨d, .binOp .gtr T x y z, t, p, af, gd⟩ (yielded ops a.tmps) = true)
    (hx : a.eval x = .int k n) (hy : a.eval y = .int k q) (h : ∀ b, decide (q < n) = b → Rg R P ops Q B F s0 l (a.put d (.bool b)) s) : Rg R P ops Q B F s0 ((⟨d, .binOp .gtr T x y z, t, p, af, gd⟩, m) :: l) a s :=
  rf_gtr hm hg hx hy rfl (h _ rfl)
theorem rfb_geq {x y : Operand} {T z : TypeId} {k : IntKind} {n q : Int} (hm : soft03 m = true) (hg : Region.wanted ⟨d, .binOp .geq T x y z, t, p, af, gd⟩ (yielded ops a.tmps) = true)
    (hx : a.eval x = .int k n) (hy : a.eval y = .int k q) (h : ∀ b, decide (q ≤ n) = b → Rg R P ops Q B F s0 l (a.put d (.bool b)) s) : Rg R P ops Q B F s0 ((⟨d, .binOp .geq T x y z, t, p, af, gd⟩, m) :: l) a s :=
  rf_geq hm hg hx hy rfl (h _ rfl)
theorem rfb_eql {x y : Operand} {T z : TypeId} {k : IntKind} {n q : Int} (hm : soft03 m = true) (hg : Region.wanted ⟨d, .binOp .eql T x y z, t, p, af, gd⟩ (yielded ops a.tmps) = true)
    (hx : a.eval x = .int k n) (hy : a.eval y = .int k q) (h : ∀ b, decide (n = q) = b → Rg R P ops Q B F s0 l (a.put d (.bool b)) s) : Rg R P ops Q B F s0 ((⟨d, .binOp .eql T x y z, t, p, af, gd⟩, m) :: l) a s :=
  rf_eql hm hg hx hy rfl (h _ rfl)
theorem rfb_neq {x y : Operand} {T z : TypeId} {k : IntKind} {n q : Int} (hm : soft03 m = true) (hg : Region.wanted ⟨d, .binOp .neq T x y z, t, p, af, gd⟩ (yielded ops a.tmps) = true)
    (hx : a.eval x = .int k n) (hy : a.eval y = .int k q) (h : ∀ b, decide (n ≠ q) = b → Rg R P ops Q B F s0 l (a.put d (.bool b)) s) : Rg R P ops Q B F s0 ((⟨d, .binOp .neq T x y z, t, p, af, gd⟩, m) :: l) a s :=
  rf_neq hm hg hx hy rfl (h _ rfl)
theorem rf_pick {x y z : Operand} {b : Bool} (hm : soft03 m = true) (hg : Region.wanted ⟨d, .pick x y z, t, p, af, gd⟩ (yielded ops a.tmps) = true)
    (hx : a.eval x = .bool b) (h : Rg R P ops Q B F s0 l (a.put d (bsel b (a.eval y) (a.eval z))) s) : Rg R P ops Q B F s0 ((⟨d, .pick x y z, t, p, af, gd⟩, m) :: l) a s := by
  refine rg_any hm hg (fun w => ?_) h
  unfold Yld
  cases b <;> simp [execOp, hx, asBool, bsel]
theorem rf_len {x : Operand} {T e : TypeId} {b : Option Addr} {n c : Nat} (hm : soft03 m = true) (hg : Region.wanted ⟨d, .call ⟨.builtin .len, #[x], #[T]⟩, t, p, af, gd⟩ (yielded ops a.tmps) = true)
    (hx : a.eval x = .slice b n c) (hu : P.underlying T = some (.slice e)) (h : Rg R P ops Q B F s0 l (a.put d (.int .i64 n)) s) :
    Rg R P ops Q B F s0 ((⟨d, .call ⟨.builtin .len, #[x], #[T]⟩, t, p, af, gd⟩, m) :: l) a s := by
  refine rg_any hm hg (fun w => ?_) h
  unfold Yld
  have hu' : P.underlying T = some (.slice (P.elem T)) := by rw [hu]; simp [Program.elem, hu]
  have hx1 : execOp a.eval ⟨d, .call ⟨.builtin .len, #[x], #[T]⟩, t, p, af, gd⟩ = (do let d ← resolve a.eval ⟨.builtin .len, #[x], #[T]⟩ t; invoke d.target d.args) := rfl
  rw [hx1]
  simp only [resolve, invoke, builtin, Sem.run_bind, Sem.run_pure, Result.andThen_ok, List.map_toArray, List.map_cons, List.map_nil, hx, run_len_slice w T t b n c hu']
  rfl

/-- A load of one cell. -/
theorem rf_load {x : Operand} {T : TypeId} {g i : Nat} {dd : TypeDesc} (hm : soft03 m = true) (hg : Region.wanted ⟨d, .load T x, t, p, af, gd⟩ (yielded ops a.tmps) = true)
    (hx : a.eval x = .pointer (some ⟨g, i, none⟩)) (hu : P.underlying T = some dd) (hr : isRow dd = false) (hc : ∀ w, Kn B F (kOf m s0 s) w → w.cell? ⟨g, i, none⟩ = some v)
    (h : Rg R P ops Q B F s0 l (a.put d v) s) : Rg R P ops Q B F s0 ((⟨d, .load T x, t, p, af, gd⟩, m) :: l) a s := by
  refine rg_read hm hg (fun w hw => ?_) h
  unfold Yld
  have hagg : (isAgg T).run P w = .ok false w := by
    unfold isAgg
    rw [Sem.run_bind, run_underlying hu w]
    cases dd <;> simp_all [isRow]
  simp [execOp, hx, Instr.loadAt, Instr.sureAddr, loadVar, hagg, run_load, hc w hw]
theorem Hd.at {w : World} {g e i : Nat} {xs : List Value} {v : Value} (hd : Hd w g e xs.toArray) (h : xs[i]? = some v) : w.cell? ⟨g, i, none⟩ = some v := by rw [hd.cell]; simpa using h
theorem cells_range {w : World} {g e : Nat} {cs : Array Value} (hd : Hd w g e cs) (i n : Nat) : w.rangeAt g i ((cs.toList.drop i).take n) := by
  intro j v hj
  rw [hd.cell]
  rw [List.getElem?_take] at hj
  split at hj
  · rw [List.getElem?_drop] at hj
    rw [← Array.getElem?_toList]
    exact hj
  · cases hj
/-- A load of a row of cells. -/
theorem rf_loadR {x : Operand} {T : TypeId} {g i n e : Nat} {cs : Array Value} {vs : List Value} {dd : TypeDesc} (hm : soft03 m = true) (hg : Region.wanted ⟨d, .load T x, t, p, af, gd⟩ (yielded ops a.tmps) = true)
    (hx : a.eval x = .pointer (some ⟨g, i, none⟩)) (hu : P.underlying T = some dd) (hr : dd.isRow = true) (hi : (P.info? T).map (·.size) = some n)
    (hc : ∀ w, Kn B F (kOf m s0 s) w → Hd w g e cs) (hv : (cs.toList.drop i).take n = vs) (hn : vs.length = n)
    (h : Rg R P ops Q B F s0 l (a.put d (.agg vs.toArray)) s) : Rg R P ops Q B F s0 ((⟨d, .load T x, t, p, af, gd⟩, m) :: l) a s := by
  refine rg_read hm hg (fun w hw => ?_) h
  have hrange : w.rangeAt g i vs := by rw [← hv]; exact cells_range (hc w hw) i n
  unfold Yld
  simp [execOp, hx, run_loadAt_mid w g i T vs dd hrange hu hr (by rw [hi, hn])]
theorem rf_loadC {x : Operand} {T : TypeId} {g i n : Nat} {vs : List Value} {dd : TypeDesc} (hm : soft03 m = true) (hg : Region.wanted ⟨d, .load T x, t, p, af, gd⟩ (yielded ops a.tmps) = true)
    (hx : a.eval x = .pointer (some ⟨g, i, none⟩)) (hu : P.underlying T = some dd) (hr : dd.isRow = true) (hi : (P.info? T).map (·.size) = some n) (hn : vs.length = n)
    (hc : ∀ w, Kn B F (kOf m s0 s) w → w.rangeAt g i vs)
    (h : Rg R P ops Q B F s0 l (a.put d (.agg vs.toArray)) s) : Rg R P ops Q B F s0 ((⟨d, .load T x, t, p, af, gd⟩, m) :: l) a s := by
  refine rg_read hm hg (fun w hw => ?_) h
  unfold Yld
  simp [execOp, hx, run_loadAt_mid w g i T vs dd (hc w hw) hu hr (by rw [hi, hn])]

/-- Cells from i on are replaced. -/
def setMany : Array Value → Nat → List Value → Array Value
  | cs, _, [] => cs
  | cs, i, v :: vs => setMany (cs.setIfInBounds i v) (i + 1) vs
theorem setMany_size : ∀ (vs : List Value) (cs : Array Value) (i : Nat), (setMany cs i vs).size = cs.size
  | [], _, _ => rfl
  | v :: vs, cs, i => by rw [setMany, setMany_size vs]; simp
inductive UpdR (g i : Nat) (vs : List Value) : List Blk → List Blk → Prop
  | here (t : Nat) (cs : Array Value) (s : List Blk) : i + vs.length ≤ cs.size → UpdR g i vs ((g, .cells cs t) :: s) ((g, .cells (setMany cs i vs) t) :: s)
  | there (b : Blk) {s s' : List Blk} : UpdR g i vs s s' → UpdR g i vs (b :: s) (b :: s')
theorem UpdR.app {g i : Nat} {vs : List Value} {s s' : List Blk} (u : List Blk) (h : UpdR g i vs s s') : UpdR g i vs (u ++ s) (u ++ s') := by
  induction u with
  | nil => exact h
  | cons b u ih => exact .there b ih
theorem UpdR.mem {g i : Nat} {vs : List Value} {s s' : List Blk} (h : UpdR g i vs s s') : ∃ t cs, (g, Obj.cells cs t) ∈ s ∧ i + vs.length ≤ cs.size := by
  induction h with
  | here t cs s hle => exact ⟨t, cs, by simp, hle⟩
  | there b _ ih => obtain ⟨t, cs, h, hle⟩ := ih; exact ⟨t, cs, by simp [h], hle⟩
theorem UpdR.step {g i : Nat} {v : Value} {vs : List Value} {s s' : List Blk} (h : UpdR g i (v :: vs) s s') : ∃ s1, Upd g i v s s1 ∧ UpdR g (i + 1) vs s1 s' := by
  induction h with
  | here t cs s hle => exact ⟨_, Upd.here t cs s, by rw [setMany]; exact UpdR.here _ _ _ (by simp only [List.length_cons] at hle; simp; omega)⟩
  | there b _ ih => obtain ⟨s1, h1, h2⟩ := ih; exact ⟨_, .there b h1, .there b h2⟩
theorem UpdR.nilEq {g i : Nat} {s s' : List Blk} (h : UpdR g i [] s s') : s' = s := by
  induction h with
  | here => rfl
  | there b _ ih => rw [ih]
theorem Kn.putR {g : Nat} : ∀ {vs : List Value} {i : Nat} {s s' : List Blk} {w : World}, UpdR g i vs s s' → Kn B F s w → Kn B F s' (w.setCells g i vs)
  | [], _, _, _, _, h, K => by rw [h.nilEq]; exact K
  | v :: vs, i, s, s', w, h, K => by
    obtain ⟨s1, h1, h2⟩ := h.step
    have := Kn.putR h2 (K.set h1)
    exact this
theorem there_of {w : World} {g i n t : Nat} {cs : Array Value} (hd : Hd w g t cs) (h : i + n ≤ cs.size) : w.there g i n := fun j hj => by
  refine ⟨?_, hd.free _⟩
  rw [hd.cell, Array.getElem?_eq_getElem (by omega)]
  rfl
/-- A store of a row of cells. -/
theorem rf_storeR {x y : Operand} {T : TypeId} {g i n : Nat} {vs : List Value} (hx : a.eval x = .pointer (some ⟨g, i, none⟩)) (hy : a.eval y = .agg vs.toArray) (hi : (P.info? T).map (·.size) = some n) (hn : vs.length = n)
    (h1 : vs.all (·.oneCell') = true) (hu : UpdR g i vs s s') (hz : ∀ z ∈ s0, z.1.Sublist s') (h : Rg R P ops Q B F s0 l (a.put d undef) s') :
    Rg R P ops Q B F s0 ((⟨d, .store T x y, t, p, af, none⟩, 1) :: l) a s := by
  refine rg_store (fun w K => ⟨w.setCells g i vs, ?_, K.putR hu⟩) hz h
  obtain ⟨t, cs, hm, hle⟩ := hu.mem
  have ht : w.there g i vs.toArray.size := there_of (K.hd hm) (by simpa using hle)
  unfold Dne
  have := run_storeAt_mid (P := P) w g i T vs.toArray ht (by rw [hi, ← hn]; simp) (by simpa using h1)
  simp [execOp, hx, hy, this]
theorem rf_storeRM {z : List Blk × List Blk} {x y : Operand} {T : TypeId} {g i n : Nat} {vs : List Value} (hx : a.eval x = .pointer (some ⟨g, i, none⟩)) (hy : a.eval y = .agg vs.toArray) (hi : (P.info? T).map (·.size) = some n) (hn : vs.length = n)
    (h1 : vs.all (·.oneCell') = true) (hu : UpdR g i vs s s') (hz : z.2.Sublist s') (h : Rg R P ops Q B F (some (z.2, z.2)) l (a.put d undef) s') :
    Rg R P ops Q B F (some z) ((⟨d, .store T x y, t, p, af, none⟩, 2) :: l) a s := by
  refine rg_storeM (fun w K => ⟨w.setCells g i vs, ?_, K.putR hu⟩) hz h
  obtain ⟨t, cs, hm, hle⟩ := hu.mem
  have ht : w.there g i vs.toArray.size := there_of (K.hd hm) (by simpa using hle)
  unfold Dne
  have := run_storeAt_mid (P := P) w g i T vs.toArray ht (by rw [hi, ← hn]; simp) (by simpa using h1)
  simp [execOp, hx, hy, this]
theorem run_store1 {x y : Operand} {T : TypeId} {g i : Nat} {w : World} (hx : a.eval x = .pointer (some ⟨g, i, none⟩)) (hy : a.eval y = v) (hi : (P.info? T).map (·.size) = some 1) (h1 : v.oneCell' = true) (hc : v.cells = #[v])
    (ht : w.there g i 1) : (execOp a.eval ⟨d, .store T x y, t, p, af, none⟩).run P w = .ok .skip (w.setCell ⟨g, i, none⟩ v) := by
  obtain ⟨h2, h3⟩ := ht 0 (by omega)
  rw [Nat.add_zero] at h2 h3
  cases hq : P.info? T with
  | none => simp [hq] at hi
  | some q =>
    have hs' : q.size = 1 := by simpa [hq] using hi
    have hst := run_storeCells_cells (P := P) g i [v] 0 w (fun j hj => by simp only [List.length_cons, List.length_nil] at hj; obtain rfl : j = 0 := (by omega); simpa using h2)
      (fun j hj => by simp only [List.length_cons, List.length_nil] at hj; obtain rfl : j = 0 := (by omega); simpa using h3) (fun u hu => by simp only [List.mem_singleton] at hu; subst hu; exact h1)
    simp only [Nat.add_zero] at hst
    simp [execOp, hx, hy, Instr.storeAt, Instr.sureAddr, storeVar, hc, sizeOf, typeInfo, hq, hs', hst]
    rfl
/-- A store of one cell. -/
theorem rf_store {x y : Operand} {T : TypeId} {g i : Nat} (hx : a.eval x = .pointer (some ⟨g, i, none⟩)) (hy : a.eval y = v) (hi : (P.info? T).map (·.size) = some 1)
    (h1 : v.oneCell' = true) (hc : v.cells = #[v]) (hu : UpdR g i [v] s s') (hz : ∀ z ∈ s0, z.1.Sublist s') (h : Rg R P ops Q B F s0 l (a.put d undef) s') :
    Rg R P ops Q B F s0 ((⟨d, .store T x y, t, p, af, none⟩, 1) :: l) a s := by
  refine rg_store (fun w K => ⟨w.setCell ⟨g, i, none⟩ v, ?_, K.putR hu⟩) hz h
  obtain ⟨t, cs, hm, hle⟩ := hu.mem
  exact run_store1 hx hy hi h1 hc (there_of (K.hd hm) hle)
theorem rf_storeM {z : List Blk × List Blk} {x y : Operand} {T : TypeId} {g i : Nat} (hx : a.eval x = .pointer (some ⟨g, i, none⟩)) (hy : a.eval y = v) (hi : (P.info? T).map (·.size) = some 1)
    (h1 : v.oneCell' = true) (hc : v.cells = #[v]) (hu : UpdR g i [v] s s') (hz : z.2.Sublist s') (h : Rg R P ops Q B F (some (z.2, z.2)) l (a.put d undef) s') :
    Rg R P ops Q B F (some z) ((⟨d, .store T x y, t, p, af, none⟩, 2) :: l) a s := by
  refine rg_storeM (fun w K => ⟨w.setCell ⟨g, i, none⟩ v, ?_, K.putR hu⟩) hz h
  obtain ⟨t, cs, hm, hle⟩ := hu.mem
  exact run_store1 hx hy hi h1 hc (there_of (K.hd hm) hle)
end
theorem q9 {α : Type} {xs : List α} : xs.toArray.toList = xs := rfl
theorem q10 {α : Type} {x : α} {xs : List α} {n : Nat} : (x :: xs).drop (n + 1) = xs.drop n := rfl
theorem q11 {α : Type} {xs : List α} : xs.drop 0 = xs := rfl
theorem q12 {α : Type} {x : α} {xs : List α} {n : Nat} : (x :: xs).take (n + 1) = x :: xs.take n := rfl
theorem q13 {α : Type} {xs : List α} : xs.take 0 = [] := rfl
theorem q14 {cs : Array Value} {i : Nat} : setMany cs i [] = cs := rfl
theorem q15 {cs : Array Value} {i : Nat} {v : Value} {vs : List Value} : setMany cs i (v :: vs) = setMany (cs.setIfInBounds i v) (i + 1) vs := rfl
theorem q18 {vs : Array Value} {j : Nat} : cellAt (.agg vs) j = vs.getD j undef := rfl
theorem q16 {a b : Value} : bsel true a b = a := rfl
theorem q17 {a b : Value} : bsel false a b = b := rfl
theorem qn {α : Type} : (∀ (xs : List α) (i : Nat) (a : α), xs.toArray.setIfInBounds i a = (xs.set i a).toArray) ∧ (∀ (x : α) (xs : List α) (a : α), (x :: xs).set 0 a = a :: xs) ∧ (∀ (x : α) (xs : List α) (a : α) (n : Nat), (x :: xs).set (n + 1) a = x :: xs.set n a) ∧ (∀ (xs : Array α) (i : Nat) (d : α), xs.getD i d = xs[i]?.getD d) ∧ (∀ (xs : List α) (i : Nat), xs.toArray[i]? = xs[i]?) ∧ (∀ (x : α) (xs : List α), (x :: xs)[0]? = some x) ∧ (∀ (x : α) (xs : List α) (n : Nat), (x :: xs)[n + 1]? = xs[n]?) ∧ (∀ (x y : α), (some x).getD y = x) ∧ (∀ (xs : List α), xs.toArray.toList = xs) ∧ (∀ (x : α) (xs : List α) (n : Nat), (x :: xs).drop (n + 1) = xs.drop n) ∧ (∀ (xs : List α), xs.drop 0 = xs) ∧ (∀ (x : α) (xs : List α) (n : Nat), (x :: xs).take (n + 1) = x :: xs.take n) ∧ (∀ (xs : List α), xs.take 0 = []) :=
  ⟨fun _ _ _ => List.setIfInBounds_toArray .., fun _ _ _ => rfl, fun _ _ _ _ => rfl, fun _ _ _ => Array.getD_eq_getD_getElem? .., fun _ _ => List.getElem?_toArray .., fun _ _ => rfl, fun _ _ _ => rfl, fun _ _ => rfl, fun _ => rfl, fun _ _ _ => rfl, fun _ => rfl, fun _ _ _ => rfl, fun _ => rfl⟩
theorem qv : (∀ (cs : Array Value) (i : Nat), setMany cs i [] = cs) ∧ (∀ (cs : Array Value) (i : Nat) (v : Value) (vs : List Value), setMany cs i (v :: vs) = setMany (cs.setIfInBounds i v) (i + 1) vs) ∧ (∀ (vs : Array Value) (j : Nat), cellAt (.agg vs) j = vs.getD j undef) ∧ (∀ (a b : Value), bsel true a b = a) ∧ (∀ (a b : Value), bsel false a b = b) ∧ ((!true) = false) ∧ ((!false) = true) :=
  ⟨fun _ _ => rfl, fun _ _ _ _ => rfl, fun _ _ => rfl, fun _ _ => rfl, fun _ _ => rfl, rfl, rfl⟩
end Go.Proofs.Ytpbbbfglecbceaa
/- A region that draws its order, walked along every order, over lists of known blocks. -/
namespace Go.Proofs.Ytpbbbfglecbceaa
set_option linter.all false
open Go.RowKit
section
variable {P : Program} {ops : Array Oper} {Q : Exit → Act → World → Prop} {B : World} {F : List Nat} {z : List Blk} {fuel : Nat} {listed : Array Bool} {a : Act} {s : List Blk}
/-- What remains of the region. -/
def RT (P : Program) (ops : Array Oper) (Q : Exit → Act → World → Prop) (B : World) (F : List Nat) (z : List Blk) (fuel : Nat) (listed : Array Bool) (a : Act) (s : List Blk) : Prop :=
  ∀ w, Kn B F s w → wpT P .any ops Q (Kn B F z) fuel listed a w
/-- The postcondition of one operation. -/
abbrev QT (P : Program) (ops : Array Oper) (Q : Exit → Act → World → Prop) (B : World) (F : List Nat) (z : List Blk) (fuel : Nat) (listed : Array Bool) : Exit → Act → World → Prop :=
  Exit.then (fun a' w' => Kn B F z w' ∧ wpT P .any ops Q (Kn B F z) fuel listed a' w') Q
theorem ek_rt (hz : z.Sublist s) (h : RT P ops Q B F z fuel listed a s) : Ek B F (QT P ops Q B F z fuel listed) .normal a s := fun w K => ⟨K.sub hz, h w K⟩
theorem rt_soft {i : Nat} {o : Oper} (ho : ops[i]? = some o) (hB : (Region.noSelect ops && (Region.free .any ops listed i && (Region.ready .any ops listed).contains i)) = true)
    (hQ : ∀ c d v a w, Q (.panic c) (Act.put a d v) w → Q (.panic c) a w) (hz : z.Sublist s)
    (h : Rg none P ops (QT P ops Q B F z fuel (listed.setIfInBounds i true)) B F (some (z, z)) [(o, 0)] a s) : RT P ops Q B F z (fuel + 1) listed a s := fun w K => by
  obtain ⟨v, hy, hk⟩ := h
  simp only [Bool.and_eq_true] at hB
  exact wpAnyH_take ho hB.1 hB.2.1 hB.2.2 (fun c a w => hQ c _ _ a w) hy (K.sub hz) (hk w K).2
theorem hop_panic {Q1 : Exit → Act → World → Prop} (hq : ∀ c a w, Q1 (.panic c) a w → Q (.panic c) a w) (hq' : LetsOut Q1 → LetsOut Q) {K : Act → World → Prop} {o : Oper} {w : World} (h : hop P ops Q1 K o a w) : hop P ops Q K o a w := by
  unfold hop at *
  split
  · rename_i hw
    rw [if_pos hw] at h
    unfold Oper.wp at *
    generalize (execOp a.eval o).run P w = r at *
    cases r with
    | ok n w' =>
      cases n <;> simp only [Oper.upon] at h ⊢ <;>
        first
          | exact h
          | exact Calls.mono h (fun e w'' he => by cases e <;> first | exact he | exact hq _ _ _ he | exact hq' he)
    | halt x w' => cases x <;> simp only [Oper.upon] at h ⊢ <;> first | exact h | exact hq _ _ _ h | exact hq' h
  · rename_i hw
    rw [if_neg hw] at h
    exact h
theorem rg_one {o : Oper} {listed' : Array Bool} (h : Rg none P ops (QT P ops Q B F z fuel listed') B F (some (z, z)) [(o, 1)] a s) (w : World) (K : Kn B F s w) :
    wpList P ops (Exit.then (fun a' w' => Kn B F z w' ∧ wpT P .any ops Q (Kn B F z) fuel listed' a' w') Q) [o] a w := by
  rcases h with h | ⟨hn, _⟩
  · refine hop_list (hop_mono ?_ (hop_panic (Q1 := QT P ops Q B F z fuel listed') (Q := Q) (fun c a w h => h) (fun ⟨a₀, w₀, h₀⟩ => ⟨a₀, w₀, h₀⟩) (h w K)))
    rintro a' w' ⟨s', K', _, h'⟩
    exact h' w' K'
  · cases hn
theorem rt_hard1 {i : Nat} {o : Oper} (hr : Region.ready .any ops listed = [i]) (ho : ops[i]? = some o)
    (h : Rg none P ops (QT P ops Q B F z fuel (listed.setIfInBounds i true)) B F (some (z, z)) [(o, 1)] a s) : RT P ops Q B F z (fuel + 1) listed a s := fun w K => tr_hard1 hr ho (rg_one h w K)
theorem rt_hard2 {i j : Nat} {o u : Oper} (hr : Region.ready .any ops listed = [i, j]) (ho : ops[i]? = some o) (hu : ops[j]? = some u)
    (h : Rg none P ops (QT P ops Q B F z fuel (listed.setIfInBounds i true)) B F (some (z, z)) [(o, 1)] a s)
    (h' : Rg none P ops (QT P ops Q B F z fuel (listed.setIfInBounds j true)) B F (some (z, z)) [(u, 1)] a s) : RT P ops Q B F z (fuel + 1) listed a s := fun w K => tr_hard2 hr ho hu (rg_one h w K) (rg_one h' w K)
theorem rt_hard3 {i j k : Nat} {o u v : Oper} (hr : Region.ready .any ops listed = [i, j, k]) (ho : ops[i]? = some o) (hu : ops[j]? = some u) (hv : ops[k]? = some v)
    (h : Rg none P ops (QT P ops Q B F z fuel (listed.setIfInBounds i true)) B F (some (z, z)) [(o, 1)] a s)
    (h' : Rg none P ops (QT P ops Q B F z fuel (listed.setIfInBounds j true)) B F (some (z, z)) [(u, 1)] a s)
    (h'' : Rg none P ops (QT P ops Q B F z fuel (listed.setIfInBounds k true)) B F (some (z, z)) [(v, 1)] a s) : RT P ops Q B F z (fuel + 1) listed a s :=
  fun w K => tr_hard3 hr ho hu hv (rg_one h w K) (rg_one h' w K) (rg_one h'' w K)
/-- The same in a function that defers: the temporary of what is taken early is no result's. -/
theorem rt_softD {i : Nat} {o : Oper} (ho : ops[i]? = some o) (hB : (Region.noSelect ops && (Region.free .any ops listed i && (Region.ready .any ops listed).contains i)) = true)
    (hQ : ∀ c v a w, Q (.panic c) (Act.put a o.dst v) w → Q (.panic c) a w) (hz : z.Sublist s)
    (h : Rg none P ops (QT P ops Q B F z fuel (listed.setIfInBounds i true)) B F (some (z, z)) [(o, 0)] a s) : RT P ops Q B F z (fuel + 1) listed a s := fun w K => by
  obtain ⟨v, hy, hk⟩ := h
  simp only [Bool.and_eq_true] at hB
  exact wpAnyH_take ho hB.1 hB.2.1 hB.2.2 (fun c a w => hQ c v a w) hy (K.sub hz) (hk w K).2
theorem ek_perm {e : Exit} {s' : List Blk} (hs : s.Perm s') (h : Ek B F Q e a s') : Ek B F Q e a s := fun w K => h w (K.perm hs)
theorem perm_at {b : Blk} {l r t : List Blk} (h : (l ++ r).Perm t) : (l ++ b :: r).Perm (b :: t) := List.perm_middle.trans (h.cons b)
theorem perm_atU {u l r t : List Blk} (h : (l ++ r).Perm t) : (l ++ (u ++ r)).Perm (u ++ t) :=
  (List.perm_append_comm_assoc l u r).trans (h.append_left u)
theorem rt_nil (hr : (Region.ready .any ops listed).isEmpty = true) (h : Ek B F Q .normal a s) : RT P ops Q B F z 0 listed a s := fun w K => tr_nil hr (h w K)
theorem wk_rt {id : Nat} {l : List Oper} (z : List Blk) (hm : P.follows .mixedOrders = true) (hz : z.Sublist s) (h : RT P l.toArray Q B F z l.length (Array.replicate l.length false) a s) :
    Wk none P B F Q a s (Code.region id l.toArray true) := fun w K => wpIn_wide.2 (wp_region_tr (Kn B F z) hm (by simpa using h w.drew K.drew))
end
end Go.Proofs.Ytpbbbfglecbceaa
/- A region that draws its order inside a function that defers: as Eag, but what an error leaves to the deferred calls may read the results' temporaries. -/
namespace Go.Proofs.Ytpbbbfglecbceaa
set_option linter.all false
open Go.RowKit

section
variable {P : Program} {ops : Array Oper} {Q : Exit → Act → World → Prop} {md : Region.Mode} {S : World → Prop}

/-- What is taken early lies in temporaries from B on. -/
def dstsB (ops : Array Oper) (B : Nat) : List (Nat × Bool) → Bool
  | [] => true
  | (i, true) :: l => (match ops[i]? with
    | some o => (match o.dst with
      | some d => decide (B ≤ d)
      | none => false)
    | none => false) && dstsB ops B l
  | (_, false) :: l => dstsB ops B l

theorem wpAnyH_of_eagD {B : Nat} (hs : Region.noSelect ops = true) (hQ : ∀ c d v a w, B ≤ d → Q (.panic c) (Act.put a (some d) v) w → Q (.panic c) a w) :
    ∀ (l : List (Nat × Bool)) (listed : Array Bool) (a : Act) (w : World), eagB md ops l listed = true → dstsB ops B l = true → S w → wpEag P ops Q S l a w →
      wpAnyH P md ops Q S l.length listed a w
  | [], listed, a, w, hB, _, _, h => ⟨by simpa [eagB] using hB, h⟩
  | (i, true) :: l, listed, a, w, hB, hD, hS, h => by
    simp only [eagB, Bool.and_eq_true] at hB
    obtain ⟨hr, hf, hB'⟩ := hB
    obtain ⟨o, v, ho, hy, hrest⟩ := h
    simp only [dstsB, ho, Bool.and_eq_true] at hD
    obtain ⟨hd, hD'⟩ := hD
    cases hdst : o.dst with
    | none => rw [hdst] at hd; simp at hd
    | some d =>
      rw [hdst] at hd
      refine wpAnyH_take ho hs hf hr (fun c a w h => hQ c d v a w (of_decide_eq_true hd) (by rw [← hdst]; exact h)) hy hS (wpAnyH_of_eagD hs hQ l _ _ _ hB' hD' hS hrest)
  | (i, false) :: l, listed, a, w, hB, hD, hS, h => by
    simp only [eagB, Bool.and_eq_true] at hB
    obtain ⟨hr, hB'⟩ := hB
    have hr' : Region.ready md ops listed = [i] := by
      revert hr
      split
      · rename_i j hj; intro hr; rw [hj]; simp at hr; rw [hr]
      · intro hr; cases hr
    refine wpAnyH_all hr' (by simp) (fun j hj => ?_)
    have hji : j = i := by simpa using hj
    subst hji
    exact wpOp_mono (fun a' w' h' => ⟨h'.1, wpAnyH_of_eagD hs hQ l _ _ _ hB' hD h'.1 h'.2⟩) h

theorem wp_region_eagD {id : Nat} {a : Act} {w : World} {l : List Oper} (S : World → Prop) (B : Nat) (ord : List (Nat × Bool)) (hm : P.follows .mixedOrders = true)
    (hB : (Region.noSelect l.toArray && (decide (ord.length = l.length) && ((ord.all fun p => decide (p.1 < l.length)) && (dstsB l.toArray B ord && eagB .any l.toArray ord (Array.replicate l.length false))))) = true)
    (hQ : ∀ c d v a w, B ≤ d → Q (.panic c) (Act.put a (some d) v) w → Q (.panic c) a w) (hS : S w.drew)
    (h : wpEagL P l.toArray Q S (ord.map fun p => (l.getD p.1 default, p.2)) a w.drew) : (Code.region id l.toArray true).wp P Q a w := by
  simp only [Bool.and_eq_true, decide_eq_true_eq] at hB
  obtain ⟨hs, hl, hi, hD, hB⟩ := hB
  refine wp_region_held (S := S) hm ?_
  have := wpAnyH_of_eagD (md := .any) hs hQ ord _ a w.drew hB hD hS (wpEag_of_L ord a w.drew (by simpa using hi) (by simpa using h))
  rw [hl] at this
  simpa using this
end

/-- What the deferred calls leave depends on the temporaries of the results alone. -/
theorem leaves_tmps {P : Program} {fn : Func} {t t' : Array Value} {R : Ending → World → Prop} (ht : ∀ w, (results fn t').run P w = (results fn t).run P w) :
    ∀ (ds : List Deferred) (u : FrameMode) (w : World), Leaves P fn t R ds u w → Leaves P fn t' R ds u w
  | [], u, w, h => by
    cases u with
    | returning =>
      obtain ⟨v, hv, hr⟩ := h
      exact ⟨v, (ht w).trans hv, hr⟩
    | panicking c => exact h
    | run => exact h
  | d :: ds, u, w, h => by
    obtain ⟨hu, fv, cap, f, args, h1, h2, h3⟩ := h
    refine ⟨hu, fv, cap, f, args, h1, h2, h3.mono ?_⟩
    intro e u' w' he
    cases e with
    | returned x => exact leaves_tmps ht ds _ _ he
    | panicked c => exact leaves_tmps ht ds _ _ he
    | outgrown => exact he
theorem results_cc_put {P : Program} {fn : Func} {k k' ty ty' : Nat} (hres : fn.results = #[.cell k ty, .cell k' ty']) {t : Array Value} {d : Nat} {v : Value} (h : k ≠ d) (h' : k' ≠ d) (w : World) :
    (results fn t).run P w = (results fn (t.setIfInBounds d v)).run P w := by
  simp [results, hres, Array.getElem?_setIfInBounds, h.symm, h'.symm, h, h']
end Go.Proofs.Ytpbbbfglecbceaa
/- What a method leaves that changes one block that was there before. -/
namespace Go.Proofs.Ytpbbbfglecbceaa
set_option linter.all false
open Go.RowKit

/-- All blocks but g are what they were. -/
structure But (g : Nat) (w w' : World) : Prop where
  os : w'.os = w.os
  tape : w'.tape = w.tape
  output : w'.output = w.output
  size : w.heap.size ≤ w'.heap.size
  block : ∀ k, k < w.heap.size → k ≠ g → w'.heap[k]? = w.heap[k]?

theorem But.refl (g : Nat) (w : World) : But g w w := ⟨rfl, rfl, rfl, Nat.le_refl _, fun _ _ _ => rfl⟩
theorem But.trans {g : Nat} {a b c : World} (h : But g a b) (k : But g b c) : But g a c :=
  ⟨k.os.trans h.os, k.tape.trans h.tape, k.output.trans h.output, Nat.le_trans h.size k.size, fun i hi hg => (k.block i (Nat.lt_of_lt_of_le hi h.size) hg).trans (h.block i hi hg)⟩
theorem But.below {g : Nat} {a b c : World} (h : But g a b) (k : Below b.heap.size b c) : But g a c :=
  ⟨k.os.trans h.os, k.tape.trans h.tape, k.output.trans h.output, Nat.le_trans h.size k.size, fun i hi hg => (k.block i (Nat.lt_of_lt_of_le hi h.size)).trans (h.block i hi hg)⟩
theorem But.drew {g : Nat} {a w : World} (h : But g a w) : But g a w.drew := ⟨h.os, h.tape, h.output, h.size, h.block⟩
theorem But.alloc {g : Nat} {a w : World} (h : But g a w) (o : Obj) : But g a (w.alloc o) :=
  h.below ((Below.refl _ w).alloc (Nat.le_refl _) o)
theorem But.set {g : Nat} {a w : World} (h : But g a w) {p : Addr} (hp : p.block = g ∨ a.heap.size ≤ p.block) (u : Value) : But g a (w.setCell p u) :=
  ⟨h.os, h.tape, h.output, by rw [World.size_setCell]; exact h.size, fun k hk hg => (Below.heap_setCell w p u k (by omega)).trans (h.block k hk hg)⟩
theorem Hd.but {w w' : World} {g a t : Nat} {cs : Array Value} (h : Hd w a t cs) (hb : But g w w') (hne : a ≠ g) : Hd w' a t cs := (hb.block a h.lt hne).trans h
/-- Where g is no older than B, what lies below B is kept. -/
theorem But.far {B g : Nat} {a w w' : World} (hw : Below B a w) (h : But g w w') (hg : B ≤ g) (hB : B ≤ w.heap.size) : Below B a w' :=
  ⟨h.os.trans hw.os, h.tape.trans hw.tape, h.output.trans hw.output, Nat.le_trans hw.size h.size, fun k hk => (h.block k (by omega) (by omega)).trans (hw.block k hk)⟩
theorem butx {P : Prop} (h : P := by (with_reducible repeat' (first | assumption | exact But.refl _ _ | apply But.drew | apply But.alloc | (refine But.set ?_ ?hp _; case hp => first | (simp; done) | (simp; omega))))) : P := h
end Go.Proofs.Ytpbbbfglecbceaa
/- Rules over lists of known blocks for functions that defer, for calls that may panic and for calls that change one block. -/
namespace Go.Proofs.Ytpbbbfglecbceaa
set_option linter.all false
open Go.RowKit

section
variable {P : Program} {ops : Array Oper} {Q : Exit → Act → World → Prop} {B : World} {F : List Nat}

theorem hop_inN {K : Act → World → Prop} {o : Oper} {l : List Oper} {a : Act} {w : World} (h : hop P ops Q K o a w) (hK : ∀ a w, K a w → wpListIn (FR none) 0 P ops Q l a w) :
    wpListIn (FR none) 0 P ops Q (o :: l) a w := by
  unfold hop at h
  unfold wpListIn
  split
  · rename_i hw
    rw [if_pos hw] at h
    refine ⟨fun _ _ => trivial, ?_⟩
    have hsem : o.semAt (FR none).round a.eval = execOp a.eval o := rfl
    rw [hsem]
    unfold Oper.wp at h
    generalize (execOp a.eval o).run P w = r at *
    cases r with
    | ok n w' =>
      cases n <;> simp only [Oper.upon, Oper.uponIn] at h ⊢ <;>
        first
          | exact hK _ _ h
          | exact ⟨(fun hh => nomatch hh), calls_FR (h.mono fun e w'' he => by cases e <;> first | exact hK _ _ he | exact he)⟩
          | exact ⟨(fun hh => nomatch hh), rows_FR (h.mono fun _ _ he => hK _ _ he)⟩
    | halt x w' => cases x <;> simp only [Oper.upon, Oper.uponIn] at h ⊢ <;> exact h
  · rename_i hw
    rw [if_neg hw] at h
    exact ⟨fun _ _ => trivial, hK _ _ h⟩
theorem hopR_inN {K : Act → World → Prop} {o : Oper} {l : List Oper} {a : Act} {w : World} (h : hopR none P ops Q K o a w) (hK : ∀ a w, K a w → wpListIn (FR none) 0 P ops Q l a w) :
    wpListIn (FR none) 0 P ops Q (o :: l) a w := by
  obtain ⟨hw, h⟩ := h
  unfold wpListIn
  rw [if_pos hw]
  refine ⟨fun _ _ => trivial, ?_⟩
  have hsem : o.semAt (FR none).round a.eval = execOp a.eval o := rfl
  rw [hsem]
  generalize (execOp a.eval o).run P w = r at *
  cases r with
  | ok n w' =>
    cases n <;> simp only [Oper.uponIn] at h ⊢ <;>
      first
        | exact hK _ _ h
        | exact h
        | exact ⟨h.1, h.2.mono fun e w'' he => by cases e <;> first | exact hK _ _ he | exact he⟩
        | exact ⟨h.1, h.2.mono fun _ _ he => hK _ _ he⟩
  | halt x w' => cases x <;> simp only [Oper.uponIn] at h ⊢ <;> exact h

theorem rg_textN : ∀ (l : List (Oper × Nat)) (a : Act) (s : List Blk), Rg none P ops Q B F none l a s → ∀ w, Kn B F s w → wpListIn (FR none) 0 P ops Q (l.map (·.1)) a w
  | [], _, _, h, w, K => h w K
  | (o, 0) :: l, a, s, ⟨v, hy, h⟩, w, K => by
    simp only [List.map_cons]
    refine hop_inN (K := fun a' w' => a' = a.put o.dst v ∧ w' = w) ?_ (fun a' w' ⟨ha, hw⟩ => by subst ha hw; exact rg_textN l _ s h _ K)
    unfold hop
    rcases hy with ⟨hw, hv⟩ | ⟨hw, rfl⟩
    · rw [if_pos hw]; unfold Oper.wp; rw [hv w K]; exact ⟨rfl, rfl⟩
    · rw [if_neg (by simp [hw])]; exact ⟨rfl, rfl⟩
  | (o, 1) :: l, a, s, h, w, K => by
    simp only [List.map_cons]
    rcases h with h | ⟨_, h⟩
    · exact hop_inN (h w K) (fun a' w' ⟨s', K', _, h'⟩ => rg_textN l a' s' h' w' K')
    · exact hopR_inN (h w K) (fun a' w' ⟨s', K', h'⟩ => rg_textN l a' s' h' w' K')
  | (o, 2) :: l, a, s, h, w, K => by obtain ⟨z, hz, _⟩ := h; cases hz
  | (o, n + 3) :: l, a, s, ⟨v, hy, h⟩, w, K => by
    simp only [List.map_cons]
    refine hop_inN (K := fun a' w' => a' = a.put o.dst v ∧ w' = w) ?_ (fun a' w' ⟨ha, hw⟩ => by subst ha hw; exact rg_textN l _ s h _ K)
    unfold hop
    rcases hy with ⟨hw, hv⟩ | ⟨hw, rfl⟩
    · rw [if_pos hw]; unfold Oper.wp; rw [hv w K]; exact ⟨rfl, rfl⟩
    · rw [if_neg (by simp [hw])]; exact ⟨rfl, rfl⟩

/-- A region in the order of the text that may defer. -/
theorem wk_regionN {id : Nat} {a : Act} {s : List Blk} {l : List Oper} (f : List Nat) (hf : f.length = l.length)
    (h : Rg none P l.toArray Q B F none (l.zip f) a s) : Wk none P B F Q a s (Code.region id l.toArray false) := fun w K =>
  wpIn_region_lit (by have := rg_textN (l.zip f) a s h w K; rwa [List.map_fst_zip (by omega)] at this)

theorem rg_eagL {z : List Blk} : ∀ (l : List (Oper × Nat)) (a : Act) (s : List Blk), (l.all fun p => decide (p.2 ≤ 1)) = true → Rg none P ops Q B F (some (z, z)) l a s → ∀ w, Kn B F s w →
    wpEagL P ops Q (Kn B F z) (l.map fun p => (p.1, p.2 == 0)) a w
  | [], _, _, _, h, w, K => h w K
  | (o, 0) :: l, a, s, hd, ⟨v, hy, h⟩, w, K => by
    have hd2 : (l.all fun p => decide (p.2 ≤ 1)) = true := by simp only [List.all_cons, Bool.and_eq_true] at hd; exact hd.2
    exact ⟨v, hy, rg_eagL l _ s hd2 h w K⟩
  | (o, 1) :: l, a, s, hd, h, w, K => by
    have hd2 : (l.all fun p => decide (p.2 ≤ 1)) = true := by simp only [List.all_cons, Bool.and_eq_true] at hd; exact hd.2
    rcases h with h | ⟨hn, _⟩
    · exact hop_list (hop_mono (fun a' w' ⟨s', K', hz, h'⟩ => ⟨K'.sub (hz (z, z) rfl), rg_eagL l a' s' hd2 h' w' K'⟩) (h w K))
    · cases hn
  | (o, n + 2) :: l, a, s, hd, h, w, K => by simp at hd

/-- A region that draws its order, in a function that defers: what is taken early lies in temporaries from b on. -/
theorem wk_drawsD {id : Nat} {a : Act} {s : List Blk} {l : List Oper} (z : List Blk) (b : Nat) (ord : List (Nat × Nat)) (hm : P.follows .mixedOrders = true)
    (hB : ((ord.all fun p => decide (p.2 ≤ 1)) && (Region.noSelect l.toArray && (decide ((ord.map fun p => (p.1, p.2 == 0)).length = l.length) && (((ord.map fun p => (p.1, p.2 == 0)).all fun p => decide (p.1 < l.length)) && (dstsB l.toArray b (ord.map fun p => (p.1, p.2 == 0)) && eagB .any l.toArray (ord.map fun p => (p.1, p.2 == 0)) (Array.replicate l.length false)))))) = true)
    (hQ : ∀ c d v a w, b ≤ d → Q (.panic c) (Act.put a (some d) v) w → Q (.panic c) a w) (hz : z.Sublist s)
    (h : Rg none P l.toArray Q B F (some (z, z)) (ord.map fun p => (l.getD p.1 default, p.2)) a s) : Wk none P B F Q a s (Code.region id l.toArray true) := fun w K => by
  simp only [Bool.and_eq_true] at hB
  obtain ⟨h1, h2⟩ := hB
  refine wpIn_wide.2 (wp_region_eagD (Kn B F z) b (ord.map fun p => (p.1, p.2 == 0)) hm (by simpa only [Bool.and_eq_true] using h2) hQ (K.drew.sub hz) ?_)
  have := rg_eagL (ord.map fun p => (l.getD p.1 default, p.2)) a s (by rw [List.all_map]; exact h1) h w.drew K.drew
  rw [List.map_map] at this ⊢
  exact this

section
variable {l : List (Oper × Nat)} {a : Act} {s s' : List Blk} {d : Option Tmp} {op : Op} {t : TypeId} {p : String} {af : Array Edge} {v : Value} {s0 : Option (List Blk × List Blk)}
/-- A call is deferred. -/
theorem rg_defer {c : Call} {df : Deferred} (hr : ∀ w, (execOp a.eval ⟨d, .defer c, t, p, af, none⟩).run P w = .ok (.defer df) w) (hz : ∀ z ∈ s0, z.1.Sublist s)
    (h : Rg none P ops Q B F s0 l (({ a with defers := df :: a.defers } : Act).put d undef) s) : Rg none P ops Q B F s0 ((⟨d, .defer c, t, p, af, none⟩, 1) :: l) a s := by
  refine .inl fun w K => ?_
  unfold hop
  rw [if_pos (by simp [Region.wanted])]
  unfold Oper.wp
  rw [hr w]
  exact ⟨s, K, hz, h⟩

/-- A call that returns, or panics. -/
theorem rg_try {f : Nat} {cargs : Array Operand} {at_ : Array TypeId} {args : Array Value} {gd : Option (Nat × Bool)} {X : Value → Prop} {Y : List PanicEntry → Prop}
    (hg : Region.wanted ⟨d, .call ⟨.value (.func f), cargs, at_⟩, t, p, af, gd⟩ (yielded ops a.tmps) = true) (hgo : isGo P f = true) (hargs : cargs.map a.eval = args)
    (h : ∀ w, Kn B F s w → Calls P f args w (fun e w' => Below w.heap.size w w' ∧ ((∃ v, X v ∧ e = .returned v) ∨ (∃ c, Y c ∧ e = .panicked c)))) (hz : ∀ z ∈ s0, z.1.Sublist s)
    (ke : ∀ c, Y c → Ek B F Q (.panic c) a s) (k : ∀ v, X v → Rg none P ops Q B F s0 l (a.put d v) s) :
    Rg none P ops Q B F s0 ((⟨d, .call ⟨.value (.func f), cargs, at_⟩, t, p, af, gd⟩, 1) :: l) a s := by
  refine .inl fun w K => ?_
  unfold hop
  rw [if_pos hg]
  unfold Oper.wp
  have hr : (execOp a.eval ⟨d, .call ⟨.value (.func f), cargs, at_⟩, t, p, af, gd⟩).run P w = .ok (.enter f args) w := by
    have he : #[] ++ cargs.map a.eval ++ #[] = args := by simpa using hargs
    rw [execOp_call_go, he]
    exact run_callFunc_go hgo args w
  rw [hr]
  refine (h w K).mono fun e w' ⟨hb, he⟩ => ?_
  rcases he with ⟨v, hv, rfl⟩ | ⟨c, hc, rfl⟩
  · exact ⟨s, K.call hb, hz, k v hv⟩
  · exact ke c hc w' (K.call hb)
end

/-- A call that returns, or panics with its error. -/
theorem rg_post {l : List (Oper × Nat)} {a : Act} {s : List Blk} {d : Option Tmp} {t : TypeId} {p : String} {af : Array Edge} {s0 : Option (List Blk × List Blk)} {P : Program} {f : Nat} {cargs : Array Operand} {at_ : Array TypeId} {args : Array Value} {gd : Option (Nat × Bool)} {α : Type} {fv : α → Value} {r : En.R α}
    (hg : Region.wanted ⟨d, .call ⟨.value (.func f), cargs, at_⟩, t, p, af, gd⟩ (yielded ops a.tmps) = true) (hgo : isGo P f = true) (hargs : cargs.map a.eval = args)
    (h : ∀ w, Kn B F s w → Calls P f args w (Post fv r w)) (hz : ∀ z ∈ s0, z.1.Sublist s)
    (ke : ∀ c, r = .error c → Ek B F Q (.panic (nonev c)) a s) (k : ∀ v, r = .ok v → Rg none P ops Q B F s0 l (a.put d (fv v)) s) :
    Rg none P ops Q B F s0 ((⟨d, .call ⟨.value (.func f), cargs, at_⟩, t, p, af, gd⟩, 1) :: l) a s := by
  refine rg_try (X := fun v => ∃ x, r = .ok x ∧ v = fv x) (Y := fun c => ∃ x, r = .error x ∧ c = nonev x) hg hgo hargs (fun w K => (h w K).mono fun e w' hp => ?_) hz ?_ ?_
  · obtain ⟨hb, hc⟩ := hp.cases
    refine ⟨hb, ?_⟩
    rcases hc with ⟨x, h1, h2⟩ | ⟨c, h1, h2⟩
    · exact .inl ⟨_, ⟨x, h1, rfl⟩, h2⟩
    · exact .inr ⟨_, ⟨c, h1, rfl⟩, h2⟩
  · rintro c ⟨x, h1, rfl⟩; exact ke x h1
  · rintro v ⟨x, h1, rfl⟩; exact k x h1
theorem Kn.start2 {w : World} {g g' t t' : Nat} {cs cs' : Array Value} (h : Hd w g t cs) (h' : Hd w g' t' cs') (hne : g ≠ g') : Kn w [g, g'] [(g, .cells cs t), (g', .cells cs' t')] w :=
  ⟨rfl, rfl, rfl, Nat.le_refl _, fun _ _ _ => rfl, (fun b hb => by simp at hb; rcases hb with rfl | rfl; exact h; exact h'), (fun b hb => by simp at hb; rcases hb with rfl | rfl <;> simp), by simpa using hne⟩
theorem Kn.far {A B w' : World} {F : List Nat} {s : List Blk} {n : Nat} (hw : Below n A B) (K : Kn B F s w') (hF : ∀ k ∈ F, n ≤ k) (hn : n ≤ B.heap.size) : Below n A w' :=
  ⟨K.os.trans hw.os, K.tape.trans hw.tape, K.output.trans hw.output, Nat.le_trans hw.size K.size, fun k hk => (K.old k (by omega) (fun hm => by have := hF k hm; omega)).trans (hw.block k hk)⟩

/-- A call that changes one block of the list. -/
theorem Kn.butR {s s' : List Blk} {g : Nat} {o o' : Obj} {w w' : World} (K : Kn B F s w) (hb : But g w w') (ho : w'.heap[g]? = some o') (hr : Rep g o o' s s') : Kn B F s' w' := by
  have hsp := hr.spec K.nodup
  have hg := K.new _ hr.mem
  refine ⟨hb.os.trans K.os, hb.tape.trans K.tape, hb.output.trans K.output, Nat.le_trans K.size hb.size, ?_, ?_, ?_, by rw [hr.names]; exact K.nodup⟩
  · intro k hk hF
    refine (hb.block k (Nat.lt_of_lt_of_le hk K.size) fun e => ?_).trans (K.old k hk hF)
    subst e
    rcases hg with hg | hg
    · exact hF hg
    · simp at hg; omega
  · intro b hb'
    rcases hsp b hb' with ⟨h1, h2⟩ | rfl
    · exact (hb.block b.1 (K.lt h1) h2).trans (K.own b h1)
    · exact ho
  · intro b hb'
    rcases hsp b hb' with ⟨h1, _⟩ | rfl
    · exact K.new b h1
    · exact hg
section
variable {l : List (Oper × Nat)} {a : Act} {s : List Blk} {d : Option Tmp} {t : TypeId} {p : String} {af : Array Edge} {s0 : Option (List Blk × List Blk)} {R : Option Nat}
theorem rg_but {f g : Nat} {o : Obj} {cargs : Array Operand} {at_ : Array TypeId} {args : Array Value} {gd : Option (Nat × Bool)} {α : Type} {T : α → Value → Obj → Prop}
    (hg : Region.wanted ⟨d, .call ⟨.value (.func f), cargs, at_⟩, t, p, af, gd⟩ (yielded ops a.tmps) = true) (hgo : isGo P f = true) (hargs : cargs.map a.eval = args)
    (h : ∀ w, Kn B F s w → Calls P f args w (fun e w' => ∃ x v o', e = .returned v ∧ T x v o' ∧ w'.heap[g]? = some o' ∧ But g w w'))
    (k : ∀ x v o', T x v o' → ∃ s', Rep g o o' s s' ∧ (∀ z ∈ s0, z.1.Sublist s') ∧ Rg R P ops Q B F s0 l (a.put d v) s') :
    Rg R P ops Q B F s0 ((⟨d, .call ⟨.value (.func f), cargs, at_⟩, t, p, af, gd⟩, 1) :: l) a s := by
  refine rg_call hg hgo hargs fun w K => (h w K).mono fun e w' ⟨x, v, o', he, hT, ho, hb⟩ => ?_
  obtain ⟨s', hr, hz, hk⟩ := k x v o' hT
  exact ⟨v, s', he, K.butR hb ho hr, hz, hk⟩
end
end
end Go.Proofs.Ytpbbbfglecbceaa
/- Arguments that are spans or two-ports. -/
namespace Go.Proofs.Ytpbbbfglecbceaa
set_option linter.all false
open Go.ChangeShapes Go.WideShapes Go.ChangeAt Go.RowKit

theorem cells_list {cs : Array Value} {n : Nat} (h : cs.size = n) (k : ∀ (i : Nat) (v : Value), cs[i]? = some v → ∃ m : Int, v = Value.int .i64 m) : ∃ l : List Int, l.length = n ∧ cs = (l.map (Value.int .i64)).toArray := by
  have g : ∀ v, v ∈ cs.toList → ∃ m : Int, v = Value.int .i64 m := fun v hv => by
    obtain ⟨i, hi, rfl⟩ := List.getElem_of_mem hv
    exact k i cs.toList[i] (by rw [← Array.getElem?_toList]; exact List.getElem?_eq_getElem hi)
  have : ∀ (vs : List Value), (∀ v, v ∈ vs → ∃ m : Int, v = Value.int .i64 m) → ∃ l : List Int, vs = l.map (Value.int .i64)
  := by
    intro vs
    induction vs with
    | nil => intro _; exact ⟨[], rfl⟩
    | cons v vs ih =>
      intro h
      obtain ⟨m, rfl⟩ := h v (by simp)
      obtain ⟨l, rfl⟩ := ih (fun u hu => h u (by simp [hu]))
      exact ⟨m :: l, rfl⟩
  obtain ⟨l, hl⟩ := this cs.toList g
  refine ⟨l, ?_, ?_⟩
  · have := congrArg List.length hl
    simpa [h] using this.symm
  · rw [← hl]

theorem open_span {w : World} {r : Reach} {b0 : Nat} {v : Value} (h : Value.okWide Try.prog w r b0 23 v) : ∃ x : En.Sp, v = spV x := by
  simp only [Value.okWide, Try.underlying23] at h
  obtain ⟨cs, rfl, hs, hr⟩ := h
  have hs' : cs.size = 2 := hs.trans (by kernel_rfl)
  have k := row_ints (u := 3) (m := 2) (by kernel_rfl) Try.underlying3 hr
  obtain ⟨l, hl, rfl⟩ := cells_list hs' k
  match l, hl with
  | [a, b], _ => exact ⟨⟨a, b⟩, rfl⟩

abbrev ptC (p : En.Pt) : Array Value := #[.int .i64 p.s00.re.lo, .int .i64 p.s00.re.hi, .int .i64 p.s00.im.lo, .int .i64 p.s00.im.hi, .int .i64 p.s01.re.lo, .int .i64 p.s01.re.hi, .int .i64 p.s01.im.lo, .int .i64 p.s01.im.hi,
  .int .i64 p.s10.re.lo, .int .i64 p.s10.re.hi, .int .i64 p.s10.im.lo, .int .i64 p.s10.im.hi, .int .i64 p.s11.re.lo, .int .i64 p.s11.re.hi, .int .i64 p.s11.im.lo, .int .i64 p.s11.im.hi]
abbrev ptV (p : En.Pt) : Value := .agg (ptC p)
theorem open_port {w : World} {r : Reach} {b0 : Nat} {v : Value} (h : Value.okWide Try.prog w r b0 49 v) : ∃ x : En.Pt, v = ptV x := by
  simp only [Value.okWide, Try.underlying49] at h
  obtain ⟨cs, rfl, hs, hr⟩ := h
  have hs' : cs.size = 16 := hs.trans (by kernel_rfl)
  have k := row_ints (u := 3) (m := 16) (by kernel_rfl) Try.underlying3 hr
  obtain ⟨l, hl, rfl⟩ := cells_list hs' k
  match l, hl with
  | [a0, a1, a2, a3, a4, a5, a6, a7, a8, a9, b0, b1, b2, b3, b4, b5], _ => exact ⟨⟨⟨⟨a0, a1⟩, ⟨a2, a3⟩⟩, ⟨⟨a4, a5⟩, ⟨a6, a7⟩⟩, ⟨⟨a8, a9⟩, ⟨b0, b1⟩⟩, ⟨⟨b2, b3⟩, ⟨b4, b5⟩⟩⟩, rfl⟩
end Go.Proofs.Ytpbbbfglecbceaa
/- Package enclose: what lies in what, what both enclose, how wide it is. -/
namespace Go.Proofs.Ytpbbbfglecbceaa
set_option linter.all false
open Go.RowKit

def En.within (s t : En.Sp) : Bool := decide (t.lo ≤ s.lo) && decide (s.hi ≤ t.hi)
def En.cap (s t : En.Sp) : En.Sp := ⟨max s.lo t.lo, min s.hi t.hi⟩
def inR (x y : En.Rc) : Bool × Int := if x.ok && y.ok then (En.within x.re y.re && En.within x.im y.im, 0) else (false, 50)
def capR (x y : En.Rc) : En.Rc × Bool × Int :=
  if x.ok && y.ok then (if (⟨En.cap x.re y.re, En.cap x.im y.im⟩ : En.Rc).ok then (⟨En.cap x.re y.re, En.cap x.im y.im⟩, true, 0) else (⟨⟨0, 0⟩, ⟨0, 0⟩⟩, false, 0)) else (⟨⟨0, 0⟩, ⟨0, 0⟩⟩, false, 50)
def widthR (x : En.Rc) : Int × Int := if x.ok then (max (x.re.hi - x.re.lo) (x.im.hi - x.im.lo), 0) else (0, 50)

theorem within_any (s t : En.Sp) (w : World) : Calls Try.prog 86 #[spV s, spV t] w fun e w' => e = .returned (.bool (En.within s t)) ∧ Below w.heap.size w w' := by
  unfold En.within
  by_cases h1 : t.lo ≤ s.lo
  · by_cases h2 : s.hi ≤ t.hi
    · rw [decide_eq_true h1, decide_eq_true h2]
      go_enter Try.func86, Try.ntmps86
      go_wp2
      go_ret
      exact ⟨rfl, by go_grown⟩
    · rw [decide_eq_true h1, decide_eq_false h2]
      go_enter Try.func86, Try.ntmps86
      go_wp2
      go_ret
      exact ⟨rfl, by go_grown⟩
  · rw [decide_eq_false h1]
    go_enter Try.func86, Try.ntmps86
    go_wp2
    go_ret
    exact ⟨rfl, by go_grown⟩

theorem meet_any (s t : En.Sp) (w : World) : Calls Try.prog 88 #[spV s, spV t] w fun e w' => e = .returned (spV (En.cap s t)) ∧ Below w.heap.size w w' := by
  go_enter Try.func88, Try.ntmps88
  go_wp2
  refine bodyPost_ret (run_results1 rfl rfl (by (show Hd _ (w.heap.size + 2) 23 #[.int .i64 (max s.lo t.lo), .int .i64 (min s.hi t.hi)]); exact hdx) Try.underlying23 rfl (by kernel_rfl)) rfl ⟨rfl, by go_grown⟩

theorem insideE_any (x y : En.Rc) (w : World) : Calls Try.prog 33 #[rcV x, rcV y] w fun e w' => e = .returned (.tuple #[.bool (inR x y).1, .int .i64 (inR x y).2]) ∧ Below w.heap.size w w' := by
  have CV := validR2_any x y
  unfold inR
  have CA := within_any x.re y.re
  have CB := within_any x.im y.im
  obtain ⟨a, ha⟩ : ∃ a, En.within x.re y.re = a := ⟨_, rfl⟩
  obtain ⟨b, hb⟩ : ∃ b, En.within x.im y.im = b := ⟨_, rfl⟩
  rw [ha] at CA
  rw [hb] at CB
  rw [ha, hb]
  clear ha hb
  replace CA := Lib.hid CA
  replace CB := Lib.hid CB
  cases hv : (x.ok && y.ok) <;> rw [hv] at CV <;> clear hv <;> replace CV := Lib.hid CV
  · go_enter Try.func33, Try.ntmps33
    go_wp2_with fail
    have HA : Hd (((w.alloc (.cells #[.int .i64 x.re.lo, .int .i64 x.re.hi, .int .i64 x.im.lo, .int .i64 x.im.hi] 25)).alloc (.cells #[.int .i64 y.re.lo, .int .i64 y.re.hi, .int .i64 y.im.lo, .int .i64 y.im.hi] 25)).alloc (.cells #[.int .i64 x.re.lo, .int .i64 x.re.hi, .int .i64 x.im.lo, .int .i64 x.im.hi, .int .i64 y.re.lo, .int .i64 y.re.hi, .int .i64 y.im.lo, .int .i64 y.im.hi] 25)) w.heap.size 25 #[.int .i64 x.re.lo, .int .i64 x.re.hi, .int .i64 x.im.lo, .int .i64 x.im.hi] := hdx
    have HB : Hd (((w.alloc (.cells #[.int .i64 x.re.lo, .int .i64 x.re.hi, .int .i64 x.im.lo, .int .i64 x.im.hi] 25)).alloc (.cells #[.int .i64 y.re.lo, .int .i64 y.re.hi, .int .i64 y.im.lo, .int .i64 y.im.hi] 25)).alloc (.cells #[.int .i64 x.re.lo, .int .i64 x.re.hi, .int .i64 x.im.lo, .int .i64 x.im.hi, .int .i64 y.re.lo, .int .i64 y.re.hi, .int .i64 y.im.lo, .int .i64 y.im.hi] 25)) (w.heap.size + 1) 25 #[.int .i64 y.re.lo, .int .i64 y.re.hi, .int .i64 y.im.lo, .int .i64 y.im.hi] := hdx
    have HV : Hd (((w.alloc (.cells #[.int .i64 x.re.lo, .int .i64 x.re.hi, .int .i64 x.im.lo, .int .i64 x.im.hi] 25)).alloc (.cells #[.int .i64 y.re.lo, .int .i64 y.re.hi, .int .i64 y.im.lo, .int .i64 y.im.hi] 25)).alloc (.cells #[.int .i64 x.re.lo, .int .i64 x.re.hi, .int .i64 x.im.lo, .int .i64 x.im.hi, .int .i64 y.re.lo, .int .i64 y.re.hi, .int .i64 y.im.lo, .int .i64 y.im.hi] 25)) (w.heap.size + 2) 25 #[.int .i64 x.re.lo, .int .i64 x.re.hi, .int .i64 x.im.lo, .int .i64 x.im.hi, .int .i64 y.re.lo, .int .i64 y.re.hi, .int .i64 y.im.lo, .int .i64 y.im.hi] := hdx
    have bw : Below w.heap.size w (((w.alloc (.cells #[.int .i64 x.re.lo, .int .i64 x.re.hi, .int .i64 x.im.lo, .int .i64 x.im.hi] 25)).alloc (.cells #[.int .i64 y.re.lo, .int .i64 y.re.hi, .int .i64 y.im.lo, .int .i64 y.im.hi] 25)).alloc (.cells #[.int .i64 x.re.lo, .int .i64 x.re.hi, .int .i64 x.im.lo, .int .i64 x.im.hi, .int .i64 y.re.lo, .int .i64 y.re.hi, .int .i64 y.im.lo, .int .i64 y.im.hi] 25)) := by go_grown
    refine (CV.out _ _ _ HV).mono ?_
    rintro e w1 ⟨rfl, hb1⟩
    replace bw : Below w.heap.size w w1 := below_next bw hb1
    replace HA := HA.call hb1
    replace HB := HB.call hb1
    replace HV := HV.call hb1
    have lw1 : w.heap.size ≤ w1.heap.size := bw.size
    clear hb1
    obtain ⟨hcA, hfA⟩ := HA.facts
    obtain ⟨hcB, hfB⟩ := HB.facts
    go_wp2_with fail
    go_ret2
    exact ⟨rfl, by go_grown⟩
  · go_enter Try.func33, Try.ntmps33
    go_wp2_with fail
    have HA : Hd (((w.alloc (.cells #[.int .i64 x.re.lo, .int .i64 x.re.hi, .int .i64 x.im.lo, .int .i64 x.im.hi] 25)).alloc (.cells #[.int .i64 y.re.lo, .int .i64 y.re.hi, .int .i64 y.im.lo, .int .i64 y.im.hi] 25)).alloc (.cells #[.int .i64 x.re.lo, .int .i64 x.re.hi, .int .i64 x.im.lo, .int .i64 x.im.hi, .int .i64 y.re.lo, .int .i64 y.re.hi, .int .i64 y.im.lo, .int .i64 y.im.hi] 25)) w.heap.size 25 #[.int .i64 x.re.lo, .int .i64 x.re.hi, .int .i64 x.im.lo, .int .i64 x.im.hi] := hdx
    have HB : Hd (((w.alloc (.cells #[.int .i64 x.re.lo, .int .i64 x.re.hi, .int .i64 x.im.lo, .int .i64 x.im.hi] 25)).alloc (.cells #[.int .i64 y.re.lo, .int .i64 y.re.hi, .int .i64 y.im.lo, .int .i64 y.im.hi] 25)).alloc (.cells #[.int .i64 x.re.lo, .int .i64 x.re.hi, .int .i64 x.im.lo, .int .i64 x.im.hi, .int .i64 y.re.lo, .int .i64 y.re.hi, .int .i64 y.im.lo, .int .i64 y.im.hi] 25)) (w.heap.size + 1) 25 #[.int .i64 y.re.lo, .int .i64 y.re.hi, .int .i64 y.im.lo, .int .i64 y.im.hi] := hdx
    have HV : Hd (((w.alloc (.cells #[.int .i64 x.re.lo, .int .i64 x.re.hi, .int .i64 x.im.lo, .int .i64 x.im.hi] 25)).alloc (.cells #[.int .i64 y.re.lo, .int .i64 y.re.hi, .int .i64 y.im.lo, .int .i64 y.im.hi] 25)).alloc (.cells #[.int .i64 x.re.lo, .int .i64 x.re.hi, .int .i64 x.im.lo, .int .i64 x.im.hi, .int .i64 y.re.lo, .int .i64 y.re.hi, .int .i64 y.im.lo, .int .i64 y.im.hi] 25)) (w.heap.size + 2) 25 #[.int .i64 x.re.lo, .int .i64 x.re.hi, .int .i64 x.im.lo, .int .i64 x.im.hi, .int .i64 y.re.lo, .int .i64 y.re.hi, .int .i64 y.im.lo, .int .i64 y.im.hi] := hdx
    have bw : Below w.heap.size w (((w.alloc (.cells #[.int .i64 x.re.lo, .int .i64 x.re.hi, .int .i64 x.im.lo, .int .i64 x.im.hi] 25)).alloc (.cells #[.int .i64 y.re.lo, .int .i64 y.re.hi, .int .i64 y.im.lo, .int .i64 y.im.hi] 25)).alloc (.cells #[.int .i64 x.re.lo, .int .i64 x.re.hi, .int .i64 x.im.lo, .int .i64 x.im.hi, .int .i64 y.re.lo, .int .i64 y.re.hi, .int .i64 y.im.lo, .int .i64 y.im.hi] 25)) := by go_grown
    refine (CV.out _ _ _ HV).mono ?_
    rintro e w1 ⟨rfl, hb1⟩
    replace bw : Below w.heap.size w w1 := below_next bw hb1
    replace HA := HA.call hb1
    replace HB := HB.call hb1
    replace HV := HV.call hb1
    have lw1 : w.heap.size ≤ w1.heap.size := bw.size
    clear hb1
    obtain ⟨hcA, hfA⟩ := HA.facts
    obtain ⟨hcB, hfB⟩ := HB.facts
    go_wp2_with fail
    refine (CA.out _).mono ?_
    rintro e w2 ⟨rfl, hb2⟩
    replace bw : Below w.heap.size w w2 := below_next bw hb2
    replace HA := HA.call hb2
    replace HB := HB.call hb2
    replace HV := HV.call hb2
    have lw2 : w.heap.size ≤ w2.heap.size := bw.size
    clear hb2
    obtain ⟨hcA, hfA⟩ := HA.facts
    obtain ⟨hcB, hfB⟩ := HB.facts
    cases a
    · go_wp2_with fail
      go_ret2
      exact ⟨rfl, by go_grown⟩
    · go_wp2_with fail
      refine (CB.out _).mono ?_
      rintro e w3 ⟨rfl, hb3⟩
      replace bw : Below w.heap.size w w3 := below_next bw hb3
      replace HA := HA.call hb3
      replace HB := HB.call hb3
      replace HV := HV.call hb3
      have lw3 : w.heap.size ≤ w3.heap.size := bw.size
      clear hb3
      obtain ⟨hcA, hfA⟩ := HA.facts
      obtain ⟨hcB, hfB⟩ := HB.facts
      cases b
      all_goals
        go_wp2_with fail
        go_ret2
        exact ⟨rfl, by go_grown⟩

theorem widthE_any (x : En.Rc) (w : World) : Calls Try.prog 37 #[rcV x] w fun e w' => e = .returned (.tuple #[.int .i64 (widthR x).1, .int .i64 (widthR x).2]) ∧ Below w.heap.size w w' := by
  have CV := validR1_any x
  unfold widthR
  cases hv : x.ok
  · rw [hv] at CV
    clear hv
    replace CV := Lib.hid CV
    go_enter Try.func37, Try.ntmps37
    go_wp2_with fail
    have HA : Hd ((w.alloc (.cells #[.int .i64 x.re.lo, .int .i64 x.re.hi, .int .i64 x.im.lo, .int .i64 x.im.hi] 25)).alloc (.cells #[.int .i64 x.re.lo, .int .i64 x.re.hi, .int .i64 x.im.lo, .int .i64 x.im.hi] 25)) w.heap.size 25 #[.int .i64 x.re.lo, .int .i64 x.re.hi, .int .i64 x.im.lo, .int .i64 x.im.hi] := hdx
    have HV : Hd ((w.alloc (.cells #[.int .i64 x.re.lo, .int .i64 x.re.hi, .int .i64 x.im.lo, .int .i64 x.im.hi] 25)).alloc (.cells #[.int .i64 x.re.lo, .int .i64 x.re.hi, .int .i64 x.im.lo, .int .i64 x.im.hi] 25)) (w.heap.size + 1) 25 #[.int .i64 x.re.lo, .int .i64 x.re.hi, .int .i64 x.im.lo, .int .i64 x.im.hi] := hdx
    have bw : Below w.heap.size w ((w.alloc (.cells #[.int .i64 x.re.lo, .int .i64 x.re.hi, .int .i64 x.im.lo, .int .i64 x.im.hi] 25)).alloc (.cells #[.int .i64 x.re.lo, .int .i64 x.re.hi, .int .i64 x.im.lo, .int .i64 x.im.hi] 25)) := by go_grown
    refine (CV.out _ _ _ HV).mono ?_
    rintro e w1 ⟨rfl, hb1⟩
    replace bw : Below w.heap.size w w1 := below_next bw hb1
    replace HA := HA.call hb1
    replace HV := HV.call hb1
    have lw1 : w.heap.size ≤ w1.heap.size := bw.size
    clear hb1
    obtain ⟨hcA, hfA⟩ := HA.facts
    go_wp2_with fail
    go_ret2
    exact ⟨rfl, by go_grown⟩
  · have hfit := En.Rc.fit_of_ok hv
    obtain ⟨⟨a1, a2, a3, a4⟩, b1, b2, b3, b4⟩ := hfit
    rw [hv] at CV
    clear hv
    replace CV := Lib.hid CV
    go_enter Try.func37, Try.ntmps37
    go_wp2_with fail
    have HA : Hd ((w.alloc (.cells #[.int .i64 x.re.lo, .int .i64 x.re.hi, .int .i64 x.im.lo, .int .i64 x.im.hi] 25)).alloc (.cells #[.int .i64 x.re.lo, .int .i64 x.re.hi, .int .i64 x.im.lo, .int .i64 x.im.hi] 25)) w.heap.size 25 #[.int .i64 x.re.lo, .int .i64 x.re.hi, .int .i64 x.im.lo, .int .i64 x.im.hi] := hdx
    have HV : Hd ((w.alloc (.cells #[.int .i64 x.re.lo, .int .i64 x.re.hi, .int .i64 x.im.lo, .int .i64 x.im.hi] 25)).alloc (.cells #[.int .i64 x.re.lo, .int .i64 x.re.hi, .int .i64 x.im.lo, .int .i64 x.im.hi] 25)) (w.heap.size + 1) 25 #[.int .i64 x.re.lo, .int .i64 x.re.hi, .int .i64 x.im.lo, .int .i64 x.im.hi] := hdx
    have bw : Below w.heap.size w ((w.alloc (.cells #[.int .i64 x.re.lo, .int .i64 x.re.hi, .int .i64 x.im.lo, .int .i64 x.im.hi] 25)).alloc (.cells #[.int .i64 x.re.lo, .int .i64 x.re.hi, .int .i64 x.im.lo, .int .i64 x.im.hi] 25)) := by go_grown
    refine (CV.out _ _ _ HV).mono ?_
    rintro e w1 ⟨rfl, hb1⟩
    replace bw : Below w.heap.size w w1 := below_next bw hb1
    replace HA := HA.call hb1
    replace HV := HV.call hb1
    have lw1 : w.heap.size ≤ w1.heap.size := bw.size
    clear hb1
    obtain ⟨hcA, hfA⟩ := HA.facts
    go_wp2_with fail
    go_ret2
    exact ⟨rfl, by go_grown⟩
end Go.Proofs.Ytpbbbfglecbceaa
/- Package enclose: which two-ports are valid. -/
namespace Go.Proofs.Ytpbbbfglecbceaa
set_option linter.all false
open Go.RowKit

def portOk (p : En.Pt) : Bool := p.s00.ok && p.s01.ok && p.s10.ok && p.s11.ok
set_option maxHeartbeats 4000000 in
theorem ports1_any (p : En.Pt) (g t : Nat) (w : World) (HG : Hd w g t #[.int .i64 p.s00.re.lo, .int .i64 p.s00.re.hi, .int .i64 p.s00.im.lo, .int .i64 p.s00.im.hi, .int .i64 p.s01.re.lo, .int .i64 p.s01.re.hi, .int .i64 p.s01.im.lo, .int .i64 p.s01.im.hi, .int .i64 p.s10.re.lo, .int .i64 p.s10.re.hi, .int .i64 p.s10.im.lo, .int .i64 p.s10.im.hi, .int .i64 p.s11.re.lo, .int .i64 p.s11.re.hi, .int .i64 p.s11.im.lo, .int .i64 p.s11.im.hi]) :
    Calls Try.prog 90 #[.slice (some ⟨g, 0, none⟩) 1 1] w fun e w' => e = .returned (.bool (portOk p)) ∧ Below w.heap.size w w' := by
  have hlt := HG.lt
  have Cp := validR4_any p.s00 p.s01 p.s10 p.s11
  obtain ⟨op, hp⟩ : ∃ o, portOk p = o := ⟨_, rfl⟩
  rw [show (p.s00.ok && p.s01.ok && p.s10.ok && p.s11.ok) = op from hp] at Cp
  rw [hp]
  clear hp
  replace Cp := Lib.hid Cp
  have bw := Below.refl w.heap.size w
  obtain ⟨hcG, hfG⟩ := HG.facts
  go_enter Try.func90, Try.ntmps90
  go_wp2_with fail
  go_loopw [3, 8] (fun a b wx => ∃ (i : Int) (o : Bool), a = .bool o ∧ b = .int .i64 i ∧ ((i = 0 ∧ o = true) ∨ (i = 1 ∧ o = (op))) ∧ Hd wx g t #[.int .i64 p.s00.re.lo, .int .i64 p.s00.re.hi, .int .i64 p.s00.im.lo, .int .i64 p.s00.im.hi, .int .i64 p.s01.re.lo, .int .i64 p.s01.re.hi, .int .i64 p.s01.im.lo, .int .i64 p.s01.im.hi, .int .i64 p.s10.re.lo, .int .i64 p.s10.re.hi, .int .i64 p.s10.im.lo, .int .i64 p.s10.im.hi, .int .i64 p.s11.re.lo, .int .i64 p.s11.re.hi, .int .i64 p.s11.im.lo, .int .i64 p.s11.im.hi] ∧ Below w.heap.size w wx) (fun _ b _ => (1 - intOf b).toNat)
  case atStart => exact ⟨0, true, rfl, rfl, by simp, HG, bw⟩
  case round =>
    clear hcG hfG HG bw
    obtain ⟨i, o, rfl, rfl, hi, HG, bw⟩ := hrel
    have lwr := bw.size
    have ltG := HG.lt
    obtain ⟨hcG, hfG⟩ := HG.facts
    rcases hi with ⟨rfl, rfl⟩ | ⟨rfl, rfl⟩
    · go_wp2_with fail
      have HV : Hd ((wr.alloc (.cells #[.int .i64 p.s00.re.lo, .int .i64 p.s00.re.hi, .int .i64 p.s00.im.lo, .int .i64 p.s00.im.hi, .int .i64 p.s01.re.lo, .int .i64 p.s01.re.hi, .int .i64 p.s01.im.lo, .int .i64 p.s01.im.hi, .int .i64 p.s10.re.lo, .int .i64 p.s10.re.hi, .int .i64 p.s10.im.lo, .int .i64 p.s10.im.hi, .int .i64 p.s11.re.lo, .int .i64 p.s11.re.hi, .int .i64 p.s11.im.lo, .int .i64 p.s11.im.hi] 49)).alloc (.cells #[.int .i64 p.s00.re.lo, .int .i64 p.s00.re.hi, .int .i64 p.s00.im.lo, .int .i64 p.s00.im.hi, .int .i64 p.s01.re.lo, .int .i64 p.s01.re.hi, .int .i64 p.s01.im.lo, .int .i64 p.s01.im.hi, .int .i64 p.s10.re.lo, .int .i64 p.s10.re.hi, .int .i64 p.s10.im.lo, .int .i64 p.s10.im.hi, .int .i64 p.s11.re.lo, .int .i64 p.s11.re.hi, .int .i64 p.s11.im.lo, .int .i64 p.s11.im.hi] 25)) (wr.heap.size + 1) 25 #[.int .i64 p.s00.re.lo, .int .i64 p.s00.re.hi, .int .i64 p.s00.im.lo, .int .i64 p.s00.im.hi, .int .i64 p.s01.re.lo, .int .i64 p.s01.re.hi, .int .i64 p.s01.im.lo, .int .i64 p.s01.im.hi, .int .i64 p.s10.re.lo, .int .i64 p.s10.re.hi, .int .i64 p.s10.im.lo, .int .i64 p.s10.im.hi, .int .i64 p.s11.re.lo, .int .i64 p.s11.re.hi, .int .i64 p.s11.im.lo, .int .i64 p.s11.im.hi] := hdx
      refine (Cp.out _ _ _ HV).mono ?_
      rintro e wa ⟨rfl, hba⟩
      replace bw : Below w.heap.size w wa := below_next (by go_grown) hba
      have HG2 : Hd wa g t #[.int .i64 p.s00.re.lo, .int .i64 p.s00.re.hi, .int .i64 p.s00.im.lo, .int .i64 p.s00.im.hi, .int .i64 p.s01.re.lo, .int .i64 p.s01.re.hi, .int .i64 p.s01.im.lo, .int .i64 p.s01.im.hi, .int .i64 p.s10.re.lo, .int .i64 p.s10.re.hi, .int .i64 p.s10.im.lo, .int .i64 p.s10.im.hi, .int .i64 p.s11.re.lo, .int .i64 p.s11.re.hi, .int .i64 p.s11.im.lo, .int .i64 p.s11.im.hi] := Hd.call (by exact hdx) hba
      have lwa := bw.size
      clear hba HV
      go_wp2_with fail
      exact ⟨⟨1, _, rfl, rfl, by simp, HG2, bw⟩, by simp [intOf]⟩
    · go_wp2_with fail
      go_ret
      exact ⟨rfl, bw⟩

set_option maxHeartbeats 4000000 in
theorem ports2_any (p q : En.Pt) (g t : Nat) (w : World) (HG : Hd w g t #[.int .i64 p.s00.re.lo, .int .i64 p.s00.re.hi, .int .i64 p.s00.im.lo, .int .i64 p.s00.im.hi, .int .i64 p.s01.re.lo, .int .i64 p.s01.re.hi, .int .i64 p.s01.im.lo, .int .i64 p.s01.im.hi, .int .i64 p.s10.re.lo, .int .i64 p.s10.re.hi, .int .i64 p.s10.im.lo, .int .i64 p.s10.im.hi, .int .i64 p.s11.re.lo, .int .i64 p.s11.re.hi, .int .i64 p.s11.im.lo, .int .i64 p.s11.im.hi, .int .i64 q.s00.re.lo, .int .i64 q.s00.re.hi, .int .i64 q.s00.im.lo, .int .i64 q.s00.im.hi, .int .i64 q.s01.re.lo, .int .i64 q.s01.re.hi, .int .i64 q.s01.im.lo, .int .i64 q.s01.im.hi, .int .i64 q.s10.re.lo, .int .i64 q.s10.re.hi, .int .i64 q.s10.im.lo, .int .i64 q.s10.im.hi, .int .i64 q.s11.re.lo, .int .i64 q.s11.re.hi, .int .i64 q.s11.im.lo, .int .i64 q.s11.im.hi]) :
    Calls Try.prog 90 #[.slice (some ⟨g, 0, none⟩) 2 2] w fun e w' => e = .returned (.bool (portOk p && portOk q)) ∧ Below w.heap.size w w' := by
  have hlt := HG.lt
  have Cp := validR4_any p.s00 p.s01 p.s10 p.s11
  obtain ⟨op, hp⟩ : ∃ o, portOk p = o := ⟨_, rfl⟩
  rw [show (p.s00.ok && p.s01.ok && p.s10.ok && p.s11.ok) = op from hp] at Cp
  rw [hp]
  clear hp
  replace Cp := Lib.hid Cp
  have Cq := validR4_any q.s00 q.s01 q.s10 q.s11
  obtain ⟨oq, hq⟩ : ∃ o, portOk q = o := ⟨_, rfl⟩
  rw [show (q.s00.ok && q.s01.ok && q.s10.ok && q.s11.ok) = oq from hq] at Cq
  rw [hq]
  clear hq
  replace Cq := Lib.hid Cq
  have bw := Below.refl w.heap.size w
  obtain ⟨hcG, hfG⟩ := HG.facts
  go_enter Try.func90, Try.ntmps90
  go_wp2_with fail
  go_loopw [3, 8] (fun a b wx => ∃ (i : Int) (o : Bool), a = .bool o ∧ b = .int .i64 i ∧ ((i = 0 ∧ o = true) ∨ (i = 1 ∧ o = (op)) ∨ (i = 2 ∧ o = (op && oq))) ∧ Hd wx g t #[.int .i64 p.s00.re.lo, .int .i64 p.s00.re.hi, .int .i64 p.s00.im.lo, .int .i64 p.s00.im.hi, .int .i64 p.s01.re.lo, .int .i64 p.s01.re.hi, .int .i64 p.s01.im.lo, .int .i64 p.s01.im.hi, .int .i64 p.s10.re.lo, .int .i64 p.s10.re.hi, .int .i64 p.s10.im.lo, .int .i64 p.s10.im.hi, .int .i64 p.s11.re.lo, .int .i64 p.s11.re.hi, .int .i64 p.s11.im.lo, .int .i64 p.s11.im.hi, .int .i64 q.s00.re.lo, .int .i64 q.s00.re.hi, .int .i64 q.s00.im.lo, .int .i64 q.s00.im.hi, .int .i64 q.s01.re.lo, .int .i64 q.s01.re.hi, .int .i64 q.s01.im.lo, .int .i64 q.s01.im.hi, .int .i64 q.s10.re.lo, .int .i64 q.s10.re.hi, .int .i64 q.s10.im.lo, .int .i64 q.s10.im.hi, .int .i64 q.s11.re.lo, .int .i64 q.s11.re.hi, .int .i64 q.s11.im.lo, .int .i64 q.s11.im.hi] ∧ Below w.heap.size w wx) (fun _ b _ => (2 - intOf b).toNat)
  case atStart => exact ⟨0, true, rfl, rfl, by simp, HG, bw⟩
  case round =>
    clear hcG hfG HG bw
    obtain ⟨i, o, rfl, rfl, hi, HG, bw⟩ := hrel
    have lwr := bw.size
    have ltG := HG.lt
    obtain ⟨hcG, hfG⟩ := HG.facts
    rcases hi with ⟨rfl, rfl⟩ | ⟨rfl, rfl⟩ | ⟨rfl, rfl⟩
    · go_wp2_with fail
      have HV : Hd ((wr.alloc (.cells #[.int .i64 p.s00.re.lo, .int .i64 p.s00.re.hi, .int .i64 p.s00.im.lo, .int .i64 p.s00.im.hi, .int .i64 p.s01.re.lo, .int .i64 p.s01.re.hi, .int .i64 p.s01.im.lo, .int .i64 p.s01.im.hi, .int .i64 p.s10.re.lo, .int .i64 p.s10.re.hi, .int .i64 p.s10.im.lo, .int .i64 p.s10.im.hi, .int .i64 p.s11.re.lo, .int .i64 p.s11.re.hi, .int .i64 p.s11.im.lo, .int .i64 p.s11.im.hi] 49)).alloc (.cells #[.int .i64 p.s00.re.lo, .int .i64 p.s00.re.hi, .int .i64 p.s00.im.lo, .int .i64 p.s00.im.hi, .int .i64 p.s01.re.lo, .int .i64 p.s01.re.hi, .int .i64 p.s01.im.lo, .int .i64 p.s01.im.hi, .int .i64 p.s10.re.lo, .int .i64 p.s10.re.hi, .int .i64 p.s10.im.lo, .int .i64 p.s10.im.hi, .int .i64 p.s11.re.lo, .int .i64 p.s11.re.hi, .int .i64 p.s11.im.lo, .int .i64 p.s11.im.hi] 25)) (wr.heap.size + 1) 25 #[.int .i64 p.s00.re.lo, .int .i64 p.s00.re.hi, .int .i64 p.s00.im.lo, .int .i64 p.s00.im.hi, .int .i64 p.s01.re.lo, .int .i64 p.s01.re.hi, .int .i64 p.s01.im.lo, .int .i64 p.s01.im.hi, .int .i64 p.s10.re.lo, .int .i64 p.s10.re.hi, .int .i64 p.s10.im.lo, .int .i64 p.s10.im.hi, .int .i64 p.s11.re.lo, .int .i64 p.s11.re.hi, .int .i64 p.s11.im.lo, .int .i64 p.s11.im.hi] := hdx
      refine (Cp.out _ _ _ HV).mono ?_
      rintro e wa ⟨rfl, hba⟩
      replace bw : Below w.heap.size w wa := below_next (by go_grown) hba
      have HG2 : Hd wa g t #[.int .i64 p.s00.re.lo, .int .i64 p.s00.re.hi, .int .i64 p.s00.im.lo, .int .i64 p.s00.im.hi, .int .i64 p.s01.re.lo, .int .i64 p.s01.re.hi, .int .i64 p.s01.im.lo, .int .i64 p.s01.im.hi, .int .i64 p.s10.re.lo, .int .i64 p.s10.re.hi, .int .i64 p.s10.im.lo, .int .i64 p.s10.im.hi, .int .i64 p.s11.re.lo, .int .i64 p.s11.re.hi, .int .i64 p.s11.im.lo, .int .i64 p.s11.im.hi, .int .i64 q.s00.re.lo, .int .i64 q.s00.re.hi, .int .i64 q.s00.im.lo, .int .i64 q.s00.im.hi, .int .i64 q.s01.re.lo, .int .i64 q.s01.re.hi, .int .i64 q.s01.im.lo, .int .i64 q.s01.im.hi, .int .i64 q.s10.re.lo, .int .i64 q.s10.re.hi, .int .i64 q.s10.im.lo, .int .i64 q.s10.im.hi, .int .i64 q.s11.re.lo, .int .i64 q.s11.re.hi, .int .i64 q.s11.im.lo, .int .i64 q.s11.im.hi] := Hd.call (by exact hdx) hba
      have lwa := bw.size
      clear hba HV
      go_wp2_with fail
      exact ⟨⟨1, _, rfl, rfl, by simp, HG2, bw⟩, by simp [intOf]⟩
    · cases o
      · go_wp2_with fail
        exact ⟨⟨2, false, rfl, rfl, by simp, by exact hdx, by go_grown⟩, by simp [intOf]⟩
      · go_wp2_with fail
        have HV : Hd ((wr.alloc (.cells #[.int .i64 q.s00.re.lo, .int .i64 q.s00.re.hi, .int .i64 q.s00.im.lo, .int .i64 q.s00.im.hi, .int .i64 q.s01.re.lo, .int .i64 q.s01.re.hi, .int .i64 q.s01.im.lo, .int .i64 q.s01.im.hi, .int .i64 q.s10.re.lo, .int .i64 q.s10.re.hi, .int .i64 q.s10.im.lo, .int .i64 q.s10.im.hi, .int .i64 q.s11.re.lo, .int .i64 q.s11.re.hi, .int .i64 q.s11.im.lo, .int .i64 q.s11.im.hi] 49)).alloc (.cells #[.int .i64 q.s00.re.lo, .int .i64 q.s00.re.hi, .int .i64 q.s00.im.lo, .int .i64 q.s00.im.hi, .int .i64 q.s01.re.lo, .int .i64 q.s01.re.hi, .int .i64 q.s01.im.lo, .int .i64 q.s01.im.hi, .int .i64 q.s10.re.lo, .int .i64 q.s10.re.hi, .int .i64 q.s10.im.lo, .int .i64 q.s10.im.hi, .int .i64 q.s11.re.lo, .int .i64 q.s11.re.hi, .int .i64 q.s11.im.lo, .int .i64 q.s11.im.hi] 25)) (wr.heap.size + 1) 25 #[.int .i64 q.s00.re.lo, .int .i64 q.s00.re.hi, .int .i64 q.s00.im.lo, .int .i64 q.s00.im.hi, .int .i64 q.s01.re.lo, .int .i64 q.s01.re.hi, .int .i64 q.s01.im.lo, .int .i64 q.s01.im.hi, .int .i64 q.s10.re.lo, .int .i64 q.s10.re.hi, .int .i64 q.s10.im.lo, .int .i64 q.s10.im.hi, .int .i64 q.s11.re.lo, .int .i64 q.s11.re.hi, .int .i64 q.s11.im.lo, .int .i64 q.s11.im.hi] := hdx
        refine (Cq.out _ _ _ HV).mono ?_
        rintro e wa ⟨rfl, hba⟩
        replace bw : Below w.heap.size w wa := below_next (by go_grown) hba
        have HG2 : Hd wa g t #[.int .i64 p.s00.re.lo, .int .i64 p.s00.re.hi, .int .i64 p.s00.im.lo, .int .i64 p.s00.im.hi, .int .i64 p.s01.re.lo, .int .i64 p.s01.re.hi, .int .i64 p.s01.im.lo, .int .i64 p.s01.im.hi, .int .i64 p.s10.re.lo, .int .i64 p.s10.re.hi, .int .i64 p.s10.im.lo, .int .i64 p.s10.im.hi, .int .i64 p.s11.re.lo, .int .i64 p.s11.re.hi, .int .i64 p.s11.im.lo, .int .i64 p.s11.im.hi, .int .i64 q.s00.re.lo, .int .i64 q.s00.re.hi, .int .i64 q.s00.im.lo, .int .i64 q.s00.im.hi, .int .i64 q.s01.re.lo, .int .i64 q.s01.re.hi, .int .i64 q.s01.im.lo, .int .i64 q.s01.im.hi, .int .i64 q.s10.re.lo, .int .i64 q.s10.re.hi, .int .i64 q.s10.im.lo, .int .i64 q.s10.im.hi, .int .i64 q.s11.re.lo, .int .i64 q.s11.re.hi, .int .i64 q.s11.im.lo, .int .i64 q.s11.im.hi] := Hd.call (by exact hdx) hba
        have lwa := bw.size
        clear hba HV
        go_wp2_with fail
        exact ⟨⟨2, _, rfl, rfl, by simp, HG2, bw⟩, by simp [intOf]⟩
    · go_wp2_with fail
      go_ret
      exact ⟨rfl, bw⟩
end Go.Proofs.Ytpbbbfglecbceaa
/- Plain: quotients in floors; what the document's arithmetic is. -/
namespace Go.Proofs.Ytpbbbfglecbceaa.En
set_option linter.all false

theorem neg_ediv (N c : Int) (hc : 0 < c) : (-N) / c = if N % c = 0 then -(N / c) else -(N / c) - 1 := by
  have h1 := Int.mul_ediv_add_emod N c
  have h2 := Int.emod_nonneg N (b := c) (by omega)
  have h3 := Int.emod_lt_of_pos N hc
  split
  · next h0 =>
    refine ((Int.ediv_emod_unique (r := 0) hc).2 ⟨?_, by omega, by omega⟩).1
    rw [Int.mul_neg]
    omega
  · next h0 =>
    refine ((Int.ediv_emod_unique (r := c - N % c) hc).2 ⟨?_, by omega, by omega⟩).1
    rw [Int.mul_sub, Int.mul_neg, Int.mul_one]
    omega

theorem fr_floor (f : Fr) (N : Int) (hN : f.hi * 18446744073709551616 + f.lo = N) (hl : 0 ≤ f.lo) (hc : 0 < f.c) (hq : N / f.c ≤ 4611686018427387904) :
    f.floor = if f.neg then (-N) / f.c else N / f.c := by
  have hlt : ¬ f.c ≤ f.hi := by
    intro h
    have h1 : f.c * 18446744073709551616 ≤ N := by omega
    have h2 : 18446744073709551616 ≤ N / f.c := (Int.le_ediv_iff_mul_le hc).2 (by rw [Int.mul_comm]; exact h1)
    omega
  have e1 : f.q = N / f.c := by unfold Fr.q; rw [if_neg hlt, hN]; omega
  have e2 : f.exact = decide (N % f.c = 0) := by unfold Fr.exact; rw [if_neg hlt, hN]
  unfold Fr.floor
  rw [e1, e2, neg_ediv N f.c hc]
  by_cases h : N % f.c = 0 <;> simp [h]

theorem over_sign (a b c : Int) (hc : 0 < c) : a * b = if (over a b c).neg then -(abs a * abs b) else abs a * abs b := by
  unfold over
  dsimp only
  have h3 : decide (c < 0) = false := by simp; omega
  rw [h3]
  by_cases h0 : abs a * abs b = 0
  · have : a * b = 0 := by
      rcases Int.mul_eq_zero.1 h0 with h | h
      · have : a = 0 := by unfold abs at h; split at h <;> omega
        rw [this, Int.zero_mul]
      · have : b = 0 := by unfold abs at h; split at h <;> omega
        rw [this, Int.mul_zero]
    simp [h0, this]
  · have hz : a ≠ 0 ∧ b ≠ 0 := by
      constructor
      · rintro rfl; exact h0 (by simp [abs])
      · rintro rfl; exact h0 (by simp [abs])
    by_cases ha : a < 0 <;> by_cases hb : b < 0 <;> simp [ha, hb, abs, hz.1, hz.2, Int.neg_mul, Int.mul_neg]

theorem over_floor (a b c : Int) (hc : 0 < c) (h : abs a * abs b / c ≤ 4611686018427387904) : (over a b c).floor = a * b / c := by
  have hcc : (over a b c).c = c := by unfold over abs; dsimp only; rw [if_neg (by omega)]
  have h1 := fr_floor (over a b c) (abs a * abs b) (by unfold over; dsimp only; omega) (by unfold over; dsimp only; omega) (by rw [hcc]; exact hc) (by rw [hcc]; exact h)
  rw [h1, hcc, over_sign a b c hc]
  split <;> rfl

theorem over_ceil (a b c : Int) (hc : 0 < c) (h : abs a * abs b / c ≤ 4611686018427387904) : (over a b c).ceil = -(-(a * b) / c) := by
  have hcc : (over a b c).c = c := by unfold over abs; dsimp only; rw [if_neg (by omega)]
  have h1 := fr_floor { over a b c with neg := !(over a b c).neg } (abs a * abs b) (by unfold over; dsimp only; omega) (by unfold over; dsimp only; omega) (by show 0 < (over a b c).c; rw [hcc]; exact hc) (by show _ / (over a b c).c ≤ _; rw [hcc]; exact h)
  unfold Fr.ceil
  rw [h1, over_sign a b c hc]
  show -(if (!(over a b c).neg) = true then -(abs a * abs b) / (over a b c).c else abs a * abs b / (over a b c).c) = _
  rw [hcc]
  cases (over a b c).neg <;> simp

/-- What the document takes for a product, rounded down. -/
def dn (a b : Int) : Int := a * b / 1073741824
def up (a b : Int) : Int := -(-(a * b) / 1073741824)

theorem abs_le {a m : Int} (h1 : -m ≤ a) (h2 : a ≤ m) : abs a ≤ m := by unfold abs; split <;> omega
theorem abs_mul_le {a b m n : Int} (h1 : -m ≤ a) (h2 : a ≤ m) (h3 : -n ≤ b) (h4 : b ≤ n) : abs a * abs b ≤ m * n :=
  Int.mul_le_mul (abs_le h1 h2) (abs_le h3 h4) (abs_nonneg b) (by omega)
theorem abs_mul_abs (a b : Int) : abs a * abs b = abs (a * b) := by
  by_cases ha : a = 0
  · subst ha; simp [abs]
  by_cases hb : b = 0
  · subst hb; simp [abs]
  rcases Int.lt_or_gt_of_ne ha with h1 | h1 <;> rcases Int.lt_or_gt_of_ne hb with h2 | h2
  · have := Int.mul_pos_of_neg_of_neg h1 h2
    unfold abs
    rw [if_pos h1, if_pos h2, if_neg (by omega), Int.neg_mul_neg]
  · have := Int.mul_neg_of_neg_of_pos h1 h2
    unfold abs
    rw [if_pos h1, if_neg (by omega), if_pos (by omega), Int.neg_mul]
  · have := Int.mul_neg_of_pos_of_neg h1 h2
    unfold abs
    rw [if_neg (by omega), if_pos h2, if_pos (by omega), Int.mul_neg]
  · have := Int.mul_pos h1 h2
    unfold abs
    rw [if_neg (by omega), if_neg (by omega), if_neg (by omega)]
theorem le_of_abs {a m : Int} (h : abs a ≤ m) : -m ≤ a ∧ a ≤ m := by unfold abs at h; split at h <;> omega
theorem dn_over {a b : Int} (h1 : -1099511627776 ≤ a) (h2 : a ≤ 1099511627776) (h3 : -1099511627776 ≤ b) (h4 : b ≤ 1099511627776) : (over a b 1073741824).floor = dn a b := by
  have := abs_mul_le h1 h2 h3 h4
  exact over_floor a b 1073741824 (by omega) (by omega)
theorem up_over {a b : Int} (h1 : -1099511627776 ≤ a) (h2 : a ≤ 1099511627776) (h3 : -1099511627776 ≤ b) (h4 : b ≤ 1099511627776) : (over a b 1073741824).ceil = up a b := by
  have := abs_mul_le h1 h2 h3 h4
  exact over_ceil a b 1073741824 (by omega) (by omega)

theorem mul_eq {s t : Sp} (hs : s.fit) (ht : t.fit) : mul s t = span (min (min (min (dn s.lo t.lo) (dn s.lo t.hi)) (dn s.hi t.lo)) (dn s.hi t.hi)) (max (max (max (up s.lo t.lo) (up s.lo t.hi)) (up s.hi t.lo)) (up s.hi t.hi)) := by
  unfold mul around4
  simp only [lowF, highF, fr4]
  rw [dn_over hs.a hs.b ht.a ht.b, dn_over hs.a hs.b ht.c ht.d, dn_over hs.c hs.d ht.a ht.b, dn_over hs.c hs.d ht.c ht.d,
    up_over hs.a hs.b ht.a ht.b, up_over hs.a hs.b ht.c ht.d, up_over hs.c hs.d ht.a ht.b, up_over hs.c hs.d ht.c ht.d]

theorem dn_le_up (a b : Int) : dn a b ≤ up a b := by unfold dn up; omega
theorem up_self_nonneg (a : Int) : 0 ≤ up a a := by
  have : 0 ≤ a * a := by
    rcases Int.le_total 0 a with h | h
    · exact Int.mul_nonneg h h
    · exact Int.mul_nonneg_of_nonpos_of_nonpos h h
  unfold up
  omega
theorem dn_self_nonneg (a : Int) : 0 ≤ dn a a := by
  have : 0 ≤ a * a := by
    rcases Int.le_total 0 a with h | h
    · exact Int.mul_nonneg h h
    · exact Int.mul_nonneg_of_nonpos_of_nonpos h h
  unfold dn
  omega

theorem square_eq {s : Sp} (hs : s.fit) : square s = if s.lo ≤ 0 ∧ 0 ≤ s.hi then span 0 (max (up s.lo s.lo) (up s.hi s.hi)) else span (min (dn s.lo s.lo) (dn s.hi s.hi)) (max (up s.lo s.lo) (up s.hi s.hi)) := by
  have h1 := dn_le_up s.lo s.lo
  have h2 := up_self_nonneg s.lo
  have h3 := dn_self_nonneg s.lo
  have h4 := dn_self_nonneg s.hi
  unfold square squareOut
  simp only [lowF, highF, fr2]
  rw [dn_over hs.a hs.b hs.a hs.b, dn_over hs.c hs.d hs.c hs.d, up_over hs.a hs.b hs.a hs.b, up_over hs.c hs.d hs.c hs.d]
  unfold span
  by_cases hb : max (up s.lo s.lo) (up s.hi s.hi) ≤ 1099511627776
  · have e1 : okS (min (dn s.lo s.lo) (dn s.hi s.hi)) (max (up s.lo s.lo) (up s.hi s.hi)) = true := by simp only [okS, Bool.and_eq_true, decide_eq_true_eq]; omega
    have e2 : okS 0 (max (up s.lo s.lo) (up s.hi s.hi)) = true := by simp only [okS, Bool.and_eq_true, decide_eq_true_eq]; omega
    rw [if_pos e1, if_pos e2]
    show (Except.ok _ : R Sp) = _
    split <;> rfl
  · have e1 : okS (min (dn s.lo s.lo) (dn s.hi s.hi)) (max (up s.lo s.lo) (up s.hi s.hi)) = false := by
      simp only [okS, Bool.and_eq_false_iff, decide_eq_false_iff_not]; omega
    have e2 : okS 0 (max (up s.lo s.lo) (up s.hi s.hi)) = false := by
      simp only [okS, Bool.and_eq_false_iff, decide_eq_false_iff_not]; omega
    rw [e1, e2]
    simp
    rfl

/-- The error stays; nothing is done behind it. -/
def Stk {α : Type} (r : R α) (e : Int) (z : α) (e' : Int) : Prop := (e = 0 ∧ ((r = .ok z ∧ e' = 0) ∨ (r = .error e' ∧ e' ≠ 0))) ∨ (e ≠ 0 ∧ e' = e)
theorem Stk.bind {α β : Type} {r : R α} {f : α → R β} {e e1 e2 : Int} {z : α} {z' : β} (h : Stk r e z e1) (k : Stk (f z) e1 z' e2) : Stk (r >>= f) e z' e2 := by
  rcases h with ⟨rfl, ⟨rfl, rfl⟩ | ⟨rfl, h1⟩⟩ | ⟨h1, rfl⟩
  · exact k
  · rcases k with ⟨rfl, _⟩ | ⟨_, rfl⟩
    · exact absurd rfl h1
    · exact .inl ⟨rfl, .inr ⟨rfl, h1⟩⟩
  · rcases k with ⟨rfl, _⟩ | ⟨_, rfl⟩
    · exact absurd rfl h1
    · exact .inr ⟨h1, rfl⟩
theorem Stk.pure {α : Type} (z : α) (e : Int) : Stk (Pure.pure z : R α) e z e := by
  by_cases h : e = 0
  · exact .inl ⟨h, .inl ⟨rfl, h⟩⟩
  · exact .inr ⟨h, rfl⟩
theorem Stk.zero {α : Type} {r : R α} {z : α} {e' : Int} (h : Stk r 0 z e') : (r = .ok z ∧ e' = 0) ∨ (r = .error e' ∧ e' ≠ 0) := by
  rcases h with ⟨_, h⟩ | ⟨h, _⟩
  · exact h
  · exact absurd rfl h
/-- A span, if it is in range. -/
def stkSpan (e lo hi : Int) : Sp × Int := if e = 0 then (if okS lo hi then (⟨lo, hi⟩, 0) else (⟨0, 0⟩, 4)) else (⟨0, 0⟩, e)
theorem stkSpan_stk (e lo hi : Int) : Stk (span lo hi) e (stkSpan e lo hi).1 (stkSpan e lo hi).2 := by
  unfold stkSpan span
  by_cases h : e = 0
  · cases hk : okS lo hi
    · exact .inl ⟨h, .inr (by simp [h])⟩
    · exact .inl ⟨h, .inl (by simp [h])⟩
  · exact .inr ⟨h, by simp [h]⟩
theorem stkSpan_ok (e lo hi : Int) : (stkSpan e lo hi).1.ok = true := by
  unfold stkSpan
  split
  · split
    · assumption
    · rfl
  · rfl
theorem stkSpan_err (e lo hi : Int) (h : (stkSpan e lo hi).2 ≠ 0) : (stkSpan e lo hi).1 = ⟨0, 0⟩ := by
  revert h
  unfold stkSpan
  split
  · split <;> simp
  · simp
end Go.Proofs.Ytpbbbfglecbceaa.En
/- Plain: the document's quotients of spans. -/
namespace Go.Proofs.Ytpbbbfglecbceaa.En
set_option linter.all false

/-- The document's quotient, rounded down; out of range it is far. -/
def ovr (a b : Int) : Int := if 2048 < a / b then 35184372088832 else if a / b < -2048 then -35184372088832 else a * 1073741824 / b
def ovu (a b : Int) : Int := -(ovr (-a) b)

/-- The same, or out of range on the same side. -/
def sim (x y : Int) : Prop := x = y ∨ (1099511627776 < x ∧ 1099511627776 < y) ∨ (x < -1099511627776 ∧ y < -1099511627776)
theorem sim_min {a b c d : Int} (h : sim a b) (k : sim c d) : sim (min a c) (min b d) := by unfold sim at *; omega
theorem sim_max {a b c d : Int} (h : sim a b) (k : sim c d) : sim (max a c) (max b d) := by unfold sim at *; omega
theorem sim_neg {a b : Int} (h : sim a b) : sim (-a) (-b) := by unfold sim at *; omega
theorem span_sim {l l' h h' : Int} (hl : sim l l') (hh : sim h h') : span l h = span l' h' := by
  unfold span okS
  unfold sim at hl hh
  rcases hl with rfl | hl
  · rcases hh with rfl | hh
    · rfl
    · rw [if_neg (by simp; omega), if_neg (by simp; omega)]
  · rw [if_neg (by simp; omega), if_neg (by simp; omega)]

theorem over_q (a b c : Int) (hc : 0 < c) : (over a b c).q = min (abs a * abs b / c) 4611686018427387904 := by
  have hcc : (over a b c).c = c := by unfold over abs; dsimp only; rw [if_neg (by omega)]
  have hN : (over a b c).hi * 18446744073709551616 + (over a b c).lo = abs a * abs b := by unfold over; dsimp only; omega
  have hl : 0 ≤ (over a b c).lo := by unfold over; dsimp only; omega
  unfold Fr.q
  rw [hcc, hN]
  split
  · next h =>
    have h1 : c * 18446744073709551616 ≤ abs a * abs b := by omega
    have h2 : 18446744073709551616 ≤ abs a * abs b / c := (Int.le_ediv_iff_mul_le hc).2 (by rw [Int.mul_comm]; exact h1)
    omega
  · rfl
/-- The floor by sign and size. -/
theorem floor_cases (f : Fr) : (f.neg = false ∧ f.floor = f.q) ∨ (f.neg = true ∧ (f.floor = -f.q ∨ f.floor = -f.q - 1)) := by
  unfold Fr.floor
  cases h : f.neg
  · exact .inl ⟨rfl, by simp⟩
  · refine .inr ⟨rfl, ?_⟩
    cases f.exact
    · exact .inr (by simp)
    · exact .inl (by simp)
theorem over_neg_one (a b : Int) (hb : 0 < b) : (over a 1073741824 b).neg = decide (a < 0) := by
  unfold over
  dsimp only
  have h1 : decide (b < 0) = false := by simp; omega
  rw [h1]
  by_cases h : a < 0
  · have : abs a * abs 1073741824 ≠ 0 := by
      have := abs_pos a (by omega)
      intro h0
      rcases Int.mul_eq_zero.1 h0 with h | h
      · omega
      · revert h; decide
    simp [h, this]
  · simp [h]

theorem one_abs (a : Int) : abs a * abs 1073741824 = abs a * 1073741824 := rfl
/-- Near: no quotient is saturated. -/
theorem near_floor {a b : Int} (hb : 0 < b) (h : abs a ≤ 4096 * b) : (over a 1073741824 b).floor = a * 1073741824 / b := by
  refine over_floor a 1073741824 b hb ?_
  rw [one_abs]
  have h1 : abs a * 1073741824 ≤ 4398046511104 * b := by omega
  have : abs a * 1073741824 / b ≤ 4398046511104 := Int.ediv_le_of_le_mul hb h1
  omega
theorem near_ceil {a b : Int} (hb : 0 < b) (h : abs a ≤ 4096 * b) : (over a 1073741824 b).ceil = -(-(a * 1073741824) / b) := by
  refine over_ceil a 1073741824 b hb ?_
  rw [one_abs]
  have h1 : abs a * 1073741824 ≤ 4398046511104 * b := by omega
  have : abs a * 1073741824 / b ≤ 4398046511104 := Int.ediv_le_of_le_mul hb h1
  omega
theorem far_q {a b : Int} (hb : 0 < b) (h : ¬ abs a ≤ 4096 * b) : 4398046511104 ≤ (over a 1073741824 b).q := by
  rw [over_q a 1073741824 b hb, one_abs]
  have : 4398046511104 ≤ abs a * 1073741824 / b := (Int.le_ediv_iff_mul_le hb).2 (by omega)
  omega

theorem ovr_sim_near {a b : Int} (hb : 0 < b) : sim (a * 1073741824 / b) (ovr a b) := by
  unfold ovr sim
  by_cases h1 : 2048 < a / b
  · rw [if_pos h1]
    have h2 : 2049 * b ≤ a := (Int.le_ediv_iff_mul_le hb).1 (by omega)
    have : 2200096997376 ≤ a * 1073741824 / b := (Int.le_ediv_iff_mul_le hb).2 (by omega)
    omega
  · rw [if_neg h1]
    by_cases h2 : a / b < -2048
    · rw [if_pos h2]
      have h3 : a < -2048 * b := (Int.ediv_lt_iff_lt_mul hb).1 h2
      have : a * 1073741824 / b < -2199023255552 := (Int.ediv_lt_iff_lt_mul hb).2 (by omega)
      omega
    · rw [if_neg h2]
      omega
theorem ovr_far_pos {a b : Int} (hb : 0 < b) (h : 4096 * b < a) : 1099511627776 < ovr a b := by
  unfold ovr
  have : 4096 ≤ a / b := (Int.le_ediv_iff_mul_le hb).2 (by omega)
  rw [if_pos (by omega)]
  omega
theorem ovr_far_neg {a b : Int} (hb : 0 < b) (h : a < -(4096 * b)) : ovr a b < -1099511627776 := by
  unfold ovr
  have : a / b < -4095 := (Int.ediv_lt_iff_lt_mul hb).2 (by omega)
  rw [if_neg (by omega), if_pos (by omega)]
  omega

theorem ovr_sim {a b : Int} (hb : 0 < b) : sim (over a 1073741824 b).floor (ovr a b) := by
  by_cases h : abs a ≤ 4096 * b
  · rw [near_floor hb h]
    exact ovr_sim_near hb
  · have hq := far_q hb h
    have hn := over_neg_one a b hb
    rcases floor_cases (over a 1073741824 b) with ⟨h1, h2⟩ | ⟨h1, h2⟩
    · rw [hn] at h1
      have ha : ¬ a < 0 := of_decide_eq_false h1
      have hp : 4096 * b < a := by unfold abs at h; rw [if_neg ha] at h; omega
      have := ovr_far_pos hb hp
      unfold sim
      omega
    · rw [hn] at h1
      have ha : a < 0 := of_decide_eq_true h1
      have hp : a < -(4096 * b) := by unfold abs at h; rw [if_pos ha] at h; omega
      have := ovr_far_neg hb hp
      unfold sim
      omega
theorem ovu_sim {a b : Int} (hb : 0 < b) : sim (over a 1073741824 b).ceil (ovu a b) := by
  by_cases h : abs a ≤ 4096 * b
  · rw [near_ceil hb h]
    unfold ovu
    have := sim_neg (ovr_sim_near (a := -a) hb)
    rw [Int.neg_mul] at this
    exact this
  · have hq := far_q hb h
    have hn := over_neg_one a b hb
    unfold ovu
    have hcl : (over a 1073741824 b).ceil = -({ over a 1073741824 b with neg := !(over a 1073741824 b).neg } : Fr).floor := rfl
    rw [hcl]
    clear hcl
    have hq' : ({ over a 1073741824 b with neg := !(over a 1073741824 b).neg } : Fr).q = (over a 1073741824 b).q := rfl
    rcases floor_cases { over a 1073741824 b with neg := !(over a 1073741824 b).neg } with ⟨h1, h2⟩ | ⟨h1, h2⟩
    · dsimp only at h1
      rw [hn] at h1
      rw [hq'] at h2
      have ha : a < 0 := by simpa using h1
      have hp : a < -(4096 * b) := by unfold abs at h; rw [if_pos ha] at h; omega
      have := ovr_far_pos (a := -a) hb (by omega)
      rw [h2]
      unfold sim
      omega
    · dsimp only at h1
      rw [hn] at h1
      rw [hq'] at h2
      have ha : ¬ a < 0 := by simpa using h1
      have hp : 4096 * b < a := by unfold abs at h; rw [if_neg ha] at h; omega
      have := ovr_far_neg (a := -a) hb (by omega)
      unfold sim
      rcases h2 with h2 | h2 <;> rw [h2] <;> omega

theorem div_eq {s t : Sp} (ht : 0 < t.lo) (htt : t.lo ≤ t.hi) : div s t = span (min (min (min (ovr s.lo t.lo) (ovr s.lo t.hi)) (ovr s.hi t.lo)) (ovr s.hi t.hi)) (max (max (max (ovu s.lo t.lo) (ovu s.lo t.hi)) (ovu s.hi t.lo)) (ovu s.hi t.hi)) := by
  unfold div around4
  rw [if_neg (by omega)]
  simp only [lowF, highF, fr4]
  have h2 : 0 < t.hi := by omega
  exact span_sim (sim_min (sim_min (sim_min (ovr_sim ht) (ovr_sim h2)) (ovr_sim ht)) (ovr_sim h2)) (sim_max (sim_max (sim_max (ovu_sim ht) (ovu_sim h2)) (ovu_sim ht)) (ovu_sim h2))

theorem ovr_le {a b : Int} (hb : 0 < b) (h1 : -1099511627776 ≤ a) (h2 : a ≤ 1099511627776) : -35184372088832 ≤ ovr a b ∧ ovr a b ≤ 35184372088832 := by
  unfold ovr
  by_cases k1 : 2048 < a / b
  · rw [if_pos k1]; omega
  · rw [if_neg k1]
    by_cases k2 : a / b < -2048
    · rw [if_pos k2]; omega
    · rw [if_neg k2]
      have e1 : a < 2049 * b := (Int.ediv_lt_iff_lt_mul hb).1 (by omega)
      have e2 : -2048 * b ≤ a := (Int.le_ediv_iff_mul_le hb).1 (by omega)
      have e3 : a * 1073741824 / b < 2200096997376 := (Int.ediv_lt_iff_lt_mul hb).2 (by omega)
      have e4 : -2199023255552 ≤ a * 1073741824 / b := (Int.le_ediv_iff_mul_le hb).2 (by omega)
      omega

/-- One round of the document's division. -/
theorem ovr_round {a b : Int} (hb : 0 < b) : a / b * 32768 + a % b * 32768 / b = a * 32768 / b ∧ a % b * 32768 % b = a * 32768 % b := by
  have h1 := Int.mul_ediv_add_emod a b
  have e : a * 32768 = a % b * 32768 + b * (a / b * 32768) := by
    have : b * (a / b * 32768) = b * (a / b) * 32768 := by rw [Int.mul_assoc]
    omega
  refine ⟨?_, ?_⟩
  · rw [e, Int.add_mul_ediv_left _ _ (by omega)]
    omega
  · rw [e, Int.add_mul_emod_self_left]
end Go.Proofs.Ytpbbbfglecbceaa.En
/- Plain: wider rectangles have wider powers, wider spans wider roots. -/
namespace Go.Proofs.Ytpbbbfglecbceaa.En
set_option linter.all false

/-- s lies in t. -/
def Sub (s t : Sp) : Prop := t.lo ≤ s.lo ∧ s.hi ≤ t.hi

theorem sq_abs {a b : Int} (h1 : -b ≤ a) (h2 : a ≤ b) : a * a ≤ b * b := by
  have hb : 0 ≤ b := by omega
  have h := abs_mul_le h1 h2 h1 h2
  rw [abs_mul_abs] at h
  exact (le_of_abs h).2
theorem up_mono {a b c d : Int} (h : a * b ≤ c * d) : up a b ≤ up c d := by unfold up; omega
theorem dn_mono {a b c d : Int} (h : a * b ≤ c * d) : dn a b ≤ dn c d := by unfold dn; omega
theorem neg_sq (a : Int) : (-a) * (-a) = a * a := Int.neg_mul_neg a a

theorem up_sq_le {a l h : Int} (h1 : l ≤ a) (h2 : a ≤ h) : up a a ≤ max (up l l) (up h h) := by
  rcases Int.le_total 0 a with h0 | h0
  · have := up_mono (sq_abs (a := a) (b := h) (by omega) h2)
    omega
  · have := up_mono (sq_abs (a := a) (b := -l) (by omega) (by omega))
    have e : up (-l) (-l) = up l l := by unfold up; rw [neg_sq]
    omega

theorem square_in {s t a b : Sp} (hs : s.ok = true) (ht : t.ok = true) (h : Sub s t) (ha : square s = .ok a) (hb : square t = .ok b) : Sub a b := by
  have fs := Sp.fit_of_ok hs
  have ft := Sp.fit_of_ok ht
  have ls := Sp.le_of_ok hs
  have lt := Sp.le_of_ok ht
  obtain ⟨h1, h2⟩ := h
  have u1 := up_sq_le (a := s.lo) h1 (by omega : s.lo ≤ t.hi)
  have u2 := up_sq_le (a := s.hi) (by omega : t.lo ≤ s.hi) h2
  have n1 := dn_self_nonneg s.lo
  have n2 := dn_self_nonneg s.hi
  rw [square_eq fs] at ha
  rw [square_eq ft] at hb
  by_cases hz : t.lo ≤ 0 ∧ 0 ≤ t.hi
  · rw [if_pos hz] at hb
    obtain ⟨rfl, -⟩ := span_eq hb
    split at ha
    · obtain ⟨rfl, -⟩ := span_eq ha
      exact ⟨Int.le_refl _, by dsimp only; omega⟩
    · obtain ⟨rfl, -⟩ := span_eq ha
      exact ⟨by dsimp only; omega, by dsimp only; omega⟩
  · rw [if_neg hz] at hb
    rw [if_neg (by omega)] at ha
    obtain ⟨rfl, -⟩ := span_eq hb
    obtain ⟨rfl, -⟩ := span_eq ha
    refine ⟨?_, by dsimp only; omega⟩
    dsimp only
    rcases Int.lt_or_le 0 t.lo with hp | hp
    · have m1 := dn_mono (sq_abs (a := t.lo) (b := s.lo) (by omega) h1)
      have m2 := dn_mono (sq_abs (a := t.lo) (b := s.hi) (by omega) (by omega))
      omega
    · have m1 := dn_mono (sq_abs (a := -t.hi) (b := -s.lo) (by omega) (by omega))
      have m2 := dn_mono (sq_abs (a := -t.hi) (b := -s.hi) (by omega) (by omega))
      have e : ∀ x : Int, dn (-x) (-x) = dn x x := fun x => by unfold dn; rw [neg_sq]
      rw [e, e] at m1 m2
      omega
theorem add_in {s t s' t' a b : Sp} (h : Sub s s') (k : Sub t t') (ha : add s t = .ok a) (hb : add s' t' = .ok b) : Sub a b := by
  obtain ⟨rfl, -⟩ := span_eq ha
  obtain ⟨rfl, -⟩ := span_eq hb
  obtain ⟨h1, h2⟩ := h
  obtain ⟨k1, k2⟩ := k
  exact ⟨by dsimp only; omega, by dsimp only; omega⟩
theorem ok_parts {x : Rc} (h : x.ok = true) : x.re.ok = true ∧ x.im.ok = true := by
  simp only [Rc.ok, Bool.and_eq_true] at h
  exact h
theorem power_in {x y : Rc} {a b : Sp} (hx : x.ok = true) (hy : y.ok = true) (h1 : Sub x.re y.re) (h2 : Sub x.im y.im) (ha : power x = .ok a) (hb : power y = .ok b) : Sub a b := by
  obtain ⟨p, hp, ha⟩ := bind_ok ha
  obtain ⟨q, hq, ha⟩ := bind_ok ha
  obtain ⟨r, hr, hb⟩ := bind_ok hb
  obtain ⟨s, hs, hb⟩ := bind_ok hb
  exact add_in (square_in (ok_parts hx).1 (ok_parts hy).1 h1 hp hr) (square_in (ok_parts hx).2 (ok_parts hy).2 h2 hq hs) ha hb
theorem roots_in {s t a b : Sp} (hs : s.ok = true) (ht : t.ok = true) (h0 : 0 ≤ t.lo) (h : Sub s t) (ha : roots s = .ok a) (hb : roots t = .ok b) : Sub a b := by
  obtain ⟨h1, h2⟩ := h
  have ls := Sp.le_of_ok hs
  have ft := Sp.fit_of_ok ht
  obtain ⟨rfl, -⟩ := span_eq ha
  obtain ⟨rfl, -⟩ := span_eq hb
  refine ⟨root_le h0 h1 (by have := ft.d; omega), ?_⟩
  dsimp only
  have m := root_le (m := s.hi) (n := t.hi) (by omega) h2 ft.d
  obtain ⟨r0, r1, r2, r3⟩ := root_spec (n := s.hi) (by omega) (by have := ft.d; omega)
  obtain ⟨q0, q1, q2, q3⟩ := root_spec (n := t.hi) (by omega) ft.d
  split
  · split <;> omega
  · next hne =>
    split
    · next he =>
      by_cases hlt : root s.hi < root t.hi
      · omega
      · have e : root s.hi = root t.hi := by omega
        rw [e] at r2 hne
        omega
    · omega
end Go.Proofs.Ytpbbbfglecbceaa.En
/- Plain: what rectangles and two-ports enclose; two-ports that are joined either way round have something in common. -/
namespace Go.Proofs.Ytpbbbfglecbceaa.En
set_option linter.all false

/-- A number that a span encloses. -/
def Sp.has (s : Sp) (x : Rat) : Prop := (s.lo : Rat) ≤ x * 1073741824 ∧ x * 1073741824 ≤ (s.hi : Rat)
def Rc.has (r : Rc) (x y : Rat) : Prop := r.re.has x ∧ r.im.has y

theorem rat_le {a b : Int} (h : a ≤ b) : (a : Rat) ≤ (b : Rat) := Rat.intCast_le_intCast.2 h
theorem c30 : ((1073741824 : Int) : Rat) = 1073741824 := rfl
theorem corner_le {a b c d x y m : Rat} (h : a ≤ x) (h' : x ≤ b) (h2 : c ≤ y) (h3 : y ≤ d) (h4 : m ≤ a*c) (h5 : m ≤ a*d) (h6 : m ≤ b*c) (h7 : m ≤ b*d) : m ≤ x*y := by
  rcases Rat.le_total (a:=0) (b:=y) with hy | hy
  · have := Rat.mul_le_mul_of_nonneg_right h hy
    rcases Rat.le_total (a:=0) (b:=a) with ha | ha
    · have := Rat.mul_le_mul_of_nonneg_left h2 ha
      grind
    · have := Rat.mul_le_mul_of_nonneg_left h3 (c := -a) (by grind)
      grind
  · have := Rat.mul_le_mul_of_nonneg_right h' (c := -y) (by grind)
    rcases Rat.le_total (a:=0) (b:=b) with ha | ha
    · have := Rat.mul_le_mul_of_nonneg_left h2 ha
      grind
    · have := Rat.mul_le_mul_of_nonneg_left h3 (c := -b) (by grind)
      grind
theorem corner_ge {a b c d x y m : Rat} (h : a ≤ x) (h' : x ≤ b) (h2 : c ≤ y) (h3 : y ≤ d) (h4 : a*c ≤ m) (h5 : a*d ≤ m) (h6 : b*c ≤ m) (h7 : b*d ≤ m) : x*y ≤ m := by
  have := corner_le (a := a) (b := b) (c := -d) (d := -c) (x := x) (y := -y) (m := -m) h h' (by grind) (by grind) (by grind) (by grind) (by grind) (by grind)
  grind
theorem dn_rat {m a b : Int} (h : m ≤ dn a b) : (m : Rat) * 1073741824 ≤ (a : Rat) * (b : Rat) := by
  have : m * 1073741824 ≤ a * b := by unfold dn at h; omega
  have := rat_le this
  rw [Rat.intCast_mul, Rat.intCast_mul, c30] at this
  exact this
theorem up_rat {m a b : Int} (h : up a b ≤ m) : (a : Rat) * (b : Rat) ≤ (m : Rat) * 1073741824 := by
  have : a * b ≤ m * 1073741824 := by unfold up at h; omega
  have := rat_le this
  rw [Rat.intCast_mul, Rat.intCast_mul, c30] at this
  exact this

theorem add_has {s t u : Sp} {x y : Rat} (h : add s t = .ok u) (hx : s.has x) (hy : t.has y) : u.has (x + y) := by
  obtain ⟨rfl, -⟩ := span_eq h
  obtain ⟨a, b⟩ := hx
  obtain ⟨c, d⟩ := hy
  constructor
  · show ((s.lo + t.lo : Int) : Rat) ≤ _
    rw [Rat.intCast_add]; grind
  · show _ ≤ ((s.hi + t.hi : Int) : Rat)
    rw [Rat.intCast_add]; grind
theorem sub_has {s t u : Sp} {x y : Rat} (h : sub s t = .ok u) (hx : s.has x) (hy : t.has y) : u.has (x - y) := by
  obtain ⟨rfl, -⟩ := span_eq h
  obtain ⟨a, b⟩ := hx
  obtain ⟨c, d⟩ := hy
  constructor
  · show ((s.lo - t.hi : Int) : Rat) ≤ _
    rw [Rat.intCast_sub]; grind
  · show _ ≤ ((s.hi - t.lo : Int) : Rat)
    rw [Rat.intCast_sub]; grind
theorem mul_has {s t u : Sp} {x y : Rat} (hs : s.ok = true) (ht : t.ok = true) (h : mul s t = .ok u) (hx : s.has x) (hy : t.has y) : u.has (x * y) := by
  rw [mul_eq (Sp.fit_of_ok hs) (Sp.fit_of_ok ht)] at h
  obtain ⟨rfl, -⟩ := span_eq h
  obtain ⟨a, b⟩ := hx
  obtain ⟨c, d⟩ := hy
  constructor
  · have := corner_le a b c d (dn_rat (m := min (min (min (dn s.lo t.lo) (dn s.lo t.hi)) (dn s.hi t.lo)) (dn s.hi t.hi)) (by omega)) (dn_rat (by omega)) (dn_rat (by omega)) (dn_rat (by omega))
    dsimp only
    grind
  · have := corner_ge a b c d (up_rat (m := max (max (max (up s.lo t.lo) (up s.lo t.hi)) (up s.hi t.lo)) (up s.hi t.hi)) (by omega)) (up_rat (by omega)) (up_rat (by omega)) (up_rat (by omega))
    dsimp only
    grind
theorem sq_nonneg (x : Rat) : 0 ≤ x * x := by
  rcases Rat.le_total (a:=0) (b:=x) with h | h
  · exact Rat.mul_nonneg h h
  · have := Rat.mul_nonneg (a := -x) (b := -x) (by grind) (by grind)
    grind
theorem square_has {s u : Sp} {x : Rat} (hs : s.ok = true) (h : square s = .ok u) (hx : s.has x) : u.has (x * x) := by
  have hle := Sp.le_of_ok hs
  rw [square_eq (Sp.fit_of_ok hs)] at h
  obtain ⟨a, b⟩ := hx
  have hup : ∀ m : Int, up s.lo s.lo ≤ m → up s.hi s.hi ≤ m → x * 1073741824 * (x * 1073741824) ≤ (m : Rat) * 1073741824 := by
    intro m h1 h2
    have h3 := up_rat h1
    have h4 := up_rat h2
    rcases Rat.le_total (a:=0) (b:=x) with h0 | h0
    · have := Rat.mul_le_mul_of_nonneg_right b (c := x * 1073741824) (by grind)
      have := Rat.mul_le_mul_of_nonneg_left b (c := (s.hi : Rat)) (by grind)
      grind
    · have := Rat.mul_le_mul_of_nonneg_right a (c := -(x * 1073741824)) (by grind)
      have := Rat.mul_le_mul_of_nonneg_left a (c := -(s.lo : Rat)) (by grind)
      grind
  have hdn : ∀ m : Int, ¬ (s.lo ≤ 0 ∧ 0 ≤ s.hi) → m ≤ dn s.lo s.lo → m ≤ dn s.hi s.hi → (m : Rat) * 1073741824 ≤ x * 1073741824 * (x * 1073741824) := by
    intro m h0 h1 h2
    have h3 := dn_rat h1
    have h4 := dn_rat h2
    rcases Int.lt_or_le 0 s.lo with hp | hp
    · have hp' : (0 : Rat) ≤ (s.lo : Rat) := rat_le (a := 0) (by omega)
      have := Rat.mul_le_mul_of_nonneg_right a (c := x * 1073741824) (by grind)
      have := Rat.mul_le_mul_of_nonneg_left a (c := (s.lo : Rat)) (by grind)
      grind
    · have hp' : (s.hi : Rat) ≤ (0 : Rat) := rat_le (b := 0) (by omega)
      have := Rat.mul_le_mul_of_nonneg_right b (c := -(x * 1073741824)) (by grind)
      have := Rat.mul_le_mul_of_nonneg_left b (c := -(s.hi : Rat)) (by grind)
      grind
  split at h
  · obtain ⟨rfl, -⟩ := span_eq h
    have h1 := hup (max (up s.lo s.lo) (up s.hi s.hi)) (by omega) (by omega)
    have h2 := sq_nonneg x
    constructor
    · show ((0 : Int) : Rat) ≤ _
      have : ((0 : Int) : Rat) = 0 := rfl
      rw [this]
      grind
    · dsimp only
      grind
  · next hz =>
    obtain ⟨rfl, -⟩ := span_eq h
    have h1 := hup (max (up s.lo s.lo) (up s.hi s.hi)) (by omega) (by omega)
    have h2 := hdn (min (dn s.lo s.lo) (dn s.hi s.hi)) hz (by omega) (by omega)
    constructor
    · dsimp only
      grind
    · dsimp only
      grind

theorem ovr_iff {m a b : Int} (hb : 0 < b) (h1 : -1099511627776 ≤ m) (h2 : m ≤ 1099511627776) : m ≤ ovr a b ↔ m * b ≤ a * 1073741824 := by
  unfold ovr
  have hm1 : m * b ≤ 1099511627776 * b := Int.mul_le_mul_of_nonneg_right h2 (by omega)
  have hm2 : -1099511627776 * b ≤ m * b := Int.mul_le_mul_of_nonneg_right h1 (by omega)
  by_cases k1 : 2048 < a / b
  · rw [if_pos k1]
    have : 2049 * b ≤ a := (Int.le_ediv_iff_mul_le hb).1 (by omega)
    exact ⟨fun _ => by omega, fun _ => by omega⟩
  · rw [if_neg k1]
    by_cases k2 : a / b < -2048
    · rw [if_pos k2]
      have : a < -2048 * b := (Int.ediv_lt_iff_lt_mul hb).1 k2
      exact ⟨fun _ => by omega, fun _ => by omega⟩
    · rw [if_neg k2]
      exact Int.le_ediv_iff_mul_le hb
theorem div_has {s t u : Sp} {x y : Rat} (ht : 0 < t.lo) (htt : t.lo ≤ t.hi) (h : div s t = .ok u) (hx : s.has x) (hy : t.has y) : u.has (x / y) := by
  rw [div_eq ht htt] at h
  obtain ⟨rfl, hu⟩ := span_eq h
  have hf := Sp.fit_of_ok hu
  have hl := Sp.le_of_ok hu
  obtain ⟨f1, f2, f3, f4⟩ := hf
  dsimp only at f1 f2 f3 f4 hl
  obtain ⟨a, b⟩ := hx
  obtain ⟨c, d⟩ := hy
  have hc0 : (0 : Rat) < (t.lo : Rat) := by exact_mod_cast ht
  have hy0 : 0 < y := by grind
  generalize hm : min (min (min (ovr s.lo t.lo) (ovr s.lo t.hi)) (ovr s.hi t.lo)) (ovr s.hi t.hi) = m at *
  generalize hM : max (max (max (ovu s.lo t.lo) (ovu s.lo t.hi)) (ovu s.hi t.lo)) (ovu s.hi t.hi) = M at *
  have e1 : m * t.lo ≤ s.lo * 1073741824 := (ovr_iff ht f1 (by omega)).1 (by omega)
  have e2 : m * t.hi ≤ s.lo * 1073741824 := (ovr_iff (by omega) f1 (by omega)).1 (by omega)
  have e3 : -M * t.lo ≤ -s.hi * 1073741824 := (ovr_iff ht (by omega) (by omega)).1 (by unfold ovu at hM; omega)
  have e4 : -M * t.hi ≤ -s.hi * 1073741824 := (ovr_iff (by omega) (by omega) (by omega)).1 (by unfold ovu at hM; omega)
  have r1 : (m : Rat) * (t.lo : Rat) ≤ (s.lo : Rat) * 1073741824 := by have := rat_le e1; rw [Rat.intCast_mul, Rat.intCast_mul, c30] at this; exact this
  have r2 : (m : Rat) * (t.hi : Rat) ≤ (s.lo : Rat) * 1073741824 := by have := rat_le e2; rw [Rat.intCast_mul, Rat.intCast_mul, c30] at this; exact this
  have r3 : -(M : Rat) * (t.lo : Rat) ≤ -(s.hi : Rat) * 1073741824 := by have := rat_le e3; rw [Rat.intCast_mul, Rat.intCast_mul, Rat.intCast_neg, Rat.intCast_neg, c30] at this; exact this
  have r4 : -(M : Rat) * (t.hi : Rat) ≤ -(s.hi : Rat) * 1073741824 := by have := rat_le e4; rw [Rat.intCast_mul, Rat.intCast_mul, Rat.intCast_neg, Rat.intCast_neg, c30] at this; exact this
  have key : ∀ n q : Rat, n * (t.lo : Rat) ≤ q → n * (t.hi : Rat) ≤ q → n * (y * 1073741824) ≤ q := by
    intro n q h1 h2
    rcases Rat.le_total (a:=0) (b:=n) with h0 | h0
    · have := Rat.mul_le_mul_of_nonneg_left d h0
      grind
    · have := Rat.mul_le_mul_of_nonneg_left c (c := -n) (by grind)
      grind
  have k1 := key (m : Rat) _ r1 r2
  have k2 := key (-(M : Rat)) _ r3 r4
  have hxy : x / y * y = x := by grind
  have div_le : ∀ n q : Rat, n * y ≤ q * y → n ≤ q := by
    intro n q hh
    rcases Rat.le_total (a := n) (b := q) with h | h
    · exact h
    · have h5 := Rat.mul_le_mul_of_nonneg_right h (c := y) (by grind)
      have h6 : (n - q) * y = 0 := by grind
      have : n - q = 0 := by grind
      grind
  constructor
  · refine div_le _ _ ?_
    show (m : Rat) * y ≤ _
    grind
  · refine div_le _ _ ?_
    show _ ≤ (M : Rat) * y
    grind

/-- A complex number. -/
structure Cx where
  re : Rat
  im : Rat
def Cx.add (x y : Cx) : Cx := ⟨x.re + y.re, x.im + y.im⟩
def Cx.sub (x y : Cx) : Cx := ⟨x.re - y.re, x.im - y.im⟩
def Cx.mul (x y : Cx) : Cx := ⟨x.re * y.re - x.im * y.im, x.re * y.im + x.im * y.re⟩
def Cx.div (x y : Cx) : Cx := ⟨(x.re * y.re + x.im * y.im) / (y.re * y.re + y.im * y.im), (x.im * y.re - x.re * y.im) / (y.re * y.re + y.im * y.im)⟩
def Rc.enc (r : Rc) (x : Cx) : Prop := r.re.has x.re ∧ r.im.has x.im

theorem plus_enc {x y z : Rc} {p q : Cx} (h : plus x y = .ok z) (hx : x.enc p) (hy : y.enc q) : z.enc (p.add q) := by
  obtain ⟨a, ha, h⟩ := bind_ok h
  obtain ⟨b, hb, h⟩ := bind_ok h
  cases h
  exact ⟨add_has ha hx.1 hy.1, add_has hb hx.2 hy.2⟩
theorem minus_enc {x y z : Rc} {p q : Cx} (h : minus x y = .ok z) (hx : x.enc p) (hy : y.enc q) : z.enc (p.sub q) := by
  obtain ⟨a, ha, h⟩ := bind_ok h
  obtain ⟨b, hb, h⟩ := bind_ok h
  cases h
  exact ⟨sub_has ha hx.1 hy.1, sub_has hb hx.2 hy.2⟩
theorem times_enc {x y z : Rc} {p q : Cx} (kx : x.ok = true) (ky : y.ok = true) (h : times x y = .ok z) (hx : x.enc p) (hy : y.enc q) : z.enc (p.mul q) := by
  obtain ⟨kx1, kx2⟩ := ok_parts kx
  obtain ⟨ky1, ky2⟩ := ok_parts ky
  obtain ⟨a, ha, h⟩ := bind_ok h
  obtain ⟨b, hb, h⟩ := bind_ok h
  obtain ⟨c, hc, h⟩ := bind_ok h
  obtain ⟨d, hd, h⟩ := bind_ok h
  obtain ⟨e, he, h⟩ := bind_ok h
  obtain ⟨f, hf, h⟩ := bind_ok h
  cases h
  exact ⟨sub_has hc (mul_has kx1 ky1 ha hx.1 hy.1) (mul_has kx2 ky2 hb hx.2 hy.2), add_has hf (mul_has kx1 ky2 hd hx.1 hy.2) (mul_has kx2 ky1 he hx.2 hy.1)⟩
theorem power_has {x : Rc} {s : Sp} {p : Cx} (kx : x.ok = true) (h : power x = .ok s) (hx : x.enc p) : s.has (p.re * p.re + p.im * p.im) := by
  obtain ⟨kx1, kx2⟩ := ok_parts kx
  obtain ⟨a, ha, h⟩ := bind_ok h
  obtain ⟨b, hb, h⟩ := bind_ok h
  exact add_has h (square_has kx1 ha hx.1) (square_has kx2 hb hx.2)
theorem conj_okS {x : Rc} (h : x.ok = true) : (conj x).ok = true := by
  obtain ⟨h1, h2⟩ := ok_parts h
  refine Rc.ok_mk h1 ?_
  simp only [Sp.ok, okS, Bool.and_eq_true, decide_eq_true_eq] at h2 ⊢
  omega
theorem quotient_enc {x y z : Rc} {p q : Cx} (kx : x.ok = true) (ky : y.ok = true) (h : quotient x y = .ok z) (hx : x.enc p) (hy : y.enc q) : z.enc (p.div q) := by
  obtain ⟨s, hs, h⟩ := bind_ok h
  split at h
  · cases h
  · next h0 =>
    obtain ⟨u, hu, h⟩ := bind_ok h
    obtain ⟨a, ha, h⟩ := bind_ok h
    obtain ⟨b, hb, h⟩ := bind_ok h
    cases h
    have hP := power_has ky hs hy
    have hc : (conj y).enc ⟨q.re, -q.im⟩ := by
      obtain ⟨h1, h2, h3⟩ := hy
      refine ⟨h1, ?_, ?_⟩
      · show ((-y.im.hi : Int) : Rat) ≤ _
        rw [Rat.intCast_neg]; dsimp only; grind
      · show _ ≤ ((-y.im.lo : Int) : Rat)
        rw [Rat.intCast_neg]; dsimp only; grind
    obtain ⟨z1, z2⟩ := times_enc kx (conj_okS ky) hu hx hc
    have hle := Sp.le_of_ok (power_ok hs)
    have w1 := div_has (by omega) hle ha z1 hP
    have w2 := div_has (by omega) hle hb z2 hP
    refine ⟨?_, ?_⟩
    · have e : (p.div q).re = (p.mul ⟨q.re, -q.im⟩).re / (q.re * q.re + q.im * q.im) := by
        show _ / _ = _ / _
        congr 1
        show _ = p.re * q.re - p.im * -q.im
        grind
      rw [e]; exact w1
    · have e : (p.div q).im = (p.mul ⟨q.re, -q.im⟩).im / (q.re * q.re + q.im * q.im) := by
        show _ / _ = _ / _
        congr 1
        show _ = p.re * -q.im + p.im * q.re
        grind
      rw [e]; exact w2

def oneR : Rc := ⟨one, ⟨0, 0⟩⟩
/-- Port 1 of p joined with port 0 of q. -/
def star (p q : Pt) : R Pt := do
  let m ← times p.s11 q.s00
  let d ← minus oneR m
  let a ← times p.s01 q.s00
  let b ← times a p.s10
  let r ← quotient b d
  let o00 ← plus p.s00 r
  let c ← times p.s01 q.s01
  let o01 ← quotient c d
  let e ← times q.s10 p.s10
  let o10 ← quotient e d
  let f ← times q.s10 p.s11
  let g ← times f q.s01
  let r' ← quotient g d
  let o11 ← plus q.s11 r'
  pure ⟨o00, o01, o10, o11⟩
def mir (p : Pt) : Pt := ⟨p.s11, p.s10, p.s01, p.s00⟩
/-- What a two-port encloses. -/
structure Cp where
  s00 : Cx
  s01 : Cx
  s10 : Cx
  s11 : Cx
structure Pt.enc (p : Pt) (c : Cp) : Prop where
  s00 : p.s00.enc c.s00
  s01 : p.s01.enc c.s01
  s10 : p.s10.enc c.s10
  s11 : p.s11.enc c.s11
def Cx.one : Cx := ⟨1, 0⟩
def Cp.star (p q : Cp) : Cp :=
  ⟨p.s00.add (((p.s01.mul q.s00).mul p.s10).div (Cx.one.sub (p.s11.mul q.s00))), (p.s01.mul q.s01).div (Cx.one.sub (p.s11.mul q.s00)),
   (q.s10.mul p.s10).div (Cx.one.sub (p.s11.mul q.s00)), q.s11.add (((q.s10.mul p.s11).mul q.s01).div (Cx.one.sub (p.s11.mul q.s00)))⟩
def Cp.mir (p : Cp) : Cp := ⟨p.s11, p.s10, p.s01, p.s00⟩
theorem c00 : ((0 : Int) : Rat) = 0 := rfl
theorem one_has : one.has 1 := by unfold Sp.has one; rw [c30]; grind
theorem zero_has : (⟨0, 0⟩ : Sp).has 0 := by unfold Sp.has; rw [c00]; grind
theorem oneR_enc : oneR.enc Cx.one := ⟨one_has, zero_has⟩
def ptOkB (p : Pt) : Bool := p.s00.ok && p.s01.ok && p.s10.ok && p.s11.ok
structure Pt.Ok (p : Pt) : Prop where
  s00 : p.s00.ok = true
  s01 : p.s01.ok = true
  s10 : p.s10.ok = true
  s11 : p.s11.ok = true
theorem star_enc {p q o : Pt} {u v : Cp} (kp : p.Ok) (kq : q.Ok) (h : star p q = .ok o) (hp : p.enc u) (hq : q.enc v) : o.enc (u.star v) := by
  obtain ⟨m, hm, h⟩ := bind_ok h
  obtain ⟨d, hd, h⟩ := bind_ok h
  obtain ⟨a, ha, h⟩ := bind_ok h
  obtain ⟨b, hb, h⟩ := bind_ok h
  obtain ⟨r, hr, h⟩ := bind_ok h
  obtain ⟨o0, h0, h⟩ := bind_ok h
  obtain ⟨c, hc, h⟩ := bind_ok h
  obtain ⟨o1, h1, h⟩ := bind_ok h
  obtain ⟨e, he, h⟩ := bind_ok h
  obtain ⟨o2, h2, h⟩ := bind_ok h
  obtain ⟨f, hf, h⟩ := bind_ok h
  obtain ⟨g, hg, h⟩ := bind_ok h
  obtain ⟨r', hr', h⟩ := bind_ok h
  obtain ⟨o3, h3, h⟩ := bind_ok h
  cases h
  have em := times_enc kp.s11 kq.s00 hm hp.s11 hq.s00
  have ed := minus_enc hd oneR_enc em
  have kd := minus_ok hd
  have ea := times_enc kp.s01 kq.s00 ha hp.s01 hq.s00
  have eb := times_enc (times_ok ha) kp.s10 hb ea hp.s10
  have er := quotient_enc (times_ok hb) kd hr eb ed
  have e0 := plus_enc h0 hp.s00 er
  have ec := times_enc kp.s01 kq.s01 hc hp.s01 hq.s01
  have e1 := quotient_enc (times_ok hc) kd h1 ec ed
  have ee := times_enc kq.s10 kp.s10 he hq.s10 hp.s10
  have e2 := quotient_enc (times_ok he) kd h2 ee ed
  have ef := times_enc kq.s10 kp.s11 hf hq.s10 hp.s11
  have eg := times_enc (times_ok hf) kq.s01 hg ef hq.s01
  have er' := quotient_enc (times_ok hg) kd hr' eg ed
  have e3 := plus_enc h3 hq.s11 er'
  exact ⟨e0, e1, e2, e3⟩
theorem star_ok {p q o : Pt} (h : star p q = .ok o) : o.Ok := by
  obtain ⟨m, hm, h⟩ := bind_ok h
  obtain ⟨d, hd, h⟩ := bind_ok h
  obtain ⟨a, ha, h⟩ := bind_ok h
  obtain ⟨b, hb, h⟩ := bind_ok h
  obtain ⟨r, hr, h⟩ := bind_ok h
  obtain ⟨o0, h0, h⟩ := bind_ok h
  obtain ⟨c, hc, h⟩ := bind_ok h
  obtain ⟨o1, h1, h⟩ := bind_ok h
  obtain ⟨e, he, h⟩ := bind_ok h
  obtain ⟨o2, h2, h⟩ := bind_ok h
  obtain ⟨f, hf, h⟩ := bind_ok h
  obtain ⟨g, hg, h⟩ := bind_ok h
  obtain ⟨r', hr', h⟩ := bind_ok h
  obtain ⟨o3, h3, h⟩ := bind_ok h
  cases h
  exact ⟨plus_ok h0, quotient_ok h1, quotient_ok h2, plus_ok h3⟩

theorem Cx.mul_comm (x y : Cx) : x.mul y = y.mul x := by
  unfold Cx.mul; congr 1 <;> grind
theorem Cx.mul_assoc (x y z : Cx) : (x.mul y).mul z = x.mul (y.mul z) := by
  unfold Cx.mul; dsimp only; congr 1 <;> grind
theorem Cp.star_mir (u v : Cp) : (v.mir.star u.mir).mir = u.star v := by
  unfold Cp.star Cp.mir
  dsimp only
  rw [Cx.mul_comm v.s00 u.s11]

/-- A number that both enclose. -/
theorem sp_meet {s t : Sp} {x : Rat} (hs : s.ok = true) (ht : t.ok = true) (h1 : s.has x) (h2 : t.has x) : (⟨max s.lo t.lo, min s.hi t.hi⟩ : Sp).ok = true := by
  have a := Sp.fit_of_ok hs
  have b := Sp.fit_of_ok ht
  have c := Sp.le_of_ok hs
  have d := Sp.le_of_ok ht
  have e : s.lo ≤ t.hi := by
    have : (s.lo : Rat) ≤ (t.hi : Rat) := by obtain ⟨p, -⟩ := h1; obtain ⟨-, q⟩ := h2; grind
    exact_mod_cast this
  have f : t.lo ≤ s.hi := by
    have : (t.lo : Rat) ≤ (s.hi : Rat) := by obtain ⟨-, p⟩ := h1; obtain ⟨q, -⟩ := h2; grind
    exact_mod_cast this
  obtain ⟨a1, a2, a3, a4⟩ := a
  obtain ⟨b1, b2, b3, b4⟩ := b
  simp only [Sp.ok, okS, Bool.and_eq_true, decide_eq_true_eq]
  omega
def capRc (x y : Rc) : Rc := ⟨⟨max x.re.lo y.re.lo, min x.re.hi y.re.hi⟩, ⟨max x.im.lo y.im.lo, min x.im.hi y.im.hi⟩⟩
theorem rc_meet {x y : Rc} {p : Cx} (hx : x.ok = true) (hy : y.ok = true) (h1 : x.enc p) (h2 : y.enc p) : (capRc x y).ok = true :=
  Rc.ok_mk (sp_meet (ok_parts hx).1 (ok_parts hy).1 h1.1 h2.1) (sp_meet (ok_parts hx).2 (ok_parts hy).2 h1.2 h2.2)

theorem sp_lo {s : Sp} (h : s.ok = true) : s.has ((s.lo : Rat) / 1073741824) := by
  have := rat_le (Sp.le_of_ok h)
  unfold Sp.has
  grind
theorem sp_hi {s : Sp} (h : s.ok = true) : s.has ((s.hi : Rat) / 1073741824) := by
  have := rat_le (Sp.le_of_ok h)
  unfold Sp.has
  grind
def Rc.c0 (r : Rc) : Cx := ⟨(r.re.lo : Rat) / 1073741824, (r.im.lo : Rat) / 1073741824⟩
def Rc.c1 (r : Rc) : Cx := ⟨(r.re.hi : Rat) / 1073741824, (r.im.hi : Rat) / 1073741824⟩
def Pt.c0 (p : Pt) : Cp := ⟨p.s00.c0, p.s01.c0, p.s10.c0, p.s11.c0⟩
def Pt.c1 (p : Pt) : Cp := ⟨p.s00.c1, p.s01.c1, p.s10.c1, p.s11.c1⟩
theorem rc_c0 {r : Rc} (h : r.ok = true) : r.enc r.c0 := ⟨sp_lo (ok_parts h).1, sp_lo (ok_parts h).2⟩
theorem rc_c1 {r : Rc} (h : r.ok = true) : r.enc r.c1 := ⟨sp_hi (ok_parts h).1, sp_hi (ok_parts h).2⟩
theorem pt_c0 {p : Pt} (h : p.Ok) : p.enc p.c0 := ⟨rc_c0 h.s00, rc_c0 h.s01, rc_c0 h.s10, rc_c0 h.s11⟩
theorem pt_c1 {p : Pt} (h : p.Ok) : p.enc p.c1 := ⟨rc_c1 h.s00, rc_c1 h.s01, rc_c1 h.s10, rc_c1 h.s11⟩

/-- Joined either way round, two-ports have something in common. -/
theorem stars_meet {p q j t : Pt} (kp : p.Ok) (kq : q.Ok) (hj : star p q = .ok j) (ht : star (mir q) (mir p) = .ok t) :
    (capRc j.s00 t.s11).ok = true ∧ (capRc j.s01 t.s10).ok = true ∧ (capRc j.s10 t.s01).ok = true ∧ (capRc j.s11 t.s00).ok = true := by
  have e1 := star_enc kp kq hj (pt_c0 kp) (pt_c0 kq)
  have e2 := star_enc (p := mir q) (q := mir p) (u := q.c0.mir) (v := p.c0.mir) ⟨kq.s11, kq.s10, kq.s01, kq.s00⟩ ⟨kp.s11, kp.s10, kp.s01, kp.s00⟩ ht
    ⟨rc_c0 kq.s11, rc_c0 kq.s10, rc_c0 kq.s01, rc_c0 kq.s00⟩ ⟨rc_c0 kp.s11, rc_c0 kp.s10, rc_c0 kp.s01, rc_c0 kp.s00⟩
  have e3 := Cp.star_mir p.c0 q.c0
  rw [← e3] at e1
  have k1 := star_ok hj
  have k2 := star_ok ht
  exact ⟨rc_meet k1.s00 k2.s11 e1.s00 e2.s11, rc_meet k1.s01 k2.s10 e1.s01 e2.s10, rc_meet k1.s10 k2.s01 e1.s10 e2.s01, rc_meet k1.s11 k2.s00 e1.s11 e2.s00⟩

def zeroR : Rc := ⟨⟨0, 0⟩, ⟨0, 0⟩⟩
def thru : Pt := ⟨zeroR, oneR, oneR, zeroR⟩
def Cx.zero : Cx := ⟨0, 0⟩
theorem zeroR_enc : zeroR.enc Cx.zero := ⟨zero_has, zero_has⟩
theorem thru_ok : thru.Ok := ⟨by decide, by decide, by decide, by decide⟩
theorem star_thru (u : Cp) : u.star ⟨Cx.zero, Cx.one, Cx.one, Cx.zero⟩ = u := by
  have e : ∀ x : Cx, x.div (Cx.one.sub (u.s11.mul Cx.zero)) = x := by
    intro x
    obtain ⟨a, b⟩ := x
    unfold Cx.div Cx.sub Cx.mul Cx.one Cx.zero
    dsimp only
    congr 1 <;> grind
  unfold Cp.star
  dsimp only
  rw [e, e, e, e]
  obtain ⟨⟨a, b⟩, ⟨c, d⟩, ⟨f, g⟩, ⟨h, i⟩⟩ := u
  unfold Cx.add Cx.mul Cx.one Cx.zero
  dsimp only
  congr 1 <;> congr 1 <;> grind
theorem sp_within {s t : Sp} (h1 : t.has ((s.lo : Rat) / 1073741824)) (h2 : t.has ((s.hi : Rat) / 1073741824)) : Sub s t := by
  obtain ⟨a, -⟩ := h1
  obtain ⟨-, b⟩ := h2
  have a' : (t.lo : Rat) ≤ (s.lo : Rat) := by grind
  have b' : (s.hi : Rat) ≤ (t.hi : Rat) := by grind
  exact ⟨by exact_mod_cast a', by exact_mod_cast b'⟩
/-- A two-port that lets all through widens at most. -/
theorem star_thru_in {p o : Pt} (kp : p.Ok) (h : star p thru = .ok o) :
    (Sub p.s00.re o.s00.re ∧ Sub p.s00.im o.s00.im) ∧ (Sub p.s01.re o.s01.re ∧ Sub p.s01.im o.s01.im) ∧ (Sub p.s10.re o.s10.re ∧ Sub p.s10.im o.s10.im) ∧ (Sub p.s11.re o.s11.re ∧ Sub p.s11.im o.s11.im) := by
  have ht : thru.enc ⟨Cx.zero, Cx.one, Cx.one, Cx.zero⟩ := ⟨zeroR_enc, oneR_enc, oneR_enc, zeroR_enc⟩
  have e1 := star_enc kp thru_ok h (pt_c0 kp) ht
  have e2 := star_enc kp thru_ok h (pt_c1 kp) ht
  rw [star_thru] at e1 e2
  exact ⟨⟨sp_within e1.s00.1 e2.s00.1, sp_within e1.s00.2 e2.s00.2⟩, ⟨sp_within e1.s01.1 e2.s01.1, sp_within e1.s01.2 e2.s01.2⟩, ⟨sp_within e1.s10.1 e2.s10.1, sp_within e1.s10.2 e2.s10.2⟩, ⟨sp_within e1.s11.1 e2.s11.1, sp_within e1.s11.2 e2.s11.2⟩⟩
end Go.Proofs.Ytpbbbfglecbceaa.En
/- Plain: wider rectangles have wider sums, differences, products and quotients; where the wider one has no error, the other has none. -/
namespace Go.Proofs.Ytpbbbfglecbceaa.En
set_option linter.all false

theorem corner_leI {a b c d x y m : Int} (h : a ≤ x) (h' : x ≤ b) (h2 : c ≤ y) (h3 : y ≤ d) (h4 : m ≤ a*c) (h5 : m ≤ a*d) (h6 : m ≤ b*c) (h7 : m ≤ b*d) : m ≤ x*y := by
  rcases Int.le_total 0 y with hy | hy
  · have := Int.mul_le_mul_of_nonneg_right h hy
    rcases Int.le_total 0 a with ha | ha
    · have := Int.mul_le_mul_of_nonneg_left h2 ha
      omega
    · have := Int.mul_le_mul_of_nonneg_left h3 (c := -a) (by omega)
      grind
  · have := Int.mul_le_mul_of_nonneg_right h' (c := -y) (by omega)
    rcases Int.le_total 0 b with ha | ha
    · have := Int.mul_le_mul_of_nonneg_left h2 ha
      grind
    · have := Int.mul_le_mul_of_nonneg_left h3 (c := -b) (by omega)
      grind
theorem corner_geI {a b c d x y m : Int} (h : a ≤ x) (h' : x ≤ b) (h2 : c ≤ y) (h3 : y ≤ d) (h4 : a*c ≤ m) (h5 : a*d ≤ m) (h6 : b*c ≤ m) (h7 : b*d ≤ m) : x*y ≤ m := by
  have := corner_leI (a := a) (b := b) (c := -d) (d := -c) (x := x) (y := -y) (m := -m) h h' (by omega) (by omega) (by grind) (by grind) (by grind) (by grind)
  grind
theorem dn_iff {m a b : Int} : m ≤ dn a b ↔ m * 1073741824 ≤ a * b := by unfold dn; omega
theorem up_iff {m a b : Int} : up a b ≤ m ↔ a * b ≤ m * 1073741824 := by unfold up; omega
theorem min4_le {m a b c d : Int} : m ≤ min (min (min a b) c) d ↔ m ≤ a ∧ m ≤ b ∧ m ≤ c ∧ m ≤ d := by omega
theorem le_max4 {m a b c d : Int} : max (max (max a b) c) d ≤ m ↔ a ≤ m ∧ b ≤ m ∧ c ≤ m ∧ d ≤ m := by omega
theorem span_mono {l h l' h' : Int} {b : Sp} (hb : span l' h' = .ok b) (h1 : l' ≤ l) (h2 : h ≤ h') (h3 : l ≤ h) : ∃ a, span l h = .ok a ∧ Sub a b := by
  obtain ⟨rfl, hk⟩ := span_eq hb
  refine ⟨⟨l, h⟩, ?_, h1, h2⟩
  unfold span
  simp only [Sp.ok, okS, Bool.and_eq_true, decide_eq_true_eq] at hk
  rw [if_pos]
  simp only [okS, Bool.and_eq_true, decide_eq_true_eq]
  omega

theorem add_mono {s t s' t' b : Sp} (ls : s.lo ≤ s.hi) (lt : t.lo ≤ t.hi) (h : Sub s s') (k : Sub t t') (hb : add s' t' = .ok b) : ∃ a, add s t = .ok a ∧ Sub a b := by
  obtain ⟨h1, h2⟩ := h
  obtain ⟨k1, k2⟩ := k
  exact span_mono hb (by omega) (by omega) (by omega)
theorem sub_mono {s t s' t' b : Sp} (ls : s.lo ≤ s.hi) (lt : t.lo ≤ t.hi) (h : Sub s s') (k : Sub t t') (hb : sub s' t' = .ok b) : ∃ a, sub s t = .ok a ∧ Sub a b := by
  obtain ⟨h1, h2⟩ := h
  obtain ⟨k1, k2⟩ := k
  exact span_mono hb (by omega) (by omega) (by omega)
theorem mul_mono {s t s' t' b : Sp} (hs : s.ok = true) (ht : t.ok = true) (hs' : s'.ok = true) (ht' : t'.ok = true) (h : Sub s s') (k : Sub t t') (hb : mul s' t' = .ok b) :
    ∃ a, mul s t = .ok a ∧ Sub a b := by
  rw [mul_eq (Sp.fit_of_ok hs') (Sp.fit_of_ok ht')] at hb
  rw [mul_eq (Sp.fit_of_ok hs) (Sp.fit_of_ok ht)]
  obtain ⟨h1, h2⟩ := h
  obtain ⟨k1, k2⟩ := k
  have ls := Sp.le_of_ok hs
  have lt := Sp.le_of_ok ht
  generalize hm : min (min (min (dn s'.lo t'.lo) (dn s'.lo t'.hi)) (dn s'.hi t'.lo)) (dn s'.hi t'.hi) = m at hb
  generalize hM : max (max (max (up s'.lo t'.lo) (up s'.lo t'.hi)) (up s'.hi t'.lo)) (up s'.hi t'.hi) = M at hb
  obtain ⟨a1, a2, a3, a4⟩ := min4_le.1 (Int.le_of_eq hm.symm)
  obtain ⟨b1, b2, b3, b4⟩ := le_max4.1 (Int.le_of_eq hM)
  have dl : ∀ x y : Int, s'.lo ≤ x → x ≤ s'.hi → t'.lo ≤ y → y ≤ t'.hi → m ≤ dn x y := fun x y q1 q2 q3 q4 =>
    dn_iff.2 (corner_leI q1 q2 q3 q4 (dn_iff.1 a1) (dn_iff.1 a2) (dn_iff.1 a3) (dn_iff.1 a4))
  have ul : ∀ x y : Int, s'.lo ≤ x → x ≤ s'.hi → t'.lo ≤ y → y ≤ t'.hi → up x y ≤ M := fun x y q1 q2 q3 q4 =>
    up_iff.2 (corner_geI q1 q2 q3 q4 (up_iff.1 b1) (up_iff.1 b2) (up_iff.1 b3) (up_iff.1 b4))
  have q := dn_le_up s.lo t.lo
  refine span_mono hb (min4_le.2 ⟨dl _ _ h1 (by omega) k1 (by omega), dl _ _ h1 (by omega) (by omega) k2, dl _ _ (by omega) h2 k1 (by omega), dl _ _ (by omega) h2 (by omega) k2⟩)
    (le_max4.2 ⟨ul _ _ h1 (by omega) k1 (by omega), ul _ _ h1 (by omega) (by omega) k2, ul _ _ (by omega) h2 k1 (by omega), ul _ _ (by omega) h2 (by omega) k2⟩) (by omega)
theorem square_mono {s t b : Sp} (hs : s.ok = true) (ht : t.ok = true) (h : Sub s t) (hb : square t = .ok b) : ∃ a, square s = .ok a ∧ Sub a b := by
  have key : ∃ a, square s = .ok a := by
    have fs := Sp.fit_of_ok hs
    have ls := Sp.le_of_ok hs
    obtain ⟨h1, h2⟩ := h
    have u1 := up_sq_le (a := s.lo) h1 (by omega : s.lo ≤ t.hi)
    have u2 := up_sq_le (a := s.hi) (by omega : t.lo ≤ s.hi) h2
    have n1 := dn_self_nonneg s.lo
    have n2 := dn_self_nonneg s.hi
    have n3 := up_self_nonneg s.lo
    have n4 := dn_le_up s.lo s.lo
    have hM : max (up t.lo t.lo) (up t.hi t.hi) ≤ 1099511627776 := by
      rw [square_eq (Sp.fit_of_ok ht)] at hb
      split at hb
      · obtain ⟨rfl, q⟩ := span_eq hb
        simp only [Sp.ok, okS, Bool.and_eq_true, decide_eq_true_eq] at q
        omega
      · obtain ⟨rfl, q⟩ := span_eq hb
        simp only [Sp.ok, okS, Bool.and_eq_true, decide_eq_true_eq] at q
        omega
    rw [square_eq fs]
    split
    · unfold span; rw [if_pos (by simp only [okS, Bool.and_eq_true, decide_eq_true_eq]; omega)]; exact ⟨_, rfl⟩
    · unfold span; rw [if_pos (by simp only [okS, Bool.and_eq_true, decide_eq_true_eq]; omega)]; exact ⟨_, rfl⟩
  obtain ⟨a, ha⟩ := key
  exact ⟨a, ha, square_in hs ht h ha hb⟩
theorem ovr_le_ovu {a b : Int} (hb : 0 < b) : ovr a b ≤ ovu a b := by
  unfold ovu ovr
  have e1 := Int.mul_ediv_add_emod a b
  have e2 := Int.emod_nonneg a (b := b) (by omega)
  have e3 := Int.emod_lt_of_pos a hb
  by_cases k1 : 2048 < a / b
  · rw [if_pos k1]
    have : 2049 * b ≤ a := (Int.le_ediv_iff_mul_le hb).1 (by omega)
    have : (-a) / b < -2048 := (Int.ediv_lt_iff_lt_mul hb).2 (by omega)
    rw [if_neg (by omega), if_pos this]
    omega
  · rw [if_neg k1]
    have u1 : a < 2049 * b := (Int.ediv_lt_iff_lt_mul hb).1 (by omega)
    by_cases k2 : a / b < -2048
    · rw [if_pos k2]
      split
      · omega
      · split
        · omega
        · next k3 k4 =>
          have : (-a) < 2049 * b := (Int.ediv_lt_iff_lt_mul hb).1 (by omega)
          have : -a * 1073741824 / b < 2200096997376 := (Int.ediv_lt_iff_lt_mul hb).2 (by omega)
          omega
    · rw [if_neg k2]
      have u2 : -2048 * b ≤ a := (Int.le_ediv_iff_mul_le hb).1 (by omega)
      have u3 : ¬ 2048 < (-a) / b := fun hh => by
        have : 2049 * b ≤ -a := (Int.le_ediv_iff_mul_le hb).1 (by omega)
        omega
      rw [if_neg u3]
      split
      · have : a * 1073741824 / b < 2200096997376 := (Int.ediv_lt_iff_lt_mul hb).2 (by omega)
        omega
      · rw [Int.neg_mul, neg_ediv (a * 1073741824) b hb]
        split <;> omega
theorem div_mono {s t s' t' b : Sp} (ls : s.lo ≤ s.hi) (lt : t.lo ≤ t.hi) (h : Sub s s') (k : Sub t t') (h0 : 0 < t'.lo) (hb : div s' t' = .ok b) : ∃ a, div s t = .ok a ∧ Sub a b := by
  obtain ⟨h1, h2⟩ := h
  obtain ⟨k1, k2⟩ := k
  rw [div_eq h0 (by omega)] at hb
  rw [div_eq (by omega) lt]
  have hk := (span_eq hb).2
  have he := (span_eq hb).1
  generalize hm : min (min (min (ovr s'.lo t'.lo) (ovr s'.lo t'.hi)) (ovr s'.hi t'.lo)) (ovr s'.hi t'.hi) = m at hb he
  generalize hM : max (max (max (ovu s'.lo t'.lo) (ovu s'.lo t'.hi)) (ovu s'.hi t'.lo)) (ovu s'.hi t'.hi) = M at hb he
  subst he
  have hf := Sp.fit_of_ok hk
  obtain ⟨f1, f2, f3, f4⟩ := hf
  dsimp only at f1 f2 f3 f4
  obtain ⟨a1, a2, a3, a4⟩ := min4_le.1 (Int.le_of_eq hm.symm)
  obtain ⟨b1, b2, b3, b4⟩ := le_max4.1 (Int.le_of_eq hM)
  have key : ∀ n x y z : Int, -1099511627776 ≤ n → n ≤ 1099511627776 → n ≤ ovr x t'.lo → n ≤ ovr x t'.hi → x ≤ z → t'.lo ≤ y → y ≤ t'.hi → n ≤ ovr z y := by
    intro n x y z q1 q2 q3 q4 q5 q6 q7
    rw [ovr_iff (by omega) q1 q2] at q3 q4 ⊢
    rcases Int.le_total 0 n with h0 | h0
    · have := Int.mul_le_mul_of_nonneg_left q7 h0
      omega
    · have := Int.mul_le_mul_of_nonneg_left q6 (c := -n) (by omega)
      grind
  have dl : ∀ x y : Int, s'.lo ≤ x → x ≤ s'.hi → t'.lo ≤ y → y ≤ t'.hi → m ≤ ovr x y := fun x y q1 q2 q3 q4 => key m s'.lo y x f1 f2 a1 a2 q1 q3 q4
  have ul : ∀ x y : Int, s'.lo ≤ x → x ≤ s'.hi → t'.lo ≤ y → y ≤ t'.hi → ovu x y ≤ M := fun x y q1 q2 q3 q4 => by
    have := key (-M) (-s'.hi) y (-x) (by omega) (by omega) (by unfold ovu at b3; omega) (by unfold ovu at b4; omega) (by omega) q3 q4
    unfold ovu; omega
  have q := ovr_le_ovu (a := s.lo) (b := t.lo) (by omega)
  refine span_mono hb (min4_le.2 ⟨dl _ _ h1 (by omega) k1 (by omega), dl _ _ h1 (by omega) (by omega) k2, dl _ _ (by omega) h2 k1 (by omega), dl _ _ (by omega) h2 (by omega) k2⟩)
    (le_max4.2 ⟨ul _ _ h1 (by omega) k1 (by omega), ul _ _ h1 (by omega) (by omega) k2, ul _ _ (by omega) h2 k1 (by omega), ul _ _ (by omega) h2 (by omega) k2⟩) (by omega)

/-- x lies in y. -/
structure SubR (x y : Rc) : Prop where
  re : Sub x.re y.re
  im : Sub x.im y.im
theorem plus_mono {x y p q b : Rc} (kx : x.ok = true) (ky : y.ok = true) (h : SubR x p) (k : SubR y q) (hb : plus p q = .ok b) : ∃ a, plus x y = .ok a ∧ SubR a b := by
  obtain ⟨kx1, kx2⟩ := ok_parts kx
  obtain ⟨ky1, ky2⟩ := ok_parts ky
  obtain ⟨u, hu, hb⟩ := bind_ok hb
  obtain ⟨v, hv, hb⟩ := bind_ok hb
  cases hb
  obtain ⟨u', e1, s1⟩ := add_mono (Sp.le_of_ok kx1) (Sp.le_of_ok ky1) h.re k.re hu
  obtain ⟨v', e2, s2⟩ := add_mono (Sp.le_of_ok kx2) (Sp.le_of_ok ky2) h.im k.im hv
  exact ⟨⟨u', v'⟩, by unfold plus; rw [e1, e2]; rfl, s1, s2⟩
theorem minus_mono {x y p q b : Rc} (kx : x.ok = true) (ky : y.ok = true) (h : SubR x p) (k : SubR y q) (hb : minus p q = .ok b) : ∃ a, minus x y = .ok a ∧ SubR a b := by
  obtain ⟨kx1, kx2⟩ := ok_parts kx
  obtain ⟨ky1, ky2⟩ := ok_parts ky
  obtain ⟨u, hu, hb⟩ := bind_ok hb
  obtain ⟨v, hv, hb⟩ := bind_ok hb
  cases hb
  obtain ⟨u', e1, s1⟩ := sub_mono (Sp.le_of_ok kx1) (Sp.le_of_ok ky1) h.re k.re hu
  obtain ⟨v', e2, s2⟩ := sub_mono (Sp.le_of_ok kx2) (Sp.le_of_ok ky2) h.im k.im hv
  exact ⟨⟨u', v'⟩, by unfold minus; rw [e1, e2]; rfl, s1, s2⟩
theorem times_mono {x y p q b : Rc} (kx : x.ok = true) (ky : y.ok = true) (kp : p.ok = true) (kq : q.ok = true) (h : SubR x p) (k : SubR y q) (hb : times p q = .ok b) : ∃ a, times x y = .ok a ∧ SubR a b := by
  obtain ⟨kx1, kx2⟩ := ok_parts kx
  obtain ⟨ky1, ky2⟩ := ok_parts ky
  obtain ⟨kp1, kp2⟩ := ok_parts kp
  obtain ⟨kq1, kq2⟩ := ok_parts kq
  obtain ⟨a1, h1, hb⟩ := bind_ok hb
  obtain ⟨a2, h2, hb⟩ := bind_ok hb
  obtain ⟨a3, h3, hb⟩ := bind_ok hb
  obtain ⟨a4, h4, hb⟩ := bind_ok hb
  obtain ⟨a5, h5, hb⟩ := bind_ok hb
  obtain ⟨a6, h6, hb⟩ := bind_ok hb
  cases hb
  obtain ⟨b1, e1, s1⟩ := mul_mono kx1 ky1 kp1 kq1 h.re k.re h1
  obtain ⟨b2, e2, s2⟩ := mul_mono kx2 ky2 kp2 kq2 h.im k.im h2
  obtain ⟨b3, e3, s3⟩ := sub_mono (Sp.le_of_ok (mul_ok e1)) (Sp.le_of_ok (mul_ok e2)) s1 s2 h3
  obtain ⟨b4, e4, s4⟩ := mul_mono kx1 ky2 kp1 kq2 h.re k.im h4
  obtain ⟨b5, e5, s5⟩ := mul_mono kx2 ky1 kp2 kq1 h.im k.re h5
  obtain ⟨b6, e6, s6⟩ := add_mono (Sp.le_of_ok (mul_ok e4)) (Sp.le_of_ok (mul_ok e5)) s4 s5 h6
  refine ⟨⟨b3, b6⟩, ?_, s3, s6⟩
  show (mul x.re y.re >>= fun a => mul x.im y.im >>= fun b => sub a b >>= fun re => mul x.re y.im >>= fun c => mul x.im y.re >>= fun d => add c d >>= fun im => (pure ⟨re, im⟩ : R Rc)) = _
  rw [e1]; show (mul x.im y.im >>= fun b => sub b1 b >>= fun re => mul x.re y.im >>= fun c => mul x.im y.re >>= fun d => add c d >>= fun im => (pure ⟨re, im⟩ : R Rc)) = _
  rw [e2]; show (sub b1 b2 >>= fun re => mul x.re y.im >>= fun c => mul x.im y.re >>= fun d => add c d >>= fun im => (pure ⟨re, im⟩ : R Rc)) = _
  rw [e3]; show (mul x.re y.im >>= fun c => mul x.im y.re >>= fun d => add c d >>= fun im => (pure ⟨b3, im⟩ : R Rc)) = _
  rw [e4]; show (mul x.im y.re >>= fun d => add b4 d >>= fun im => (pure ⟨b3, im⟩ : R Rc)) = _
  rw [e5]; show (add b4 b5 >>= fun im => (pure ⟨b3, im⟩ : R Rc)) = _
  rw [e6]; rfl
theorem conj_sub {x y : Rc} (h : SubR x y) : SubR (conj x) (conj y) := by
  obtain ⟨h1, h2, h3⟩ := h
  exact ⟨h1, by show -y.im.hi ≤ -x.im.hi; omega, by show -x.im.lo ≤ -y.im.lo; omega⟩
theorem power_mono {x p : Rc} {b : Sp} (kx : x.ok = true) (kp : p.ok = true) (h : SubR x p) (hb : power p = .ok b) : ∃ a, power x = .ok a ∧ Sub a b := by
  obtain ⟨kx1, kx2⟩ := ok_parts kx
  obtain ⟨kp1, kp2⟩ := ok_parts kp
  obtain ⟨u, hu, hb⟩ := bind_ok hb
  obtain ⟨v, hv, hb⟩ := bind_ok hb
  obtain ⟨u', e1, s1⟩ := square_mono kx1 kp1 h.re hu
  obtain ⟨v', e2, s2⟩ := square_mono kx2 kp2 h.im hv
  obtain ⟨w', e3, s3⟩ := add_mono (Sp.le_of_ok (square_ok e1)) (Sp.le_of_ok (square_ok e2)) s1 s2 hb
  refine ⟨w', ?_, s3⟩
  show (square x.re >>= fun a => square x.im >>= fun b => add a b) = _
  rw [e1]; show (square x.im >>= fun b => add u' b) = _
  rw [e2]; exact e3
theorem quotient_mono {x y p q b : Rc} (kx : x.ok = true) (ky : y.ok = true) (kp : p.ok = true) (kq : q.ok = true) (h : SubR x p) (k : SubR y q) (hb : quotient p q = .ok b) : ∃ a, quotient x y = .ok a ∧ SubR a b := by
  obtain ⟨s, hs, hb⟩ := bind_ok hb
  split at hb
  · cases hb
  · next h0 =>
    obtain ⟨u, hu, hb⟩ := bind_ok hb
    obtain ⟨v1, hv1, hb⟩ := bind_ok hb
    obtain ⟨v2, hv2, hb⟩ := bind_ok hb
    cases hb
    obtain ⟨s', e1, s1⟩ := power_mono ky kq k hs
    obtain ⟨u', e2, s2⟩ := times_mono kx (conj_okS ky) kp (conj_okS kq) h (conj_sub k) hu
    have ku := times_ok e2
    obtain ⟨ku1, ku2⟩ := ok_parts ku
    obtain ⟨w1, e3, s3⟩ := div_mono (Sp.le_of_ok ku1) (Sp.le_of_ok (power_ok e1)) s2.re s1 (by omega) hv1
    obtain ⟨w2, e4, s4⟩ := div_mono (Sp.le_of_ok ku2) (Sp.le_of_ok (power_ok e1)) s2.im s1 (by omega) hv2
    refine ⟨⟨w1, w2⟩, ?_, s3, s4⟩
    show (power y >>= fun p => if p.lo ≤ 0 then .error 51 else times x (conj y) >>= fun z => div z.re p >>= fun a => div z.im p >>= fun b => (pure ⟨a, b⟩ : R Rc)) = _
    rw [e1]; show (if s'.lo ≤ 0 then .error 51 else times x (conj y) >>= fun z => div z.re s' >>= fun a => div z.im s' >>= fun b => (pure ⟨a, b⟩ : R Rc)) = _
    rw [if_neg (by have := s1.1; omega), e2]; show (div u'.re s' >>= fun a => div u'.im s' >>= fun b => (pure ⟨a, b⟩ : R Rc)) = _
    rw [e3]; show (div u'.im s' >>= fun b => (pure ⟨w1, b⟩ : R Rc)) = _
    rw [e4]; rfl
end Go.Proofs.Ytpbbbfglecbceaa.En
/- Plain: the points of the unit circle have no error, are no greater than 1 and a little, and their powers enclose 1. -/
namespace Go.Proofs.Ytpbbbfglecbceaa.En
set_option linter.all false

/-- For all units that go on from x with the bits below b there is a result for which p holds. -/
def allUnits (p : Nat → Rc → Bool) : Nat → Nat → Rc → Bool
  | 0, m, x => p m x
  | b + 1, m, x => allUnits p b m x && (match times x (bitRc b) with
    | .ok y => allUnits p b (m + 2 ^ b) y
    | .error _ => false)

theorem unitFrom_succ (m b : Nat) (x : Rc) : unitFrom m (b + 1) x = if m / 2 ^ b % 2 = 1 then times x (bitRc b) >>= unitFrom m b else unitFrom m b x := rfl
theorem allUnits_succ (p : Nat → Rc → Bool) (b m : Nat) (x : Rc) (h : allUnits p (b + 1) m x = true) : allUnits p b m x = true ∧ ∃ y, times x (bitRc b) = .ok y ∧ allUnits p b (m + 2 ^ b) y = true := by
  have e : allUnits p (b + 1) m x = (allUnits p b m x && (match times x (bitRc b) with
    | .ok y => allUnits p b (m + 2 ^ b) y
    | .error _ => false)) := rfl
  rw [e] at h
  clear e
  revert h
  generalize times x (bitRc b) = t
  intro h
  rw [Bool.and_eq_true] at h
  refine ⟨h.1, ?_⟩
  cases t with
  | error c => exact absurd h.2 (by simp)
  | ok y => exact ⟨y, rfl, h.2⟩
theorem bit_low {m0 r b k : Nat} (hk : 2 ^ b = k) (h0 : 0 < k) (q : Nat) (hm : m0 = k * (2 * q)) (h : r < k) : (m0 + r) / 2 ^ b % 2 = 0 := by
  rw [hk, hm, Nat.add_comm, Nat.add_mul_div_left _ _ h0, Nat.div_eq_of_lt h]
  omega
theorem bit_high {m0 r b k : Nat} (hk : 2 ^ b = k) (h0 : 0 < k) (q : Nat) (hm : m0 = k * (2 * q)) (h : ¬ r < k) (h' : r < 2 * k) : (m0 + r) / 2 ^ b % 2 = 1 := by
  have e : m0 + r = (r - k) + k * (2 * q + 1) := by rw [Nat.mul_add, hm]; omega
  rw [hk, e, Nat.add_mul_div_left _ _ h0, Nat.div_eq_of_lt (by omega)]
  omega
theorem allUnits_spec (p : Nat → Rc → Bool) (b : Nat) : ∀ (m0 : Nat) (x : Rc), allUnits p b m0 x = true → m0 % 2 ^ b = 0 → ∀ r, r < 2 ^ b → ∃ z, unitFrom (m0 + r) b x = .ok z ∧ p (m0 + r) z = true := by
  induction b with
  | zero =>
    intro m0 x h _ r hr
    have hr' : r < 1 := hr
    obtain rfl : r = 0 := by omega
    exact ⟨x, rfl, h⟩
  | succ b ih =>
    intro m0 x h hm r hr
    obtain ⟨h1, y, hy, h2⟩ := allUnits_succ p b m0 x h
    obtain ⟨k, hk⟩ : ∃ k, 2 ^ b = k := ⟨_, rfl⟩
    have hp : 2 ^ (b + 1) = 2 * k := by rw [Nat.pow_succ, hk]; omega
    have hpos : 0 < k := hk ▸ Nat.pow_pos (by omega)
    rw [hp] at hr hm
    obtain ⟨q, hq⟩ := Nat.dvd_of_mod_eq_zero hm
    have hm' : m0 = k * (2 * q) := by rw [hq, Nat.mul_comm 2, Nat.mul_assoc]
    have hm2 : m0 % 2 ^ b = 0 := by rw [hk, hm']; exact Nat.mul_mod_right _ _
    by_cases hlt : r < k
    · rw [unitFrom_succ, if_neg (by rw [bit_low hk hpos q hm' hlt]; omega)]
      exact ih m0 x h1 hm2 r (hk ▸ hlt)
    · rw [unitFrom_succ, if_pos (bit_high hk hpos q hm' hlt hr), hy]
      have hz := ih (m0 + 2 ^ b) y h2 (by rw [Nat.add_mod_right]; exact hm2) (r - k) (by omega)
      rw [show m0 + 2 ^ b + (r - k) = m0 + r by omega] at hz
      exact hz

/-- No part is greater than 1 and a thousand parts of the least; the power encloses 1. -/
def goodUnit (z : Rc) : Bool := (decide (-1073742824 ≤ z.re.lo) && decide (z.re.hi ≤ 1073742824) && decide (-1073742824 ≤ z.im.lo) && decide (z.im.hi ≤ 1073742824)) &&
  (match power z with
  | .ok s => decide (s.lo ≤ 1073741824) && decide (1073741824 ≤ s.hi)
  | .error _ => false)

set_option maxRecDepth 100000 in
theorem units_good : allUnits (fun _ z => goodUnit z) 10 0 ⟨one, ⟨0, 0⟩⟩ = true := by kernel_rfl

theorem unit_good (n : Int) : ∃ z, unit n = .ok z ∧ goodUnit z = true := by
  have := allUnits_spec _ 10 0 ⟨one, ⟨0, 0⟩⟩ units_good (by rfl) (n % 1024).toNat (by omega)
  rw [Nat.zero_add] at this
  exact this
end Go.Proofs.Ytpbbbfglecbceaa.En
/- Plain: what a ring lets through. -/
namespace Go.Proofs.Ytpbbbfglecbceaa.En
set_option linter.all false

/-- The least span for so many millionths. -/
def pmS (n : Int) : Sp := ⟨n * 1073741824 / 1000000, -(-(n * 1073741824) / 1000000)⟩
theorem pmS_ok {n : Int} (h0 : 0 ≤ n) (h1 : n ≤ 1000000) : (pmS n).ok = true := by
  have h2 := h0
  show okS (n * 1073741824 / 1000000) (-(-(n * 1073741824) / 1000000)) = true
  simp only [okS, Bool.and_eq_true, decide_eq_true_eq]
  omega
theorem part_pm {n : Int} (h0 : 0 ≤ n) (h1 : n ≤ 1000000) : part n 1000000 = .ok (pmS n) := by
  have hb : abs n * abs 1073741824 / 1000000 ≤ 4611686018427387904 := by
    have e : abs n = n := by unfold abs; rw [if_neg (by omega)]
    rw [e, show abs 1073741824 = 1073741824 from rfl]
    omega
  unfold part
  rw [over_floor n 1073741824 1000000 (by omega) hb, over_ceil n 1073741824 1000000 (by omega) hb]
  exact if_pos (pmS_ok h0 h1)
/-- A ring: its coupling c, what it keeps a, the turn u. -/
def ringCore (c a u : Rc) : R Rc := do
  let v ← times a u
  let up ← minus c v
  let cv ← times c v
  let dn ← minus ⟨⟨1073741824, 1073741824⟩, ⟨0, 0⟩⟩ cv
  quotient up dn
theorem unit_ok {n : Int} : ∃ u, unit n = .ok u := (unit_good n).imp fun _ h => h.1
theorem unitFrom_ok {m : Nat} : ∀ {t : Nat} {x z : Rc}, x.ok = true → unitFrom m t x = .ok z → z.ok = true
  | 0, x, z, hx, h => by
    have : x = z := by injection h
    exact this ▸ hx
  | t + 1, x, z, hx, h => by
    unfold unitFrom at h
    split at h
    · obtain ⟨y, hy, hz⟩ := bind_ok h
      exact unitFrom_ok (times_ok hy) hz
    · exact unitFrom_ok hx h
theorem unit_okR {n : Int} {u : Rc} (h : unit n = .ok u) : u.ok = true := unitFrom_ok (by decide) h
end Go.Proofs.Ytpbbbfglecbceaa.En
/- Plain: a ring that loses all; a ring that loses, or couples, a tenth. -/
namespace Go.Proofs.Ytpbbbfglecbceaa.En
set_option linter.all false

/-- No error but that of the range. -/
def o4 {α : Type} (r : R α) : Prop := ∀ c, r = .error c → c = 4
theorem o4_span (l h : Int) : o4 (span l h) := by
  intro c hc
  unfold span at hc
  split at hc
  · cases hc
  · injection hc with hc; exact hc.symm
theorem o4_pure {α : Type} (v : α) : o4 (Pure.pure v : R α) := by intro c hc; cases hc
theorem o4_bind {α β : Type} {r : R α} {f : α → R β} (hr : o4 r) (hf : ∀ v, r = .ok v → o4 (f v)) : o4 (r >>= f) := by
  intro c hc
  cases h : r with
  | error d => rw [h] at hc; have : d = c := by injection hc
               exact this ▸ hr d h
  | ok v => rw [h] at hc; exact hf v h c hc
theorem o4_times (x y : Rc) : o4 (times x y) :=
  o4_bind (o4_span _ _) fun _ _ => o4_bind (o4_span _ _) fun _ _ => o4_bind (o4_span _ _) fun _ _ => o4_bind (o4_span _ _) fun _ _ => o4_bind (o4_span _ _) fun _ _ => o4_bind (o4_span _ _) fun _ _ => o4_pure _
theorem o4_minus (x y : Rc) : o4 (minus x y) := o4_bind (o4_span _ _) fun _ _ => o4_bind (o4_span _ _) fun _ _ => o4_pure _
theorem o4_square (s : Sp) : o4 (square s) := o4_bind (o4_span _ _) fun _ _ => o4_pure _
theorem o4_power (x : Rc) : o4 (power x) := o4_bind (o4_square _) fun _ _ => o4_bind (o4_square _) fun _ _ => o4_span _ _
theorem o4_div (s t : Sp) (h : 0 < t.lo) : o4 (div s t) := by
  unfold div
  rw [if_neg (by omega)]
  exact o4_span _ _
theorem o4_quotient (x y : Rc) (h : ∀ p, power y = .ok p → 0 < p.lo) : o4 (quotient x y) := by
  refine o4_bind (o4_power y) fun p hp => ?_
  have hp0 := h p hp
  rw [if_neg (by omega)]
  exact o4_bind (o4_times _ _) fun z _ => o4_bind (o4_div _ _ hp0) fun _ _ => o4_bind (o4_div _ _ hp0) fun _ _ => o4_pure _

theorem up_le_of {a b m n : Int} (h1 : -m ≤ a) (h2 : a ≤ m) (h3 : -n ≤ b) (h4 : b ≤ n) : -(m * n / 1073741824) - 1 ≤ dn a b ∧ up a b ≤ m * n / 1073741824 + 1 := by
  have h := abs_mul_le h1 h2 h3 h4
  rw [abs_mul_abs] at h
  obtain ⟨k1, k2⟩ := le_of_abs h
  unfold dn up
  omega
/-- Bounds of a product. -/
theorem mul_bound {s t r : Sp} {m n : Int} (hs : s.fit) (ht : t.fit) (h1 : -m ≤ s.lo) (h2 : s.lo ≤ m) (h3 : -m ≤ s.hi) (h4 : s.hi ≤ m) (k1 : -n ≤ t.lo) (k2 : t.lo ≤ n) (k3 : -n ≤ t.hi) (k4 : t.hi ≤ n)
    (h : mul s t = .ok r) : -(m * n / 1073741824) - 1 ≤ r.lo ∧ r.hi ≤ m * n / 1073741824 + 1 := by
  rw [mul_eq hs ht] at h
  obtain ⟨rfl, -⟩ := span_eq h
  have a := up_le_of h1 h2 k1 k2
  have b := up_le_of h1 h2 k3 k4
  have c := up_le_of h3 h4 k1 k2
  have d := up_le_of h3 h4 k3 k4
  dsimp only
  omega
theorem mul_zero_l {t : Sp} (ht : t.fit) : mul ⟨0, 0⟩ t = .ok ⟨0, 0⟩ := by
  rw [mul_eq ⟨by decide, by decide, by decide, by decide⟩ ht]
  simp only [dn, up, Int.zero_mul]
  rfl
theorem mul_zero_r {s : Sp} (hs : s.fit) : mul s ⟨0, 0⟩ = .ok ⟨0, 0⟩ := by
  rw [mul_eq hs ⟨by decide, by decide, by decide, by decide⟩]
  simp only [dn, up, Int.mul_zero]
  rfl
theorem sub_zero {s : Sp} (hs : s.ok = true) : sub s ⟨0, 0⟩ = .ok s := by
  unfold sub span
  simp only [Int.sub_zero]
  exact if_pos hs
abbrev oneS : Sp := ⟨1073741824, 1073741824⟩
abbrev zS : Sp := ⟨0, 0⟩
theorem zfit : zS.fit := ⟨by decide, by decide, by decide, by decide⟩
theorem ofit : oneS.fit := ⟨by decide, by decide, by decide, by decide⟩
theorem mul_one {s : Sp} (hs : s.ok = true) : mul s oneS = .ok s := by
  have hl := Sp.le_of_ok hs
  rw [mul_eq (Sp.fit_of_ok hs) ofit]
  have e1 : ∀ a : Int, dn a 1073741824 = a := fun a => by unfold dn; omega
  have e2 : ∀ a : Int, up a 1073741824 = a := fun a => by unfold up; omega
  simp only [e1, e2]
  rw [show min (min (min s.lo s.lo) s.hi) s.hi = s.lo by omega, show max (max (max s.lo s.lo) s.hi) s.hi = s.hi by omega]
  exact if_pos hs
theorem div_one {s : Sp} (hs : s.ok = true) : div s oneS = .ok s := by
  have hl := Sp.le_of_ok hs
  have hf := Sp.fit_of_ok hs
  have e1 : ∀ a : Int, -1099511627776 ≤ a → a ≤ 1099511627776 → ovr a 1073741824 = a := fun a h1 h2 => by
    unfold ovr
    rw [if_neg (by omega), if_neg (by omega)]
    omega
  rw [div_eq (by decide) (by decide)]
  simp only [ovu]
  rw [e1 _ hf.a hf.b, e1 _ hf.c hf.d, e1 _ (by have := hf.b; omega) (by have := hf.a; omega), e1 _ (by have := hf.d; omega) (by have := hf.c; omega)]
  rw [show min (min (min s.lo s.lo) s.hi) s.hi = s.lo by omega, show max (max (max (- -s.lo) (- -s.lo)) (- -s.hi)) (- -s.hi) = s.hi by omega]
  exact if_pos hs

/-- A ring that loses all lets its coupling through. -/
theorem ring_zero {s : Sp} {u : Rc} (hs : s.ok = true) (hu : u.ok = true) : ringCore ⟨s, zS⟩ ⟨zS, zS⟩ u = .ok ⟨s, zS⟩ := by
  have fs := Sp.fit_of_ok hs
  have fu := Rc.fit_of_ok hu
  have t1 : times ⟨zS, zS⟩ u = .ok ⟨zS, zS⟩ := by
    unfold times
    simp only [mul_zero_l fu.re, mul_zero_l fu.im]
    rfl
  have t2 : minus ⟨s, zS⟩ ⟨zS, zS⟩ = .ok ⟨s, zS⟩ := by
    unfold minus
    simp only [sub_zero hs]
    rfl
  have t3 : times ⟨s, zS⟩ ⟨zS, zS⟩ = .ok ⟨zS, zS⟩ := by
    unfold times
    simp only [mul_zero_r fs, mul_zero_r zfit]
    rfl
  have t4 : minus ⟨oneS, zS⟩ ⟨zS, zS⟩ = .ok ⟨oneS, zS⟩ := rfl
  have t5 : times ⟨s, zS⟩ ⟨oneS, zS⟩ = .ok ⟨s, zS⟩ := by
    unfold times
    simp only [mul_one hs, mul_zero_r zfit, mul_zero_r fs, mul_zero_l ofit]
    show (sub s zS >>= fun re => _) = _
    rw [sub_zero hs]
    rfl
  have t6 : quotient ⟨s, zS⟩ ⟨oneS, zS⟩ = .ok ⟨s, zS⟩ := by
    have hp : power ⟨oneS, zS⟩ = .ok oneS := by kernel_rfl
    unfold quotient
    rw [hp]
    show (if oneS.lo ≤ 0 then (Except.error 51 : R Rc) else times ⟨s, zS⟩ ⟨oneS, zS⟩ >>= fun z => div z.re oneS >>= fun a => div z.im oneS >>= fun b => Pure.pure ⟨a, b⟩) = _
    rw [if_neg (by decide), t5]
    show (div s oneS >>= fun a => div zS oneS >>= fun b => _) = _
    rw [div_one hs, div_one (by decide)]
    rfl
  unfold ringCore
  rw [t1]
  show (minus ⟨s, zS⟩ ⟨zS, zS⟩ >>= fun up => times ⟨s, zS⟩ ⟨zS, zS⟩ >>= fun cv => minus ⟨oneS, zS⟩ cv >>= fun dn => quotient up dn) = _
  rw [t2, t3]
  show (minus ⟨oneS, zS⟩ ⟨zS, zS⟩ >>= fun dn => quotient ⟨s, zS⟩ dn) = _
  rw [t4]
  exact t6


theorem sq_le' {a b : Int} (h0 : 0 ≤ a) (h : a ≤ b) : a * a ≤ b * b := Int.mul_le_mul h h h0 (by omega)
theorem power_pos {y : Rc} {p : Sp} (hy : y.ok = true) (h : 65536 ≤ y.re.lo) (hp : power y = .ok p) : 0 < p.lo := by
  have fy := Rc.fit_of_ok hy
  have hre : y.re.lo ≤ y.re.hi := by
    have := hy
    simp only [Rc.ok, Bool.and_eq_true] at this
    exact Sp.le_of_ok this.1
  obtain ⟨a, ha, hp⟩ := bind_ok hp
  obtain ⟨b, hb, hp⟩ := bind_ok hp
  obtain ⟨rfl, -⟩ := span_eq hp
  rw [square_eq fy.re, if_neg (by omega)] at ha
  obtain ⟨rfl, -⟩ := span_eq ha
  have hb0 : 0 ≤ b.lo := by
    rw [square_eq fy.im] at hb
    split at hb
    · obtain ⟨rfl, -⟩ := span_eq hb
      exact Int.le_refl 0
    · obtain ⟨rfl, -⟩ := span_eq hb
      have := dn_self_nonneg y.im.lo
      have := dn_self_nonneg y.im.hi
      dsimp only
      omega
  have s1 := sq_le' (a := 65536) (b := y.re.lo) (by omega) h
  have s2 := sq_le' (a := 65536) (b := y.re.hi) (by omega) (by omega)
  have d1 : 1 ≤ dn y.re.lo y.re.lo := by unfold dn; omega
  have d2 : 1 ≤ dn y.re.hi y.re.hi := by unfold dn; omega
  dsimp only
  omega

/-- A ring whose coupling times what it keeps is at most 0.9 and a little. -/
theorem ring_o4 {pc pa : Sp} {u : Rc} {C A : Int} (hc : pc.ok = true) (ha : pa.ok = true) (hu : u.ok = true) (c0 : 0 ≤ pc.lo) (c1 : pc.hi ≤ C) (a0 : 0 ≤ pa.lo) (a1 : pa.hi ≤ A)
    (u1 : -1073742824 ≤ u.re.lo) (u2 : u.re.hi ≤ 1073742824) (hCA : C * (A * 1073742824 / 1073741824 + 1) / 1073741824 ≤ 1000000000) (hC : 0 ≤ C) (hA : 0 ≤ A) : o4 (ringCore ⟨pc, zS⟩ ⟨pa, zS⟩ u) := by
  have fc := Sp.fit_of_ok hc
  have fa := Sp.fit_of_ok ha
  have fu := Rc.fit_of_ok hu
  have lc := Sp.le_of_ok hc
  have la := Sp.le_of_ok ha
  have lu : u.re.lo ≤ u.re.hi := by
    have := hu
    simp only [Rc.ok, Bool.and_eq_true] at this
    exact Sp.le_of_ok this.1
  refine o4_bind (o4_times _ _) fun v hv => ?_
  refine o4_bind (o4_minus _ _) fun up _ => ?_
  refine o4_bind (o4_times _ _) fun cv hcv => ?_
  refine o4_bind (o4_minus _ _) fun dn' hdn => ?_
  refine o4_quotient _ _ fun p hp => ?_
  refine power_pos (minus_ok hdn) ?_ hp
  have okv := times_ok hv
  have fv := Rc.fit_of_ok okv
  obtain ⟨m, hm, hv⟩ := bind_ok hv
  obtain ⟨m2, hm2, hv⟩ := bind_ok hv
  obtain ⟨re, hre, hv⟩ := bind_ok hv
  obtain ⟨x1, -, hv⟩ := bind_ok hv
  obtain ⟨x2, -, hv⟩ := bind_ok hv
  obtain ⟨x3, -, hv⟩ := bind_ok hv
  have e1 : v.re = re := by injection hv with hv; rw [← hv]
  rw [mul_zero_l fu.im] at hm2
  obtain rfl : zS = m2 := by injection hm2
  obtain ⟨rfl, -⟩ := span_eq hre
  have b1 := mul_bound (m := A) (n := 1073742824) fa fu.re (by omega) (by omega) (by omega) a1 u1 (by omega) (by omega) u2 hm
  obtain ⟨n, hn, hcv⟩ := bind_ok hcv
  obtain ⟨n2, hn2, hcv⟩ := bind_ok hcv
  obtain ⟨re2, hre2, hcv⟩ := bind_ok hcv
  obtain ⟨x4, -, hcv⟩ := bind_ok hcv
  obtain ⟨x5, -, hcv⟩ := bind_ok hcv
  obtain ⟨x6, -, hcv⟩ := bind_ok hcv
  have e2 : cv.re = re2 := by injection hcv with hcv; rw [← hcv]
  rw [mul_zero_l fv.im] at hn2
  obtain rfl : zS = n2 := by injection hn2
  obtain ⟨rfl, -⟩ := span_eq hre2
  rw [e1] at hn
  dsimp only at hn b1
  have okm := mul_ok hm
  have lm := Sp.le_of_ok okm
  have fre : (⟨m.lo - 0, m.hi - 0⟩ : Sp).fit := e1 ▸ fv.re
  have b2 := mul_bound (m := C) (n := A * 1073742824 / 1073741824 + 1) fc fre (by omega) (by omega) (by omega) c1 (by dsimp only; omega) (by dsimp only; omega) (by dsimp only; omega) (by dsimp only; omega) hn
  obtain ⟨d1, hd1, hdn⟩ := bind_ok hdn
  obtain ⟨d2, -, hdn⟩ := bind_ok hdn
  have e3 : dn'.re = d1 := by injection hdn with hdn; rw [← hdn]
  obtain ⟨rfl, -⟩ := span_eq hd1
  rw [e3, e2]
  dsimp only
  omega
end Go.Proofs.Ytpbbbfglecbceaa.En
/- The statements' own functions: wide, wider, in. -/
namespace Go.Proofs.Ytpbbbfglecbceaa
set_option linter.all false
open Go.RowKit

/-- Whether a rectangle lies in another one, both valid. -/
def inB (x y : En.Rc) : Bool := (x.ok && y.ok) && (En.within x.re y.re && En.within x.im y.im)
theorem inR_eq (x y : En.Rc) : inR x y = if x.ok && y.ok then (inB x y, 0) else (false, 50) := by
  unfold inR inB
  cases h : (x.ok && y.ok) <;> simp
def wideR (x : En.Rc) (a b c d : Int) : En.Rc := ⟨⟨wrap64 (x.re.lo - a), wrap64 (x.re.hi + b)⟩, ⟨wrap64 (x.im.lo - c), wrap64 (x.im.hi + d)⟩⟩

theorem wideV_any (s : En.Sp) (w : World) : Calls Try.prog 42 #[spV s] w fun e w' => e = .returned (rcV ⟨s, ⟨0, 0⟩⟩) ∧ Below w.heap.size w w' := by
  go_enter Try.func42, Try.ntmps42
  go_wp2
  refine bodyPost_ret (run_results1 rfl rfl (by (show Hd _ (w.heap.size + 1) 25 #[.int .i64 s.lo, .int .i64 s.hi, .int .i64 0, .int .i64 0]); exact hdx) Try.underlying25 rfl (by kernel_rfl)) rfl ⟨rfl, by go_grown⟩
theorem in_any (x y : En.Rc) (w : World) : Calls Try.prog 43 #[rcV x, rcV y] w fun e w' => e = .returned (.bool (inB x y)) ∧ Below w.heap.size w w' := by
  have CI := insideE_any x y
  rw [inR_eq] at CI
  cases hv : (x.ok && y.ok)
  · have hb : inB x y = false := by unfold inB; rw [hv]; rfl
    rw [hv] at CI
    rw [hb]
    clear hv hb
    replace CI := Lib.hid CI
    go_enter Try.func43, Try.ntmps43
    go_wp2_with fail
    have HA : Hd ((w.alloc (.cells #[.int .i64 x.re.lo, .int .i64 x.re.hi, .int .i64 x.im.lo, .int .i64 x.im.hi] 25)).alloc (.cells #[.int .i64 y.re.lo, .int .i64 y.re.hi, .int .i64 y.im.lo, .int .i64 y.im.hi] 25)) w.heap.size 25 #[.int .i64 x.re.lo, .int .i64 x.re.hi, .int .i64 x.im.lo, .int .i64 x.im.hi] := hdx
    have HB : Hd ((w.alloc (.cells #[.int .i64 x.re.lo, .int .i64 x.re.hi, .int .i64 x.im.lo, .int .i64 x.im.hi] 25)).alloc (.cells #[.int .i64 y.re.lo, .int .i64 y.re.hi, .int .i64 y.im.lo, .int .i64 y.im.hi] 25)) (w.heap.size + 1) 25 #[.int .i64 y.re.lo, .int .i64 y.re.hi, .int .i64 y.im.lo, .int .i64 y.im.hi] := hdx
    have bw : Below w.heap.size w ((w.alloc (.cells #[.int .i64 x.re.lo, .int .i64 x.re.hi, .int .i64 x.im.lo, .int .i64 x.im.hi] 25)).alloc (.cells #[.int .i64 y.re.lo, .int .i64 y.re.hi, .int .i64 y.im.lo, .int .i64 y.im.hi] 25)) := by go_grown
    refine (CI.out _).mono ?_
    rintro e w1 ⟨rfl, hb1⟩
    replace bw : Below w.heap.size w w1 := below_next bw hb1
    replace HA := HA.call hb1
    replace HB := HB.call hb1
    have lw1 : w.heap.size ≤ w1.heap.size := bw.size
    clear hb1
    go_wp2_with fail
    go_ret
    exact ⟨rfl, by go_grown⟩
  · rw [hv] at CI
    clear hv
    obtain ⟨b, hb⟩ : ∃ b, inB x y = b := ⟨_, rfl⟩
    rw [hb] at CI
    rw [hb]
    clear hb
    replace CI := Lib.hid CI
    cases b
    all_goals
      go_enter Try.func43, Try.ntmps43
      go_wp2_with fail
      have HA : Hd ((w.alloc (.cells #[.int .i64 x.re.lo, .int .i64 x.re.hi, .int .i64 x.im.lo, .int .i64 x.im.hi] 25)).alloc (.cells #[.int .i64 y.re.lo, .int .i64 y.re.hi, .int .i64 y.im.lo, .int .i64 y.im.hi] 25)) w.heap.size 25 #[.int .i64 x.re.lo, .int .i64 x.re.hi, .int .i64 x.im.lo, .int .i64 x.im.hi] := hdx
      have HB : Hd ((w.alloc (.cells #[.int .i64 x.re.lo, .int .i64 x.re.hi, .int .i64 x.im.lo, .int .i64 x.im.hi] 25)).alloc (.cells #[.int .i64 y.re.lo, .int .i64 y.re.hi, .int .i64 y.im.lo, .int .i64 y.im.hi] 25)) (w.heap.size + 1) 25 #[.int .i64 y.re.lo, .int .i64 y.re.hi, .int .i64 y.im.lo, .int .i64 y.im.hi] := hdx
      have bw : Below w.heap.size w ((w.alloc (.cells #[.int .i64 x.re.lo, .int .i64 x.re.hi, .int .i64 x.im.lo, .int .i64 x.im.hi] 25)).alloc (.cells #[.int .i64 y.re.lo, .int .i64 y.re.hi, .int .i64 y.im.lo, .int .i64 y.im.hi] 25)) := by go_grown
      refine (CI.out _).mono ?_
      rintro e w1 ⟨rfl, hb1⟩
      replace bw : Below w.heap.size w w1 := below_next bw hb1
      replace HA := HA.call hb1
      replace HB := HB.call hb1
      have lw1 : w.heap.size ≤ w1.heap.size := bw.size
      clear hb1
      go_wp2_with fail
      go_ret
      exact ⟨rfl, by go_grown⟩
theorem wider_any (x : En.Rc) (a b c d : Int) (a0 : 0 ≤ a) (a1 : a ≤ 65535) (b0 : 0 ≤ b) (b1 : b ≤ 65535) (c0 : 0 ≤ c) (c1 : c ≤ 65535) (d0 : 0 ≤ d) (d1 : d ≤ 65535) (w : World) : Calls Try.prog 41 #[rcV x, .agg #[.int .u16 a, .int .u16 b, .int .u16 c, .int .u16 d]] w fun e w' => e = .returned (rcV (wideR x a b c d)) ∧ Below w.heap.size w w' := by
  go_enter Try.func41, Try.ntmps41
  go_wp2
  refine bodyPost_ret (run_results1 rfl rfl (by (show Hd _ (w.heap.size + 1 + 1) 25 #[.int .i64 (wrap64 (x.re.lo - a)), .int .i64 (wrap64 (x.re.hi + b)), .int .i64 (wrap64 (x.im.lo - c)), .int .i64 (wrap64 (x.im.hi + d))]); exact hdx) Try.underlying25 rfl (by kernel_rfl)) rfl ⟨rfl, by go_grown⟩
end Go.Proofs.Ytpbbbfglecbceaa
/- What the four operations of EncloseGrows answer for wider rectangles. -/
namespace Go.Proofs.Ytpbbbfglecbceaa
set_option linter.all false

def Grows (F : En.Rc → En.Rc → En.R En.Rc) : Prop :=
  ∀ x y p q : En.Rc, inB x p = true → inB y q = true → (twoR F p q).2 = 0 → (twoR F x y).2 = 0 ∧ inB (twoR F x y).1 (twoR F p q).1 = true
theorem inB_parts {x y : En.Rc} (h : inB x y = true) : x.ok = true ∧ y.ok = true ∧ En.SubR x y := by
  simp only [inB, En.within, Bool.and_eq_true, decide_eq_true_eq] at h
  obtain ⟨⟨h1, h2⟩, ⟨h3, h4⟩, h5, h6⟩ := h
  exact ⟨h1, h2, ⟨h3, h4⟩, ⟨h5, h6⟩⟩
theorem inB_of {x y : En.Rc} (hx : x.ok = true) (hy : y.ok = true) (h : En.SubR x y) : inB x y = true := by
  obtain ⟨⟨h1, h2⟩, h3, h4⟩ := h
  simp [inB, hx, hy, En.within, h1, h2, h3, h4]
theorem grows_of {F : En.Rc → En.Rc → En.R En.Rc} (hn : ∀ p q, F p q ≠ .error 0) (hk : ∀ x y z, F x y = .ok z → z.ok = true)
    (hm : ∀ x y p q b : En.Rc, x.ok = true → y.ok = true → p.ok = true → q.ok = true → En.SubR x p → En.SubR y q → F p q = .ok b → ∃ a, F x y = .ok a ∧ En.SubR a b) : Grows F := by
  intro x y p q h1 h2 h3
  obtain ⟨kx, kp, s1⟩ := inB_parts h1
  obtain ⟨ky, kq, s2⟩ := inB_parts h2
  have e1 : (x.ok && y.ok) = true := by rw [kx, ky]; rfl
  have e2 : (p.ok && q.ok) = true := by rw [kp, kq]; rfl
  unfold twoR at h3 ⊢
  rw [if_pos e1, if_pos e2]
  rw [if_pos e2] at h3
  cases hb : F p q with
  | error c => rw [hb] at h3; exact absurd (show F p q = .error 0 by rw [hb]; exact congrArg _ h3) (hn p q)
  | ok b =>
    obtain ⟨a, ha, hs⟩ := hm x y p q b kx ky kp kq s1 s2 hb
    rw [ha]
    exact ⟨rfl, inB_of (hk _ _ _ ha) (hk _ _ _ hb) hs⟩
theorem ne0_of {α : Type} {r : En.R α} (h : En.o4 r) : r ≠ .error 0 := fun e => absurd (h 0 e) (by decide)
theorem o4_plus (x y : En.Rc) : En.o4 (En.plus x y) := En.o4_bind (En.o4_span _ _) fun _ _ => En.o4_bind (En.o4_span _ _) fun _ _ => En.o4_pure _
theorem quotient_ne (x y : En.Rc) : En.quotient x y ≠ .error 0 := by
  intro h
  cases hp : En.power y with
  | error c =>
    have : En.quotient x y = .error c := by
      show (En.power y >>= _) = _
      rw [hp]; rfl
    rw [this] at h
    have e : c = 0 := by injection h
    exact ne0_of (En.o4_power y) (e ▸ hp)
  | ok s =>
    by_cases h0 : s.lo ≤ 0
    · have : En.quotient x y = .error 51 := by
        show (En.power y >>= fun p => if p.lo ≤ 0 then .error 51 else _) = _
        rw [hp]; show (if s.lo ≤ 0 then _ else _) = _
        rw [if_pos h0]
      rw [this] at h
      injection h with h
      omega
    · exact ne0_of (En.o4_quotient x y (fun p hq => by rw [hp] at hq; cases hq; omega)) h
theorem grows_plus : Grows En.plus := grows_of (fun p q => ne0_of (o4_plus p q)) (fun _ _ _ => En.plus_ok) (fun _ _ _ _ _ kx ky _ _ h k hb => En.plus_mono kx ky h k hb)
theorem grows_minus : Grows En.minus := grows_of (fun p q => ne0_of (En.o4_minus p q)) (fun _ _ _ => En.minus_ok) (fun _ _ _ _ _ kx ky _ _ h k hb => En.minus_mono kx ky h k hb)
theorem grows_times : Grows En.times := grows_of (fun p q => ne0_of (En.o4_times p q)) (fun _ _ _ => En.times_ok) (fun _ _ _ _ _ kx ky kp kq h k hb => En.times_mono kx ky kp kq h k hb)
theorem grows_quotient : Grows En.quotient := grows_of quotient_ne (fun _ _ _ => En.quotient_ok) (fun _ _ _ _ _ kx ky kp kq h k hb => En.quotient_mono kx ky kp kq h k hb)
end Go.Proofs.Ytpbbbfglecbceaa
/- Package enclose: what Star leaves to its deferred calls. -/
namespace Go.Proofs.Ytpbbbfglecbceaa
set_option linter.all false
open Go.RowKit

/-- What joining two two-ports answers. -/
def zeroP : En.Pt := ⟨⟨⟨0, 0⟩, ⟨0, 0⟩⟩, ⟨⟨0, 0⟩, ⟨0, 0⟩⟩, ⟨⟨0, 0⟩, ⟨0, 0⟩⟩, ⟨⟨0, 0⟩, ⟨0, 0⟩⟩⟩
def outPt (r : En.R En.Pt) : En.Pt × Int := match r with
  | .ok z => (z, 0)
  | .error c => (zeroP, c)
def starR (p q : En.Pt) : En.Pt × Int := if portOk p && portOk q then outPt (En.star p q) else (zeroP, 50)
abbrev ptE (r : En.Pt × Int) : Value := .tuple #[ptV r.1, .int .i64 r.2]
theorem ne_bind {α β : Type} {r : En.R α} {f : α → En.R β} (hr : r ≠ .error 0) (hf : ∀ v, f v ≠ .error 0) : r >>= f ≠ .error 0 := by
  intro h
  cases hv : r with
  | error c => rw [hv] at h; have : c = 0 := by injection h
               exact hr (by rw [hv, this])
  | ok v => rw [hv] at h; exact hf v h
theorem star_ne (p q : En.Pt) : En.star p q ≠ .error 0 :=
  ne_bind (ne0_of (En.o4_times _ _)) fun _ => ne_bind (ne0_of (En.o4_minus _ _)) fun _ => ne_bind (ne0_of (En.o4_times _ _)) fun _ => ne_bind (ne0_of (En.o4_times _ _)) fun _ => ne_bind (quotient_ne _ _) fun _ =>
  ne_bind (ne0_of (o4_plus _ _)) fun _ => ne_bind (ne0_of (En.o4_times _ _)) fun _ => ne_bind (quotient_ne _ _) fun _ => ne_bind (ne0_of (En.o4_times _ _)) fun _ => ne_bind (quotient_ne _ _) fun _ =>
  ne_bind (ne0_of (En.o4_times _ _)) fun _ => ne_bind (ne0_of (En.o4_times _ _)) fun _ => ne_bind (quotient_ne _ _) fun _ => ne_bind (ne0_of (o4_plus _ _)) fun _ => (fun h => by cases h)
set_option maxRecDepth 100000 in
set_option maxHeartbeats 1000000 in
theorem star1_zero (ge go : Nat) (hne : ge ≠ go) (v0 v1 v2 v3 v4 v5 v6 v7 v8 v9 v10 v11 v12 v13 v14 v15 : Value) (u : FrameMode) (w : World) (HE : Hd w ge 26 #[.int .i64 0]) (HO : Hd w go 49 #[v0, v1, v2, v3, v4, v5, v6, v7, v8, v9, v10, v11, v12, v13, v14, v15]) :
    CallsD Try.prog 95 #[.pointer (some ⟨ge, 0, none⟩), .pointer (some ⟨go, 0, none⟩)] u w fun e u' w' => u' = u ∧ (e = .returned (.tuple #[]) ∧ Kn w [ge, go] [(ge, .cells #[.int .i64 0] 26), (go, .cells #[v0, v1, v2, v3, v4, v5, v6, v7, v8, v9, v10, v11, v12, v13, v14, v15] 49)] w') := by
  refine (callsD_of_wp Try.func95 rfl ?_).mono (fun e u' w' h => h)
  simp only [Try.ntmps95, List.size_toArray, List.length_cons, List.length_nil, Nat.reduceAdd, Nat.reduceSub, Array.replicate_succ, Array.replicate_zero, List.push_toArray, List.append_toArray, List.nil_append, List.cons_append]
  refine wk_startF (Kn.start2 HE HO hne) ?_
  refine wk_seq ?_
  refine wk_region [0, 0] rfl (by kernel_rfl) ?_
  simp only [List.zip_cons_cons, List.zip_nil_right]
  refine rf_load rfl rfl rfl Try.underlying26 rfl (fun w hw => (Kn.hd0 hw).at rfl) ?_
  simp only [Act.put, Act.eval, qn, qv, Nat.reduceAdd]
  refine rfb_neq rfl rfl rfl rfl ?_
  intro x h1
  obtain rfl : x = false := by (refine h1.symm.trans ?_; exact decide_eq_false (by omega))
  clear h1
  simp only [Act.put, Act.eval, qn, qv, Nat.reduceAdd]
  refine rg_nil ?_
  refine ek_next ?_
  refine wk_cond_f rfl ?_
  refine wk_skip ?_
  refine ek_norm (fun w hw => ⟨rfl, _, res_0 rfl, rfl, hw⟩)

set_option maxRecDepth 100000 in
set_option maxHeartbeats 1000000 in
theorem star1_err (ge go : Nat) (c : Int) (hc : c ≠ 0) (hne : ge ≠ go) (v0 v1 v2 v3 v4 v5 v6 v7 v8 v9 v10 v11 v12 v13 v14 v15 : Value) (u : FrameMode) (w : World) (HE : Hd w ge 26 #[.int .i64 c]) (HO : Hd w go 49 #[v0, v1, v2, v3, v4, v5, v6, v7, v8, v9, v10, v11, v12, v13, v14, v15]) :
    CallsD Try.prog 95 #[.pointer (some ⟨ge, 0, none⟩), .pointer (some ⟨go, 0, none⟩)] u w fun e u' w' => u' = u ∧ (e = .returned (.tuple #[]) ∧ Kn w [ge, go] [(ge, .cells #[.int .i64 c] 26), (go, .cells #[.int .i64 0, .int .i64 0, .int .i64 0, .int .i64 0, .int .i64 0, .int .i64 0, .int .i64 0, .int .i64 0, .int .i64 0, .int .i64 0, .int .i64 0, .int .i64 0, .int .i64 0, .int .i64 0, .int .i64 0, .int .i64 0] 49)] w') := by
  refine (callsD_of_wp Try.func95 rfl ?_).mono (fun e u' w' h => h)
  simp only [Try.ntmps95, List.size_toArray, List.length_cons, List.length_nil, Nat.reduceAdd, Nat.reduceSub, Array.replicate_succ, Array.replicate_zero, List.push_toArray, List.append_toArray, List.nil_append, List.cons_append]
  refine wk_startF (Kn.start2 HE HO hne) ?_
  refine wk_seq ?_
  refine wk_region [0, 0] rfl (by kernel_rfl) ?_
  simp only [List.zip_cons_cons, List.zip_nil_right]
  refine rf_load rfl rfl rfl Try.underlying26 rfl (fun w hw => (Kn.hd0 hw).at rfl) ?_
  simp only [Act.put, Act.eval, qn, qv, Nat.reduceAdd]
  refine rfb_neq rfl rfl rfl rfl ?_
  intro x h1
  obtain rfl : x = true := by (refine h1.symm.trans ?_; exact decide_eq_true (by omega))
  clear h1
  simp only [Act.put, Act.eval, qn, qv, Nat.reduceAdd]
  refine rg_nil ?_
  refine ek_next ?_
  refine wk_cond_t rfl ?_
  refine wk_region [0, 1] rfl (by kernel_rfl) ?_
  simp only [List.zip_cons_cons, List.zip_nil_right]
  refine rf_build (cs := fun a => #[.int .i64 0, .int .i64 0, .int .i64 0, .int .i64 0, .int .i64 0, .int .i64 0, .int .i64 0, .int .i64 0, .int .i64 0, .int .i64 0, .int .i64 0, .int .i64 0, .int .i64 0, .int .i64 0, .int .i64 0, .int .i64 0]) rfl rfl (by kernel_rfl) ?_
  simp only [Act.put, Act.eval, qn, qv, Nat.reduceAdd]
  refine rf_storeR (n := 16) rfl rfl (by kernel_rfl) rfl rfl (UpdR.there _ (UpdR.here _ _ _ (Nat.le_of_ble_eq_true rfl))) (fun _ h => by cases h) ?_
  simp only [Act.put, Act.eval, qn, qv, Nat.reduceAdd]
  refine rg_nil ?_
  refine ek_norm (fun w hw => ⟨rfl, _, res_0 rfl, rfl, hw⟩)

theorem star_err {p q : En.Pt} {w0 w : World} {s : List Blk} {ge go : Nat} {t : Array Value} {v0 v1 v2 v3 v4 v5 v6 v7 v8 v9 v10 v11 v12 v13 v14 v15 : Value} {c : Int} (hst : En.star p q = .error c) (hok : (portOk p && portOk q) = true) (K : Kn w0 [] s w) (hs : List.Sublist [(ge, Obj.cells #[.int .i64 0] 26), (go, .cells #[v0, v1, v2, v3, v4, v5, v6, v7, v8, v9, v10, v11, v12, v13, v14, v15] 49)] s)
    (h4 : t.getD 4 undef = .pointer (some ⟨go, 0, none⟩)) (h5 : t.getD 5 undef = .pointer (some ⟨ge, 0, none⟩)) :
    Leaves Try.prog Try.f49 t (fun e w' => e = .returned (ptE (starR p q)) ∧ Below w0.heap.size w0 w') [⟨.fn (.func 62) #[], #[.pointer (some ⟨ge, 0, none⟩)]⟩, ⟨.fn (.func 95) #[.pointer (some ⟨ge, 0, none⟩), .pointer (some ⟨go, 0, none⟩)], #[]⟩] (.panicking (nonev c)) w := by
  replace K := K.sub hs
  have HE := K.hd0
  have HO := K.tl.hd0
  have hne : ge ≠ go := fun h => by have := K.nodup; simp [h] at this
  have n1 : w0.heap.size ≤ ge := (K.new _ (List.Mem.head _)).resolve_left (by simp)
  have n2 : w0.heap.size ≤ go := (K.new _ (List.Mem.tail _ (List.Mem.head _))).resolve_left (by simp)
  have lt1 := HE.lt
  have lt2 := HO.lt
  have hb := K.below
  have hc : c ≠ 0 := fun h => star_ne p q (h ▸ hst)
  refine leaves_cons (f := 62) (args := #[.pointer (some ⟨ge, 0, none⟩)]) (by simp) (by simp [go_sem]) ?_
  refine (guard_panicking _ _ _ _ HE).mono ?_
  rintro e u' w'' ⟨rfl, rfl, rfl⟩
  have HE2 : Hd ((w.setCell ⟨ge, 0, none⟩ (.int .i64 c)).alloc (.cells #[.int .i64 c] 106)) ge 26 #[.int .i64 c] := by (with_reducible repeat' (first | assumption | (apply hdN; (try simp only [sA, sS, sD]); done) | apply hdA | apply hdD | apply hdS | (apply hdF; first | omega | (try simp only [sA, sS, sD]; omega)) | (simp only [sA, sS, sD]; omega) | omega | with_unfolding_all rfl))
  have HO2 : Hd ((w.setCell ⟨ge, 0, none⟩ (.int .i64 c)).alloc (.cells #[.int .i64 c] 106)) go 49 #[v0, v1, v2, v3, v4, v5, v6, v7, v8, v9, v10, v11, v12, v13, v14, v15] := by (with_reducible repeat' (first | assumption | (apply hdN; (try simp only [sA, sS, sD]); done) | apply hdA | apply hdD | apply hdS | (apply hdF; first | omega | (try simp only [sA, sS, sD]; omega)) | (simp only [sA, sS, sD]; omega) | omega | with_unfolding_all rfl))
  have hb2 : Below w0.heap.size w0 ((w.setCell ⟨ge, 0, none⟩ (.int .i64 c)).alloc (.cells #[.int .i64 c] 106)) := by go_grown
  refine leaves_cons (f := 95) (args := #[.pointer (some ⟨ge, 0, none⟩), .pointer (some ⟨go, 0, none⟩)]) (by simp [settle]) (by simp [go_sem]) ?_
  refine (star1_err _ _ c hc hne _ _ _ _ _ _ _ _ _ _ _ _ _ _ _ _ _ _ HE2 HO2).mono ?_
  rintro e u' w'' ⟨rfl, rfl, K2⟩
  refine ⟨_, run_results_ce rfl (by first | exact h4 | simpa using h4) K2.tl.hd0 Try.underlying49 rfl (by kernel_rfl) (by first | exact h5 | simpa using h5) K2.hd0 Try.underlying26, ?_, Kn.far hb2 K2 (by simp; omega) (by simp only [World.size_alloc, World.size_setCell]; omega)⟩
  unfold starR
  rw [if_pos hok, hst]
  rfl
theorem star_fin {p q : En.Pt} {w0 w : World} {s : List Blk} {ge go : Nat} {t : Array Value} {v0 v1 v2 v3 v4 v5 v6 v7 v8 v9 v10 v11 v12 v13 v14 v15 : Value} {o : En.Pt} (hst : En.star p q = .ok o) (hok : (portOk p && portOk q) = true) (hv : ptC o = #[v0, v1, v2, v3, v4, v5, v6, v7, v8, v9, v10, v11, v12, v13, v14, v15]) (K : Kn w0 [] s w) (hs : List.Sublist [(ge, Obj.cells #[.int .i64 0] 26), (go, .cells #[v0, v1, v2, v3, v4, v5, v6, v7, v8, v9, v10, v11, v12, v13, v14, v15] 49)] s)
    (h4 : t.getD 4 undef = .pointer (some ⟨go, 0, none⟩)) (h5 : t.getD 5 undef = .pointer (some ⟨ge, 0, none⟩)) :
    Leaves Try.prog Try.f49 t (fun e w' => e = .returned (ptE (starR p q)) ∧ Below w0.heap.size w0 w') [⟨.fn (.func 62) #[], #[.pointer (some ⟨ge, 0, none⟩)]⟩, ⟨.fn (.func 95) #[.pointer (some ⟨ge, 0, none⟩), .pointer (some ⟨go, 0, none⟩)], #[]⟩] .returning w := by
  replace K := K.sub hs
  have HE := K.hd0
  have HO := K.tl.hd0
  have hne : ge ≠ go := fun h => by have := K.nodup; simp [h] at this
  have n1 : w0.heap.size ≤ ge := (K.new _ (List.Mem.head _)).resolve_left (by simp)
  have n2 : w0.heap.size ≤ go := (K.new _ (List.Mem.tail _ (List.Mem.head _))).resolve_left (by simp)
  have lt1 := HE.lt
  have lt2 := HO.lt
  have hb := K.below
  refine leaves_cons (f := 62) (args := #[.pointer (some ⟨ge, 0, none⟩)]) (by simp) (by simp [go_sem]) ?_
  refine (guard_idle _ _).mono ?_
  rintro e u' w'' ⟨rfl, rfl, rfl⟩
  refine leaves_cons (f := 95) (args := #[.pointer (some ⟨ge, 0, none⟩), .pointer (some ⟨go, 0, none⟩)]) (by simp [settle]) (by simp [go_sem]) ?_
  refine (star1_zero _ _ hne _ _ _ _ _ _ _ _ _ _ _ _ _ _ _ _ _ _ HE HO).mono ?_
  rintro e u' w2 ⟨rfl, rfl, K2⟩
  refine ⟨_, run_results_ce rfl (by first | exact h4 | simpa using h4) K2.tl.hd0 Try.underlying49 rfl (by kernel_rfl) (by first | exact h5 | simpa using h5) K2.hd0 Try.underlying26, ?_, Kn.far hb K2 (by simp; omega) K.size⟩
  unfold starR
  rw [if_pos hok, hst]
  show _ = Ending.returned (.tuple #[.agg (ptC o), .int .i64 0])
  rw [hv]
end Go.Proofs.Ytpbbbfglecbceaa
