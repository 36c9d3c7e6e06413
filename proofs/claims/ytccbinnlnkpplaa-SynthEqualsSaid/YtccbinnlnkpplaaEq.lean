/- Equality of numbers as values. -/
import Derived.Test.YtccbinnlnkpplaaFa
import Derived.Test.YtccbinnlnkpplaaSg
import Derived.DeepKeys
namespace Go.Proofs.Ytccbinnlnkpplaa
set_option linter.all false
open Go.RowKit

set_option maxRecDepth 100000 in
theorem arr_eqIn (a b c d a' b' c' d' : Int) (w : World) : (Op.equalIn 9999 43 (.agg #[.int .i64 a, .int .i64 b, .int .i64 c, .int .i64 d]) (.agg #[.int .i64 a', .int .i64 b', .int .i64 c', .int .i64 d'])).run Try.prog w = .ok (decide (a = a' ∧ b = b' ∧ c = c' ∧ d = d')) w := by
  have u3 := Try.underlying3
  have a3 := Try.isAgg3
  have z3 := Try.sizeOf3
  rw [show (9999 : Nat) = 9998 + 1 from rfl, Op.equalIn]
  simp only [Sem.run_bind, run_underlying Try.underlying43, Result.andThen_ok]
  simp only [Std.Legacy.Range.forIn_eq_forIn_range', Std.Legacy.Range.size, Nat.sub_zero, Nat.add_sub_cancel, Nat.div_one, List.range'_succ, List.range'_zero, List.forIn_cons, List.forIn_nil]
  go_simp
  by_cases h1 : a = a' <;> by_cases h2 : b = b' <;> by_cases h3 : c = c' <;> by_cases h4 : d = d' <;> simp [h1, h2, h3, h4]
set_option maxRecDepth 100000 in
theorem nm_eqIn (x y : Nm) (w : World) : (Op.equalIn 10000 45 (nmV x) (nmV y)).run Try.prog w = .ok (decide (x = y)) w := by
  have u3 := Try.underlying3
  have a3 := Try.isAgg3
  have z3 := Try.sizeOf3
  have a4 := Try.isAgg43
  have z4 := Try.sizeOf43
  have hS : Try.prog.underlying 45 = some (.struct (Try.prog.fieldsOf 45)) := by kernel_rfl
  have hp : Try.prog.stoodInHeld 45 = false := by kernel_rfl
  have hA := arr_eqIn x.a x.b x.c x.d y.a y.b y.c y.d
  obtain ⟨xa, xb, xc, xd, xk⟩ := x
  obtain ⟨ya, yb, yc, yd, yk⟩ := y
  dsimp only at hA
  rw [show (10000 : Nat) = 9999 + 1 from rfl, run_equalIn_agg w 9999 45 _ _ hS hp]
  simp only [Program.fieldsOf, Try.underlying45]
  go_simp
  by_cases h1 : xa = ya <;> by_cases h2 : xb = yb <;> by_cases h3 : xc = yc <;> by_cases h4 : xd = yd <;> by_cases h5 : xk = yk <;> simp [h1, h2, h3, h4, h5]
set_option maxRecDepth 100000 in
theorem nm_guard (op : BinOp) (u v : Operand) (x y : Nm) (w : World) : (eqGuard op 45 u v (nmV x) (nmV y)).run Try.prog w = .ok () w := by
  have h : (Try.prog.eqGuardType Try.prog.depth 45) = false := by kernel_rfl
  unfold eqGuard
  cases op <;> simp [h]
section
variable {R : Option Nat} {ops : Array Oper} {Q : Exit → Act → World → Prop} {B : World} {F : List Nat} {s0 : Option (List Blk × List Blk)}
variable {l : List (Oper × Nat)} {a : Act} {s : List Blk} {d : Option Tmp} {t : TypeId} {p : String} {af : Array Edge} {gd : Option (Nat × Bool)} {m : Nat}
theorem rf_eqN {x y : Operand} {z : TypeId} {u v : Nm} (hm : soft03 m = true) (hg : Region.wanted ⟨d, .binOp .eql 45 x y z, t, p, af, gd⟩ (yielded ops a.tmps) = true)
    (hx : a.eval x = nmV u) (hy : a.eval y = nmV v) (h : Rg R Try.prog ops Q B F s0 l (a.put d (.bool (decide (u = v)))) s) : Rg R Try.prog ops Q B F s0 ((⟨d, .binOp .eql 45 x y z, t, p, af, gd⟩, m) :: l) a s := by
  refine rg_any hm hg (fun w => ?_) h
  unfold Yld
  have hb : (binOp .eql 45 (nmV u) (nmV v)).run Try.prog w = .ok (.bool (decide (u = v))) w := by rw [run_eql_struct, nm_eqIn]; rfl
  have hgd := nm_guard .eql x y u v w
  show ((eqGuard .eql _ x y (a.eval x) (a.eval y) >>= fun _ => binOp .eql _ (a.eval x) (a.eval y)) >>= fun r => pure (Next.value r)).run Try.prog w = _
  rw [hx, hy, Sem.run_bind, Sem.run_bind, hgd, Result.andThen_ok, hb]
  rfl
theorem rf_neN {x y : Operand} {z : TypeId} {u v : Nm} (hm : soft03 m = true) (hg : Region.wanted ⟨d, .binOp .neq 45 x y z, t, p, af, gd⟩ (yielded ops a.tmps) = true)
    (hx : a.eval x = nmV u) (hy : a.eval y = nmV v) (h : Rg R Try.prog ops Q B F s0 l (a.put d (.bool (!decide (u = v)))) s) : Rg R Try.prog ops Q B F s0 ((⟨d, .binOp .neq 45 x y z, t, p, af, gd⟩, m) :: l) a s := by
  refine rg_any hm hg (fun w => ?_) h
  unfold Yld
  have hb : (binOp .neq 45 (nmV u) (nmV v)).run Try.prog w = .ok (.bool (!decide (u = v))) w := by rw [run_neq_struct, nm_eqIn]; rfl
  have hgd := nm_guard .neq x y u v w
  show ((eqGuard .neq _ x y (a.eval x) (a.eval y) >>= fun _ => binOp .neq _ (a.eval x) (a.eval y)) >>= fun r => pure (Next.value r)).run Try.prog w = _
  rw [hx, hy, Sem.run_bind, Sem.run_bind, hgd, Result.andThen_ok, hb]
  rfl
theorem rfb_eqN {x y : Operand} {z : TypeId} (u v : Nm) (hm : soft03 m = true) (hg : Region.wanted ⟨d, .binOp .eql 45 x y z, t, p, af, gd⟩ (yielded ops a.tmps) = true)
    (hx : a.eval x = nmV u) (hy : a.eval y = nmV v) (h : ∀ b, decide (u = v) = b → Rg R Try.prog ops Q B F s0 l (a.put d (.bool b)) s) : Rg R Try.prog ops Q B F s0 ((⟨d, .binOp .eql 45 x y z, t, p, af, gd⟩, m) :: l) a s := rf_eqN hm hg hx hy (h _ rfl)
theorem rfb_neN {x y : Operand} {z : TypeId} (u v : Nm) (hm : soft03 m = true) (hg : Region.wanted ⟨d, .binOp .neq 45 x y z, t, p, af, gd⟩ (yielded ops a.tmps) = true)
    (hx : a.eval x = nmV u) (hy : a.eval y = nmV v) (h : ∀ b, (!decide (u = v)) = b → Rg R Try.prog ops Q B F s0 l (a.put d (.bool b)) s) : Rg R Try.prog ops Q B F s0 ((⟨d, .binOp .neq 45 x y z, t, p, af, gd⟩, m) :: l) a s := rf_neN hm hg hx hy (h _ rfl)
end
end Go.Proofs.Ytccbinnlnkpplaa
