/- Equality of arrays of four whole numbers. -/
import Derived.Test.YtccbinnlnkpplaaEq
namespace Go.Proofs.Ytccbinnlnkpplaa
set_option linter.all false
open Go.RowKit
set_option maxRecDepth 100000 in
theorem arr_eqIn0 (a b c d a' b' c' d' : Int) (w : World) : (Op.equalIn 10000 43 (.agg #[.int .i64 a, .int .i64 b, .int .i64 c, .int .i64 d]) (.agg #[.int .i64 a', .int .i64 b', .int .i64 c', .int .i64 d'])).run Try.prog w = .ok (decide (a = a' ∧ b = b' ∧ c = c' ∧ d = d')) w := by
  have u3 := Try.underlying3
  have a3 := Try.isAgg3
  have z3 := Try.sizeOf3
  rw [show (10000 : Nat) = 9999 + 1 from rfl, Op.equalIn]
  simp only [Sem.run_bind, run_underlying Try.underlying43, Result.andThen_ok]
  simp only [Std.Legacy.Range.forIn_eq_forIn_range', Std.Legacy.Range.size, Nat.sub_zero, Nat.add_sub_cancel, Nat.div_one, List.range'_succ, List.range'_zero, List.forIn_cons, List.forIn_nil]
  go_simp
  by_cases h1 : a = a' <;> by_cases h2 : b = b' <;> by_cases h3 : c = c' <;> by_cases h4 : d = d' <;> simp [h1, h2, h3, h4]
theorem arr_guard (op : BinOp) (u v : Operand) (x y : Array Value) (w : World) : (eqGuard op 43 u v (.agg x) (.agg y)).run Try.prog w = .ok () w := by
  have h : (Try.prog.eqGuardType Try.prog.depth 43) = false := by kernel_rfl
  unfold eqGuard
  cases op <;> simp [h]
section
variable {R : Option Nat} {ops : Array Oper} {Q : Exit → Act → World → Prop} {B : World} {F : List Nat} {s0 : Option (List Blk × List Blk)}
variable {l : List (Oper × Nat)} {a : Act} {s : List Blk} {d : Option Tmp} {t : TypeId} {p : String} {af : Array Edge} {gd : Option (Nat × Bool)} {m : Nat}
theorem rf_eqA4 {x y : Operand} {z : TypeId} {i j k n i' j' k' n' : Int} (hm : soft03 m = true) (hg : Region.wanted ⟨d, .binOp .eql 43 x y z, t, p, af, gd⟩ (yielded ops a.tmps) = true)
    (hx : a.eval x = .agg #[.int .i64 i, .int .i64 j, .int .i64 k, .int .i64 n]) (hy : a.eval y = .agg #[.int .i64 i', .int .i64 j', .int .i64 k', .int .i64 n']) (h : Rg R Try.prog ops Q B F s0 l (a.put d (.bool (decide (i = i' ∧ j = j' ∧ k = k' ∧ n = n')))) s) : Rg R Try.prog ops Q B F s0 ((⟨d, .binOp .eql 43 x y z, t, p, af, gd⟩, m) :: l) a s := by
  refine rg_any hm hg (fun w => ?_) h
  unfold Yld
  have hb : (binOp .eql 43 (.agg #[.int .i64 i, .int .i64 j, .int .i64 k, .int .i64 n]) (.agg #[.int .i64 i', .int .i64 j', .int .i64 k', .int .i64 n'])).run Try.prog w = .ok (.bool (decide (i = i' ∧ j = j' ∧ k = k' ∧ n = n'))) w := by rw [run_eql_struct, arr_eqIn0]; rfl
  have hgd := arr_guard .eql x y #[.int .i64 i, .int .i64 j, .int .i64 k, .int .i64 n] #[.int .i64 i', .int .i64 j', .int .i64 k', .int .i64 n'] w
  show ((eqGuard .eql _ x y (a.eval x) (a.eval y) >>= fun _ => binOp .eql _ (a.eval x) (a.eval y)) >>= fun r => pure (Next.value r)).run Try.prog w = _
  rw [hx, hy, Sem.run_bind, Sem.run_bind, hgd, Result.andThen_ok, hb]
  rfl
end
end Go.Proofs.Ytccbinnlnkpplaa
