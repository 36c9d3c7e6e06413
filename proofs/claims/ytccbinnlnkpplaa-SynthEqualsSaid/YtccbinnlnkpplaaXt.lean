/- Rules for operations over lists of known blocks: division, bits, shifts by a variable, calls that the model answers itself. -/
import Derived.Test.YtccbinnlnkpplaaSq
import Derived.Test.YtccbinnlnkpplaaFa
import Derived.Laws.Externs
import Derived.Laws.Bits64b
namespace Go.Proofs.Ytccbinnlnkpplaa
set_option linter.all false
open Go.RowKit

section
variable {R : Option Nat} {P : Program} {ops : Array Oper} {Q : Exit → Act → World → Prop} {B : World} {F : List Nat} {s0 : Option (List Blk × List Blk)}
variable {l : List (Oper × Nat)} {a : Act} {s s' : List Blk} {d : Option Tmp} {op : Op} {t : TypeId} {p : String} {af : Array Edge} {v : Value} {gd : Option (Nat × Bool)} {m : Nat}

/-- A call that the model answers itself. -/
theorem rg_ext {f : Nat} {cargs : Array Operand} {at_ : Array TypeId} {args : Array Value} (hg : Region.wanted ⟨d, .call ⟨.value (.func f), cargs, at_⟩, t, p, af, gd⟩ (yielded ops a.tmps) = true)
    (h : ∀ w : World, (callFunc f args).run P w = .ok (.value v) w) (hargs : cargs.map a.eval = args)
    (hz : ∀ z ∈ s0, z.1.Sublist s) (k : Rg R P ops Q B F s0 l (a.put d v) s) :
    Rg R P ops Q B F s0 ((⟨d, .call ⟨.value (.func f), cargs, at_⟩, t, p, af, gd⟩, 1) :: l) a s :=
  rg_run hg fun w K => ⟨v, w, s, .inl (by
    have he : #[] ++ cargs.map a.eval ++ #[] = args := by simpa using hargs
    rw [execOp_call_go, he]
    exact h w), K, hz, k⟩

theorem rf_quo {x y : Operand} {T z : TypeId} {k : IntKind} {n q r : Int} (hm : soft03 m = true) (hg : Region.wanted ⟨d, .binOp .quo T x y z, t, p, af, gd⟩ (yielded ops a.tmps) = true)
    (hx : a.eval x = .int k n) (hy : a.eval y = .int k q) (hq : q ≠ 0) (hr : k.wrap (n.tdiv q) = r) (h : Rg R P ops Q B F s0 l (a.put d (.int k r)) s) : Rg R P ops Q B F s0 ((⟨d, .binOp .quo T x y z, t, p, af, gd⟩, m) :: l) a s := by
  refine rg_any hm hg (fun w => ?_) h
  unfold Yld
  simp [execOp, hx, hy, eqGuard, binOp, Op.intDiv, hq, hr]
theorem rf_rem {x y : Operand} {T z : TypeId} {k : IntKind} {n q r : Int} (hm : soft03 m = true) (hg : Region.wanted ⟨d, .binOp .rem T x y z, t, p, af, gd⟩ (yielded ops a.tmps) = true)
    (hx : a.eval x = .int k n) (hy : a.eval y = .int k q) (hq : q ≠ 0) (hr : n.tmod q = r) (h : Rg R P ops Q B F s0 l (a.put d (.int k r)) s) : Rg R P ops Q B F s0 ((⟨d, .binOp .rem T x y z, t, p, af, gd⟩, m) :: l) a s := by
  refine rg_any hm hg (fun w => ?_) h
  unfold Yld
  simp [execOp, hx, hy, eqGuard, binOp, Op.intDiv, hq, hr]
theorem rf_and {x y : Operand} {T z : TypeId} {k : IntKind} {n q r : Int} (hm : soft03 m = true) (hg : Region.wanted ⟨d, .binOp .and T x y z, t, p, af, gd⟩ (yielded ops a.tmps) = true)
    (hx : a.eval x = .int k n) (hy : a.eval y = .int k q) (hr : bits .and k n q = r) (h : Rg R P ops Q B F s0 l (a.put d (.int k r)) s) : Rg R P ops Q B F s0 ((⟨d, .binOp .and T x y z, t, p, af, gd⟩, m) :: l) a s := by
  refine rg_any hm hg (fun w => ?_) h
  unfold Yld
  subst hr
  simp [execOp, hx, hy, eqGuard, binOp, Op.intBits, bits]
theorem rf_or {x y : Operand} {T z : TypeId} {k : IntKind} {n q r : Int} (hm : soft03 m = true) (hg : Region.wanted ⟨d, .binOp .or T x y z, t, p, af, gd⟩ (yielded ops a.tmps) = true)
    (hx : a.eval x = .int k n) (hy : a.eval y = .int k q) (hr : bits .or k n q = r) (h : Rg R P ops Q B F s0 l (a.put d (.int k r)) s) : Rg R P ops Q B F s0 ((⟨d, .binOp .or T x y z, t, p, af, gd⟩, m) :: l) a s := by
  refine rg_any hm hg (fun w => ?_) h
  unfold Yld
  subst hr
  simp [execOp, hx, hy, eqGuard, binOp, Op.intBits, bits]
/-- Shifts by a number that is not negative. -/
theorem rf_shrV {x y : Operand} {T z : TypeId} {k k' : IntKind} {n q e : Int} {c : Nat} (hm : soft03 m = true) (hg : Region.wanted ⟨d, .binOp .shr T x y z, t, p, af, gd⟩ (yielded ops a.tmps) = true)
    (hx : a.eval x = .int k n) (hy : a.eval y = .int k' e) (he : e = (c : Int)) (hc : c ≤ k.bits) (hq : (2 : Int) ^ c = q) (h : Rg R P ops Q B F s0 l (a.put d (.int k (n / q))) s) : Rg R P ops Q B F s0 ((⟨d, .binOp .shr T x y z, t, p, af, gd⟩, m) :: l) a s := by
  subst he
  exact rf_shr hm hg hx hy (Nat.ble_eq_true_of_le hc) hq h
theorem rf_shlV {x y : Operand} {T z : TypeId} {k k' : IntKind} {n q e r : Int} {c : Nat} (hm : soft03 m = true) (hg : Region.wanted ⟨d, .binOp .shl T x y z, t, p, af, gd⟩ (yielded ops a.tmps) = true)
    (hx : a.eval x = .int k n) (hy : a.eval y = .int k' e) (he : e = (c : Int)) (hc : c ≤ k.bits) (hq : (2 : Int) ^ c = q) (hr : k.wrap (n * q) = r) (h : Rg R P ops Q B F s0 l (a.put d (.int k r)) s) : Rg R P ops Q B F s0 ((⟨d, .binOp .shl T x y z, t, p, af, gd⟩, m) :: l) a s := by
  subst he
  exact rf_shl hm hg hx hy (Nat.ble_eq_true_of_le hc) hq hr h
end
theorem quo_ok {n q : Int} (h0 : 0 ≤ n) (h1 : n ≤ 9223372036854775807) (hq : 0 < q) : IntKind.i64.wrap (n.tdiv q) = n / q := by
  rw [Int.tdiv_eq_ediv_of_nonneg h0]
  have h2 := Int.ediv_nonneg h0 (Int.le_of_lt hq)
  have h3 : n / q ≤ n := Int.ediv_le_self _ h0
  exact wrap_ok Ox Ox
theorem quo_okU {n q : Int} (h0 : 0 ≤ n) (h1 : n ≤ 18446744073709551615) (hq : 0 < q) : IntKind.u64.wrap (n.tdiv q) = n / q := by
  rw [Int.tdiv_eq_ediv_of_nonneg h0]
  have h2 := Int.ediv_nonneg h0 (Int.le_of_lt hq)
  have h3 : n / q ≤ n := Int.ediv_le_self _ h0
  exact wrap_okU Ox Ox
theorem rem_ok {n q : Int} (h0 : 0 ≤ n) : n.tmod q = n % q := Int.tmod_eq_emod_of_nonneg h0
theorem and_mask (x : Int) (m : Nat) (hm : m ≤ 62) : bits .and .i64 x (2 ^ m - 1 : Nat) = x % (2 ^ m : Nat) := by
  show IntKind.i64.wrap ((BitVec.ofInt 64 x &&& BitVec.ofInt 64 ((2 ^ m - 1 : Nat) : Int)).toNat : Int) = _
  have hp : 2 ^ m ≤ 2 ^ 62 := Nat.pow_le_pow_right Ox hm
  have hp0 : 0 < 2 ^ m := Nat.two_pow_pos m
  have h1 : (BitVec.ofInt 64 ((2 ^ m - 1 : Nat) : Int)).toNat = 2 ^ m - 1 := by
    rw [BitVec.toNat_ofInt]
    have : (2 : Nat) ^ 62 = 4611686018427387904 := by decide
    omega
  rw [BitVec.toNat_and, h1, Nat.and_two_pow_sub_one_eq_mod, BitVec.toNat_ofInt, IntKind.wrap_i64]
  have h62 : (2 : Nat) ^ 62 = 4611686018427387904 := by decide
  have hd : ((2 ^ m : Nat) : Int) ∣ 18446744073709551616 := by
    have : (18446744073709551616 : Int) = ((2 ^ m * 2 ^ (64 - m) : Nat) : Int) := by rw [← Nat.pow_add, show m + (64 - m) = 64 by omega]; decide
    rw [this, Int.natCast_mul]
    exact Int.dvd_mul_right _ _
  have h2 : (((x % ((2 ^ 64 : Nat) : Int)).toNat % 2 ^ m : Nat) : Int) = x % (2 ^ m : Nat) := by
    rw [Int.natCast_emod, Int.toNat_of_nonneg (Int.emod_nonneg _ (by decide))]
    exact Int.emod_emod_of_dvd x hd
  rw [h2]
  have h3 := Int.emod_nonneg x (b := ((2 ^ m : Nat) : Int)) Ox
  have h4 := Int.emod_lt_of_pos x (b := ((2 ^ m : Nat) : Int)) Ox
  omega
end Go.Proofs.Ytccbinnlnkpplaa
