/- Equality of sums with coefficients of 384 bits as values. -/
import Derived.Test.YtjeijnjaleldkaaSm
import Derived.DeepKeys
namespace Go.Proofs.Ytjeijnjaleldkaa
set_option linter.all false
open Go.RowKit

set_option maxRecDepth 100000 in
set_option maxHeartbeats 1000000 in
theorem w6_eqIn (x y : W6) (w : World) : (Op.equalIn 9999 105 (w6V x) (w6V y)).run Try.prog w = .ok (decide (x = y)) w := by
  have u3 := Try.underlying103
  have a3 := Try.isAgg103
  have z3 := Try.sizeOf103
  obtain ⟨x0, x1, x2, x3, x4, x5⟩ := x
  obtain ⟨y0, y1, y2, y3, y4, y5⟩ := y
  rw [show (9999 : Nat) = 9998 + 1 from rfl, Op.equalIn]
  simp only [Sem.run_bind, run_underlying Try.underlying105, Result.andThen_ok]
  simp only [Std.Legacy.Range.forIn_eq_forIn_range', Std.Legacy.Range.size, Nat.sub_zero, Nat.add_sub_cancel, Nat.div_one, List.range'_succ, List.range'_zero, List.forIn_cons, List.forIn_nil]
  go_simp
  by_cases h0 : x0 = y0
  · by_cases h1 : x1 = y1
    · by_cases h2 : x2 = y2
      · by_cases h3 : x3 = y3
        · by_cases h4 : x4 = y4
          · by_cases h5 : x5 = y5 <;> simp [h0, h1, h2, h3, h4, h5]
          simp [h0, h1, h2, h3, h4]
        simp [h0, h1, h2, h3]
      simp [h0, h1, h2]
    simp [h0, h1]
  simp [h0]
def smEq (X Y : Nat → Int) : Bool := decide (W6.of (X 0) = W6.of (Y 0)) && (decide (W6.of (X 1) = W6.of (Y 1)) && (decide (W6.of (X 2) = W6.of (Y 2)) && decide (W6.of (X 3) = W6.of (Y 3))))
theorem part_sm {X : Nat → Int} {m : Nat} (hm : m < 4) (w : World) : (part 105 (smC X) (m * 6)).run Try.prog w = .ok (w6V (W6.of (X m))) w := by
  unfold part
  have ha := run_isAgg (P := Try.prog) Try.underlying105 w
  have hz := Try.sizeOf105 w
  simp only [isRow] at ha
  rw [Sem.run_bind, ha, Result.andThen_ok]
  simp only [if_true, Sem.run_bind, hz, Result.andThen_ok, Sem.run_pure]
  rw [sm_idx hm]
set_option maxRecDepth 100000 in
set_option maxHeartbeats 1000000 in
theorem sm_eqIn (X Y : Nat → Int) (w : World) : (Op.equalIn 10000 107 (.agg (smC X)) (.agg (smC Y))).run Try.prog w = .ok (smEq X Y) w := by
  have z4 := Try.sizeOf105
  have p0 := part_sm (X := X) (m := 0) (by decide)
  have p1 := part_sm (X := X) (m := 1) (by decide)
  have p2 := part_sm (X := X) (m := 2) (by decide)
  have p3 := part_sm (X := X) (m := 3) (by decide)
  have r0 := part_sm (X := Y) (m := 0) (by decide)
  have r1 := part_sm (X := Y) (m := 1) (by decide)
  have r2 := part_sm (X := Y) (m := 2) (by decide)
  have r3 := part_sm (X := Y) (m := 3) (by decide)
  have e0 := w6_eqIn (W6.of (X 0)) (W6.of (Y 0))
  have e1 := w6_eqIn (W6.of (X 1)) (W6.of (Y 1))
  have e2 := w6_eqIn (W6.of (X 2)) (W6.of (Y 2))
  have e3 := w6_eqIn (W6.of (X 3)) (W6.of (Y 3))
  unfold smEq
  generalize decide (W6.of (X 0) = W6.of (Y 0)) = b0 at *
  generalize decide (W6.of (X 1) = W6.of (Y 1)) = b1 at *
  generalize decide (W6.of (X 2) = W6.of (Y 2)) = b2 at *
  generalize decide (W6.of (X 3) = W6.of (Y 3)) = b3 at *
  rw [show (10000 : Nat) = 9999 + 1 from rfl, Op.equalIn]
  simp only [Sem.run_bind, run_underlying Try.underlying107, Result.andThen_ok, z4]
  simp only [Std.Legacy.Range.forIn_eq_forIn_range', Std.Legacy.Range.size, Nat.sub_zero, Nat.add_sub_cancel, Nat.div_one, List.range'_succ, List.range'_zero, List.forIn_cons, List.forIn_nil, Nat.zero_add, Nat.reduceAdd]
  simp only [Sem.run_bind, Result.andThen_ok, p0, p1, p2, p3, r0, r1, r2, r3, e0, e1, e2, e3]
  cases b0 <;> cases b1 <;> cases b2 <;> cases b3 <;> simp [Sem.run_bind, Sem.run_pure, Result.andThen_ok, p0, p1, p2, p3, r0, r1, r2, r3, e0, e1, e2, e3]
set_option maxRecDepth 100000 in
theorem sm_guard (op : BinOp) (u v : Operand) (X Y : Nat → Int) (w : World) : (eqGuard op 107 u v (.agg (smC X)) (.agg (smC Y))).run Try.prog w = .ok () w := by
  have h : (Try.prog.eqGuardType Try.prog.depth 107) = false := by kernel_rfl
  unfold eqGuard
  cases op <;> simp [h]
theorem smEq_iff {X Y : Nat → Int} (hX : ∀ m, m < 4 → In384 (X m)) (hY : ∀ m, m < 4 → In384 (Y m)) : smEq X Y = true ↔ ∀ m, m < 4 → X m = Y m := by
  unfold smEq
  simp only [Bool.and_eq_true, decide_eq_true_eq]
  constructor
  · rintro ⟨h0, h1, h2, h3⟩ m hm
    rcases lt4 hm with rfl | rfl | rfl | rfl
    · exact W6.of_inj (hX 0 hm) (hY 0 hm) h0
    · exact W6.of_inj (hX 1 hm) (hY 1 hm) h1
    · exact W6.of_inj (hX 2 hm) (hY 2 hm) h2
    exact W6.of_inj (hX 3 hm) (hY 3 hm) h3
  intro h
  rw [h 0 (by decide), h 1 (by decide), h 2 (by decide), h 3 (by decide)]
  exact ⟨rfl, rfl, rfl, rfl⟩
section
variable {R : Option Nat} {ops : Array Oper} {Q : Exit → Act → World → Prop} {B : World} {F : List Nat} {s0 : Option (List Blk × List Blk)}
variable {l : List (Oper × Nat)} {a : Act} {s : List Blk} {d : Option Tmp} {t : TypeId} {p : String} {af : Array Edge} {gd : Option (Nat × Bool)} {m : Nat}
theorem rfb_neS {x y : Operand} {z : TypeId} (X Y : Nat → Int) (hm : soft03 m = true) (hg : Region.wanted ⟨d, .binOp .neq 107 x y z, t, p, af, gd⟩ (yielded ops a.tmps) = true)
    (hx : a.eval x = .agg (smC X)) (hy : a.eval y = .agg (smC Y)) (h : ∀ b, (!smEq X Y) = b → Rg R Try.prog ops Q B F s0 l (a.put d (.bool b)) s) : Rg R Try.prog ops Q B F s0 ((⟨d, .binOp .neq 107 x y z, t, p, af, gd⟩, m) :: l) a s := by
  refine rg_any hm hg (fun w => ?_) (h _ rfl)
  unfold Yld
  have hb : (binOp .neq 107 (.agg (smC X)) (.agg (smC Y))).run Try.prog w = .ok (.bool (!smEq X Y)) w := by rw [run_neq_struct, sm_eqIn]; rfl
  have hgd := sm_guard .neq x y X Y w
  show ((eqGuard .neq _ x y (a.eval x) (a.eval y) >>= fun _ => binOp .neq _ (a.eval x) (a.eval y)) >>= fun r => pure (Next.value r)).run Try.prog w = _
  rw [hx, hy, Sem.run_bind, Sem.run_bind, hgd, Result.andThen_ok, hb]
  rfl
end
end Go.Proofs.Ytjeijnjaleldkaa
