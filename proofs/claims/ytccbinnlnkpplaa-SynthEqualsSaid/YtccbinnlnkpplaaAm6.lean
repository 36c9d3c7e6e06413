/- Amplitudes: what becomes of a valid number. -/
import Derived.Test.YtccbinnlnkpplaaSq
import Derived.Test.YtccbinnlnkpplaaAm5
import Derived.Test.YtccbinnlnkpplaaCallV
namespace Go.Proofs.Ytccbinnlnkpplaa
set_option linter.all false
open Go.RowKit

theorem and7 (x : Int) : bits .and .i64 x 7 = x % 8 := by
  show IntKind.i64.wrap ((BitVec.ofInt 64 x &&& BitVec.ofInt 64 7).toNat : Int) = _
  have h1 : (BitVec.ofInt 64 (7 : Int)).toNat = 2 ^ 3 - 1 := by decide
  rw [BitVec.toNat_and, h1, Nat.and_two_pow_sub_one_eq_mod, BitVec.toNat_ofInt, IntKind.wrap_i64]
  omega
/-- So many eighths of a turn. -/
def Nm.turn : Nat → Nm → Nm
  | 0, z => z
  | n + 1, z => (Nm.turn n z).rot
theorem turn_ok {z : Nm} (h : z.Ok) : ∀ n, (Nm.turn n z).Ok
  | 0 => h
  | n + 1 => rot_ok (turn_ok h n)
set_option maxRecDepth 100000 in
set_option maxHeartbeats 1000000 in
theorem amchanged_ok (z r : Nm) (hz : z.Ok) (f : Nat) (caps : Array Value) (hgo : isGo Try.prog f = true) (w : World) (hf : ∀ w', Below w.heap.size w w' → Calls Try.prog f (#[nmV z] ++ caps) w' fun e w'' => e = .returned (nmV r) ∧ Below w'.heap.size w' w'') : Calls Try.prog 153 #[nmV z, .func (.func f) #[] caps] w fun e w' => e = .returned (.tuple #[nmV r, .int .i64 0]) ∧ Below w.heap.size w w' := by
  go_enter Try.func153, Try.ntmps153
  refine wk_start ?_
  refine wk_seq ?_
  refine wk_region [1, 1, 0] rfl Kx ?_
  simp only [qy]
  refine Rgn fun g1 => ?_
  simp only [qz]
  refine Rgn fun g2 => ?_
  simp only [qz]
  refine rg_assign ?_
  simp only [qz]
  refine rg_nil (ek_next (wk_seq (wk_seq ?_)))
  refine wk_region [0, 1, 0] rfl Kx ?_
  simp only [qy]
  refine rf_loadR (n := 5) rfl rfl rfl Try.underlying45 rfl Kx (fun w hw => Kn.hd0 (Kn.tl hw)) rfl rfl ?_
  simp only [qz]
  apply rg_pure Rx Kx
  case hargs => exact Ax
  case h => exact fun w hw => by have := amvalid_any z w; rw [okB_yes hz] at this; exact this
  case hz => exact Nz
  simp only [qz]
  refine rf_not rfl rfl rfl ?_
  simp only [qz]
  refine rg_nil (ek_next (wk_cond_f rfl (wk_skip (ek_next (wk_seq ?_)))))
  refine wk_region [0, 0, 1, 1, 0] rfl Kx ?_
  simp only [qy]
  refine rg_move ?_
  simp only [qz]
  refine rf_loadR (n := 5) rfl rfl rfl Try.underlying45 rfl Kx (fun w hw => Kn.hd0 (Kn.tl hw)) rfl rfl ?_
  simp only [qz]
  refine CV.rg_callV (caps := caps) (vs := #[nmV z]) (v := nmV r) Rx rfl hgo (by simp only [qm, qs, Act.eval]) (fun w hw => hf w hw.below) Nz ?_
  simp only [qz]
  refine rf_storeR (n := 5) rfl rfl Kx rfl rfl (UpdR.here _ _ _ Nl) Nz ?_
  simp only [qz, Nat.reduceAdd]
  refine rg_assign ?_
  simp only [qz]
  refine rg_nil (ek_next (wk_ret ?_))
  refine ek_ret (fun w hw => ⟨rfl, _, run_results2 rfl rfl (Kn.hd0 hw) Try.underlying45 rfl Kx, ?_⟩)
  (try simp only [qz])
  first | exact ⟨rfl, hw.below⟩ | exact ⟨trivial, hw.below⟩ | exact hw.below

end Go.Proofs.Ytccbinnlnkpplaa
