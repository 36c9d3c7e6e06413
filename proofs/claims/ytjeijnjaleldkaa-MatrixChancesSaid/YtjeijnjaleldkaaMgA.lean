/- Several texts in one. -/
import Derived.Test.YtjeijnjaleldkaaSq
import Derived.Test.YtjeijnjaleldkaaWs3
import Derived.Test.YtjeijnjaleldkaaEqS
import Derived.Test.YtjeijnjaleldkaaRt
import Derived.Test.YtjeijnjaleldkaaNmPl
import Derived.Test.YtjeijnjaleldkaaSg
import Derived.Test.YtjeijnjaleldkaaWtP
namespace Go.Proofs.Ytjeijnjaleldkaa
set_option linter.all false
open Go.RowKit

theorem bit1 (x : Int) : bits .and .u64 x 1 = x % 2 := by
  show IntKind.u64.wrap ((BitVec.ofInt 64 x &&& BitVec.ofInt 64 1).toNat : Int) = _
  have h1 : (BitVec.ofInt 64 (1 : Int)).toNat = 2 ^ 1 - 1 := by decide
  rw [BitVec.toNat_and, h1, Nat.and_two_pow_sub_one_eq_mod, BitVec.toNat_ofInt, IntKind.wrap_u64]
  omega
theorem or_high {x y : Int} (hx : 0 ≤ x) (hx1 : x < 9223372036854775808) (hy : y = 0 ∨ y = 9223372036854775808) : bits .or .u64 x y = x + y := by
  show IntKind.u64.wrap ((BitVec.ofInt 64 x ||| BitVec.ofInt 64 y).toNat : Int) = _
  rcases hy with rfl | rfl
  · rw [show BitVec.ofInt 64 (0 : Int) = 0#64 from rfl, BitVec.or_zero, BitVec.toNat_ofInt, IntKind.wrap_u64]
    omega
  have h1 : (BitVec.ofInt 64 (9223372036854775808 : Int)).toNat = 2 ^ 63 * 1 := by decide
  have h2 : (BitVec.ofInt 64 x).toNat = x.toNat := by rw [BitVec.toNat_ofInt]; omega
  have h3 : x.toNat < 2 ^ 63 := by omega
  rw [BitVec.toNat_or, h1, h2, Nat.or_comm, ← Nat.two_pow_add_eq_or_of_lt h3, IntKind.wrap_u64]
  omega
set_option maxRecDepth 100000 in
set_option maxHeartbeats 1000000 in
theorem w6half_any (m : Int) (hm : In384 m) (he : m % 2 = 0) (w : World) : Calls Try.prog 146 #[w6V (W6.of m)] w fun e w' => e = .returned (w6V (W6.of (m / 2))) ∧ Below w.heap.size w w' := by
  obtain ⟨⟨x0, x1, x2, x3, x4, x5⟩, hx⟩ : ∃ r, W6.of m = r := ⟨_, rfl⟩
  have wx := W6.of_wf m
  rw [hx] at wx
  obtain ⟨xa0, xb0, xa1, xb1, xa2, xb2, xa3, xb3, xa4, xb4, xa5, xb5⟩ := wx
  dsimp only at xa0 xb0 xa1 xb1 xa2 xb2 xa3 xb3 xa4 xb4 xa5 xb5
  have heq : (⟨x0 / 2 + x1 % 2 * 9223372036854775808, x1 / 2 + x2 % 2 * 9223372036854775808, x2 / 2 + x3 % 2 * 9223372036854775808, x3 / 2 + x4 % 2 * 9223372036854775808, x4 / 2 + x5 % 2 * 9223372036854775808, x5 / 2 + x5 / 9223372036854775808 * 9223372036854775808⟩ : W6) = W6.of (m / 2) := by (have := W6.half_eq hm he; rw [hx] at this; exact this)
  rw [hx]
  replace heq := Lib.hid heq
  clear hx hm he
  go_enter Try.func146, Try.ntmps146
  refine wk_start ?_
  refine wk_seq ?_
  refine wk_region [1, 1] rfl Kx ?_
  simp only [qy]
  refine Rgn fun g1 => ?_
  simp only [qz]
  refine Rgn fun g2 => ?_
  simp only [qz]
  refine rg_nil (ek_next (wk_seq (wk_seq ?_)))
  refine wk_region [0] rfl Kx ?_
  simp only [qy]
  refine rg_move ?_
  simp only [qz]
  refine rg_nil (ek_next (wk_block ?_))
  refine wk_unroll 6 ?_
  refine wk_seq ?_
  refine wk_region [0] rfl Kx ?_
  simp only [qy]
  refine rf_lss (b := true) rfl rfl rfl rfl (by decide) ?_
  simp only [qz]
  refine rg_nil (ek_next (wk_seq (wk_cond_t rfl (wk_skip (ek_next (wk_seq (wk_block (wk_seq ?_))))))))
  refine wk_region [0, 0] rfl Kx ?_
  simp only [qy]
  refine rg_move ?_
  simp only [qz]
  refine rg_assign ?_
  simp only [qz]
  refine rg_nil (ek_next (wk_seq ?_))
  refine wk_region [0, 0, 0, 0, 0, 0] rfl Kx ?_
  simp only [qy]
  refine rg_move ?_
  simp only [qz]
  refine rf_indexA (n := 0) (sz := 1) (j := 0) rfl rfl rfl rfl Try.underlying105 Kx (by decide) rfl ?_
  simp only [qz]
  refine rf_load rfl rfl rfl Try.underlying103 rfl (fun w hw => (Kn.hd0 (Kn.tl hw)).at rfl) ?_
  simp only [qz]
  refine rf_shr (c := 63) (q := 9223372036854775808) rfl rfl rfl rfl rfl (by decide) ?_
  simp only [qz]
  refine rf_shl (c := 63) (q := 9223372036854775808) (r := x0 / 9223372036854775808 * 9223372036854775808) rfl rfl rfl rfl rfl (by decide) (wrap_okU Ox Ox) ?_
  simp only [qz]
  refine rg_assign ?_
  simp only [qz]
  refine rg_nil (ek_next (wk_seq (wk_seq ?_)))
  refine wk_region [0, 0, 0] rfl Kx ?_
  simp only [qy]
  refine rg_move ?_
  simp only [qz]
  refine rf_add (r := 1) rfl rfl rfl rfl (by decide) ?_
  simp only [qz]
  refine rf_lss (b := true) rfl rfl rfl rfl (by decide) ?_
  simp only [qz]
  refine rg_nil (ek_next (wk_cond_t rfl ?_))
  refine wk_region [0, 0, 0, 0, 0, 0] rfl Kx ?_
  simp only [qy]
  refine rg_move ?_
  simp only [qz]
  refine rf_add (r := 1) rfl rfl rfl rfl (by decide) ?_
  simp only [qz]
  refine rf_indexA (n := 1) (sz := 1) (j := 1) rfl rfl rfl rfl Try.underlying105 Kx (by decide) rfl ?_
  simp only [qz]
  refine rf_load rfl rfl rfl Try.underlying103 rfl (fun w hw => (Kn.hd0 (Kn.tl hw)).at rfl) ?_
  simp only [qz]
  refine rf_shl (c := 63) (q := 9223372036854775808) (r := x1 % 2 * 9223372036854775808) rfl rfl rfl rfl rfl (by decide) ((IntKind.wrap_u64 _).trans Ox) ?_
  simp only [qz]
  refine rg_assign ?_
  simp only [qz]
  refine rg_nil (ek_next ?_)
  refine wk_region [0, 0, 0, 0, 0, 0, 0, 0, 1] rfl Kx ?_
  simp only [qy]
  refine rg_move ?_
  simp only [qz]
  refine rg_move ?_
  simp only [qz]
  refine rf_indexA (n := 0) (sz := 1) (j := 0) rfl rfl rfl rfl Try.underlying105 Kx (by decide) rfl ?_
  simp only [qz]
  refine rf_load rfl rfl rfl Try.underlying103 rfl (fun w hw => (Kn.hd0 (Kn.tl hw)).at rfl) ?_
  simp only [qz]
  refine rf_shr (c := 1) (q := 2) rfl rfl rfl rfl rfl (by decide) ?_
  simp only [qz]
  refine rg_move ?_
  simp only [qz]
  refine rf_or (r := x0 / 2 + x1 % 2 * 9223372036854775808) rfl rfl rfl rfl (or_high Ox Ox Ox) ?_
  simp only [qz]
  refine rf_indexA (n := 0) (sz := 1) (j := 0) rfl rfl rfl rfl Try.underlying105 Kx (by decide) rfl ?_
  simp only [qz]
  refine rf_store rfl rfl Kx rfl rfl (UpdR.there _ (UpdR.here _ _ _ Nl)) Nz ?_
  simp only [qz]
  refine rg_nil (ek_block (ek_next ?_))
  refine wk_region [0, 0] rfl Kx ?_
  simp only [qy]
  refine rf_add (r := 1) rfl rfl rfl rfl (by decide) ?_
  simp only [qz]
  refine rg_move ?_
  simp only [qz]
  refine rg_nil (ek_again (wk_seq ?_))
  refine wk_region [0] rfl Kx ?_
  simp only [qy]
  refine rf_lss (b := true) rfl rfl rfl rfl (by decide) ?_
  simp only [qz]
  refine rg_nil (ek_next (wk_seq (wk_cond_t rfl (wk_skip (ek_next (wk_seq (wk_block (wk_seq ?_))))))))
  refine wk_region [0, 0] rfl Kx ?_
  simp only [qy]
  refine rg_move ?_
  simp only [qz]
  refine rg_assign ?_
  simp only [qz]
  refine rg_nil (ek_next (wk_seq ?_))
  refine wk_region [0, 0, 0, 0, 0, 0] rfl Kx ?_
  simp only [qy]
  refine rg_move ?_
  simp only [qz]
  refine rf_indexA (n := 1) (sz := 1) (j := 1) rfl rfl rfl rfl Try.underlying105 Kx (by decide) rfl ?_
  simp only [qz]
  refine rf_load rfl rfl rfl Try.underlying103 rfl (fun w hw => (Kn.hd0 (Kn.tl hw)).at rfl) ?_
  simp only [qz]
  refine rf_shr (c := 63) (q := 9223372036854775808) rfl rfl rfl rfl rfl (by decide) ?_
  simp only [qz]
  refine rf_shl (c := 63) (q := 9223372036854775808) (r := x1 / 9223372036854775808 * 9223372036854775808) rfl rfl rfl rfl rfl (by decide) (wrap_okU Ox Ox) ?_
  simp only [qz]
  refine rg_assign ?_
  simp only [qz]
  refine rg_nil (ek_next (wk_seq (wk_seq ?_)))
  refine wk_region [0, 0, 0] rfl Kx ?_
  simp only [qy]
  refine rg_move ?_
  simp only [qz]
  refine rf_add (r := 2) rfl rfl rfl rfl (by decide) ?_
  simp only [qz]
  refine rf_lss (b := true) rfl rfl rfl rfl (by decide) ?_
  simp only [qz]
  refine rg_nil (ek_next (wk_cond_t rfl ?_))
  refine wk_region [0, 0, 0, 0, 0, 0] rfl Kx ?_
  simp only [qy]
  refine rg_move ?_
  simp only [qz]
  refine rf_add (r := 2) rfl rfl rfl rfl (by decide) ?_
  simp only [qz]
  refine rf_indexA (n := 2) (sz := 1) (j := 2) rfl rfl rfl rfl Try.underlying105 Kx (by decide) rfl ?_
  simp only [qz]
  refine rf_load rfl rfl rfl Try.underlying103 rfl (fun w hw => (Kn.hd0 (Kn.tl hw)).at rfl) ?_
  simp only [qz]
  refine rf_shl (c := 63) (q := 9223372036854775808) (r := x2 % 2 * 9223372036854775808) rfl rfl rfl rfl rfl (by decide) ((IntKind.wrap_u64 _).trans Ox) ?_
  simp only [qz]
  refine rg_assign ?_
  simp only [qz]
  refine rg_nil (ek_next ?_)
  refine wk_region [0, 0, 0, 0, 0, 0, 0, 0, 1] rfl Kx ?_
  simp only [qy]
  refine rg_move ?_
  simp only [qz]
  refine rg_move ?_
  simp only [qz]
  refine rf_indexA (n := 1) (sz := 1) (j := 1) rfl rfl rfl rfl Try.underlying105 Kx (by decide) rfl ?_
  simp only [qz]
  refine rf_load rfl rfl rfl Try.underlying103 rfl (fun w hw => (Kn.hd0 (Kn.tl hw)).at rfl) ?_
  simp only [qz]
  refine rf_shr (c := 1) (q := 2) rfl rfl rfl rfl rfl (by decide) ?_
  simp only [qz]
  refine rg_move ?_
  simp only [qz]
  refine rf_or (r := x1 / 2 + x2 % 2 * 9223372036854775808) rfl rfl rfl rfl (or_high Ox Ox Ox) ?_
  simp only [qz]
  refine rf_indexA (n := 1) (sz := 1) (j := 1) rfl rfl rfl rfl Try.underlying105 Kx (by decide) rfl ?_
  simp only [qz]
  refine rf_store rfl rfl Kx rfl rfl (UpdR.there _ (UpdR.here _ _ _ Nl)) Nz ?_
  simp only [qz]
  refine rg_nil (ek_block (ek_next ?_))
  refine wk_region [0, 0] rfl Kx ?_
  simp only [qy]
  refine rf_add (r := 2) rfl rfl rfl rfl (by decide) ?_
  simp only [qz]
  refine rg_move ?_
  simp only [qz]
  refine rg_nil (ek_again (wk_seq ?_))
  refine wk_region [0] rfl Kx ?_
  simp only [qy]
  refine rf_lss (b := true) rfl rfl rfl rfl (by decide) ?_
  simp only [qz]
  refine rg_nil (ek_next (wk_seq (wk_cond_t rfl (wk_skip (ek_next (wk_seq (wk_block (wk_seq ?_))))))))
  refine wk_region [0, 0] rfl Kx ?_
  simp only [qy]
  refine rg_move ?_
  simp only [qz]
  refine rg_assign ?_
  simp only [qz]
  refine rg_nil (ek_next (wk_seq ?_))
  refine wk_region [0, 0, 0, 0, 0, 0] rfl Kx ?_
  simp only [qy]
  refine rg_move ?_
  simp only [qz]
  refine rf_indexA (n := 2) (sz := 1) (j := 2) rfl rfl rfl rfl Try.underlying105 Kx (by decide) rfl ?_
  simp only [qz]
  refine rf_load rfl rfl rfl Try.underlying103 rfl (fun w hw => (Kn.hd0 (Kn.tl hw)).at rfl) ?_
  simp only [qz]
  refine rf_shr (c := 63) (q := 9223372036854775808) rfl rfl rfl rfl rfl (by decide) ?_
  simp only [qz]
  refine rf_shl (c := 63) (q := 9223372036854775808) (r := x2 / 9223372036854775808 * 9223372036854775808) rfl rfl rfl rfl rfl (by decide) (wrap_okU Ox Ox) ?_
  simp only [qz]
  refine rg_assign ?_
  simp only [qz]
  refine rg_nil (ek_next (wk_seq (wk_seq ?_)))
  refine wk_region [0, 0, 0] rfl Kx ?_
  simp only [qy]
  refine rg_move ?_
  simp only [qz]
  refine rf_add (r := 3) rfl rfl rfl rfl (by decide) ?_
  simp only [qz]
  refine rf_lss (b := true) rfl rfl rfl rfl (by decide) ?_
  simp only [qz]
  refine rg_nil (ek_next (wk_cond_t rfl ?_))
  refine wk_region [0, 0, 0, 0, 0, 0] rfl Kx ?_
  simp only [qy]
  refine rg_move ?_
  simp only [qz]
  refine rf_add (r := 3) rfl rfl rfl rfl (by decide) ?_
  simp only [qz]
  refine rf_indexA (n := 3) (sz := 1) (j := 3) rfl rfl rfl rfl Try.underlying105 Kx (by decide) rfl ?_
  simp only [qz]
  refine rf_load rfl rfl rfl Try.underlying103 rfl (fun w hw => (Kn.hd0 (Kn.tl hw)).at rfl) ?_
  simp only [qz]
  refine rf_shl (c := 63) (q := 9223372036854775808) (r := x3 % 2 * 9223372036854775808) rfl rfl rfl rfl rfl (by decide) ((IntKind.wrap_u64 _).trans Ox) ?_
  simp only [qz]
  refine rg_assign ?_
  simp only [qz]
  refine rg_nil (ek_next ?_)
  refine wk_region [0, 0, 0, 0, 0, 0, 0, 0, 1] rfl Kx ?_
  simp only [qy]
  refine rg_move ?_
  simp only [qz]
  refine rg_move ?_
  simp only [qz]
  refine rf_indexA (n := 2) (sz := 1) (j := 2) rfl rfl rfl rfl Try.underlying105 Kx (by decide) rfl ?_
  simp only [qz]
  refine rf_load rfl rfl rfl Try.underlying103 rfl (fun w hw => (Kn.hd0 (Kn.tl hw)).at rfl) ?_
  simp only [qz]
  refine rf_shr (c := 1) (q := 2) rfl rfl rfl rfl rfl (by decide) ?_
  simp only [qz]
  refine rg_move ?_
  simp only [qz]
  refine rf_or (r := x2 / 2 + x3 % 2 * 9223372036854775808) rfl rfl rfl rfl (or_high Ox Ox Ox) ?_
  simp only [qz]
  refine rf_indexA (n := 2) (sz := 1) (j := 2) rfl rfl rfl rfl Try.underlying105 Kx (by decide) rfl ?_
  simp only [qz]
  refine rf_store rfl rfl Kx rfl rfl (UpdR.there _ (UpdR.here _ _ _ Nl)) Nz ?_
  simp only [qz]
  refine rg_nil (ek_block (ek_next ?_))
  refine wk_region [0, 0] rfl Kx ?_
  simp only [qy]
  refine rf_add (r := 3) rfl rfl rfl rfl (by decide) ?_
  simp only [qz]
  refine rg_move ?_
  simp only [qz]
  refine rg_nil (ek_again (wk_seq ?_))
  refine wk_region [0] rfl Kx ?_
  simp only [qy]
  refine rf_lss (b := true) rfl rfl rfl rfl (by decide) ?_
  simp only [qz]
  refine rg_nil (ek_next (wk_seq (wk_cond_t rfl (wk_skip (ek_next (wk_seq (wk_block (wk_seq ?_))))))))
  refine wk_region [0, 0] rfl Kx ?_
  simp only [qy]
  refine rg_move ?_
  simp only [qz]
  refine rg_assign ?_
  simp only [qz]
  refine rg_nil (ek_next (wk_seq ?_))
  refine wk_region [0, 0, 0, 0, 0, 0] rfl Kx ?_
  simp only [qy]
  refine rg_move ?_
  simp only [qz]
  refine rf_indexA (n := 3) (sz := 1) (j := 3) rfl rfl rfl rfl Try.underlying105 Kx (by decide) rfl ?_
  simp only [qz]
  refine rf_load rfl rfl rfl Try.underlying103 rfl (fun w hw => (Kn.hd0 (Kn.tl hw)).at rfl) ?_
  simp only [qz]
  refine rf_shr (c := 63) (q := 9223372036854775808) rfl rfl rfl rfl rfl (by decide) ?_
  simp only [qz]
  refine rf_shl (c := 63) (q := 9223372036854775808) (r := x3 / 9223372036854775808 * 9223372036854775808) rfl rfl rfl rfl rfl (by decide) (wrap_okU Ox Ox) ?_
  simp only [qz]
  refine rg_assign ?_
  simp only [qz]
  refine rg_nil (ek_next (wk_seq (wk_seq ?_)))
  refine wk_region [0, 0, 0] rfl Kx ?_
  simp only [qy]
  refine rg_move ?_
  simp only [qz]
  refine rf_add (r := 4) rfl rfl rfl rfl (by decide) ?_
  simp only [qz]
  refine rf_lss (b := true) rfl rfl rfl rfl (by decide) ?_
  simp only [qz]
  refine rg_nil (ek_next (wk_cond_t rfl ?_))
  refine wk_region [0, 0, 0, 0, 0, 0] rfl Kx ?_
  simp only [qy]
  refine rg_move ?_
  simp only [qz]
  refine rf_add (r := 4) rfl rfl rfl rfl (by decide) ?_
  simp only [qz]
  refine rf_indexA (n := 4) (sz := 1) (j := 4) rfl rfl rfl rfl Try.underlying105 Kx (by decide) rfl ?_
  simp only [qz]
  refine rf_load rfl rfl rfl Try.underlying103 rfl (fun w hw => (Kn.hd0 (Kn.tl hw)).at rfl) ?_
  simp only [qz]
  refine rf_shl (c := 63) (q := 9223372036854775808) (r := x4 % 2 * 9223372036854775808) rfl rfl rfl rfl rfl (by decide) ((IntKind.wrap_u64 _).trans Ox) ?_
  simp only [qz]
  refine rg_assign ?_
  simp only [qz]
  refine rg_nil (ek_next ?_)
  refine wk_region [0, 0, 0, 0, 0, 0, 0, 0, 1] rfl Kx ?_
  simp only [qy]
  refine rg_move ?_
  simp only [qz]
  refine rg_move ?_
  simp only [qz]
  refine rf_indexA (n := 3) (sz := 1) (j := 3) rfl rfl rfl rfl Try.underlying105 Kx (by decide) rfl ?_
  simp only [qz]
  refine rf_load rfl rfl rfl Try.underlying103 rfl (fun w hw => (Kn.hd0 (Kn.tl hw)).at rfl) ?_
  simp only [qz]
  refine rf_shr (c := 1) (q := 2) rfl rfl rfl rfl rfl (by decide) ?_
  simp only [qz]
  refine rg_move ?_
  simp only [qz]
  refine rf_or (r := x3 / 2 + x4 % 2 * 9223372036854775808) rfl rfl rfl rfl (or_high Ox Ox Ox) ?_
  simp only [qz]
  refine rf_indexA (n := 3) (sz := 1) (j := 3) rfl rfl rfl rfl Try.underlying105 Kx (by decide) rfl ?_
  simp only [qz]
  refine rf_store rfl rfl Kx rfl rfl (UpdR.there _ (UpdR.here _ _ _ Nl)) Nz ?_
  simp only [qz]
  refine rg_nil (ek_block (ek_next ?_))
  refine wk_region [0, 0] rfl Kx ?_
  simp only [qy]
  refine rf_add (r := 4) rfl rfl rfl rfl (by decide) ?_
  simp only [qz]
  refine rg_move ?_
  simp only [qz]
  refine rg_nil (ek_again (wk_seq ?_))
  refine wk_region [0] rfl Kx ?_
  simp only [qy]
  refine rf_lss (b := true) rfl rfl rfl rfl (by decide) ?_
  simp only [qz]
  refine rg_nil (ek_next (wk_seq (wk_cond_t rfl (wk_skip (ek_next (wk_seq (wk_block (wk_seq ?_))))))))
  refine wk_region [0, 0] rfl Kx ?_
  simp only [qy]
  refine rg_move ?_
  simp only [qz]
  refine rg_assign ?_
  simp only [qz]
  refine rg_nil (ek_next (wk_seq ?_))
  refine wk_region [0, 0, 0, 0, 0, 0] rfl Kx ?_
  simp only [qy]
  refine rg_move ?_
  simp only [qz]
  refine rf_indexA (n := 4) (sz := 1) (j := 4) rfl rfl rfl rfl Try.underlying105 Kx (by decide) rfl ?_
  simp only [qz]
  refine rf_load rfl rfl rfl Try.underlying103 rfl (fun w hw => (Kn.hd0 (Kn.tl hw)).at rfl) ?_
  simp only [qz]
  refine rf_shr (c := 63) (q := 9223372036854775808) rfl rfl rfl rfl rfl (by decide) ?_
  simp only [qz]
  refine rf_shl (c := 63) (q := 9223372036854775808) (r := x4 / 9223372036854775808 * 9223372036854775808) rfl rfl rfl rfl rfl (by decide) (wrap_okU Ox Ox) ?_
  simp only [qz]
  refine rg_assign ?_
  simp only [qz]
  refine rg_nil (ek_next (wk_seq (wk_seq ?_)))
  refine wk_region [0, 0, 0] rfl Kx ?_
  simp only [qy]
  refine rg_move ?_
  simp only [qz]
  refine rf_add (r := 5) rfl rfl rfl rfl (by decide) ?_
  simp only [qz]
  refine rf_lss (b := true) rfl rfl rfl rfl (by decide) ?_
  simp only [qz]
  refine rg_nil (ek_next (wk_cond_t rfl ?_))
  refine wk_region [0, 0, 0, 0, 0, 0] rfl Kx ?_
  simp only [qy]
  refine rg_move ?_
  simp only [qz]
  refine rf_add (r := 5) rfl rfl rfl rfl (by decide) ?_
  simp only [qz]
  refine rf_indexA (n := 5) (sz := 1) (j := 5) rfl rfl rfl rfl Try.underlying105 Kx (by decide) rfl ?_
  simp only [qz]
  refine rf_load rfl rfl rfl Try.underlying103 rfl (fun w hw => (Kn.hd0 (Kn.tl hw)).at rfl) ?_
  simp only [qz]
  refine rf_shl (c := 63) (q := 9223372036854775808) (r := x5 % 2 * 9223372036854775808) rfl rfl rfl rfl rfl (by decide) ((IntKind.wrap_u64 _).trans Ox) ?_
  simp only [qz]
  refine rg_assign ?_
  simp only [qz]
  refine rg_nil (ek_next ?_)
  refine wk_region [0, 0, 0, 0, 0, 0, 0, 0, 1] rfl Kx ?_
  simp only [qy]
  refine rg_move ?_
  simp only [qz]
  refine rg_move ?_
  simp only [qz]
  refine rf_indexA (n := 4) (sz := 1) (j := 4) rfl rfl rfl rfl Try.underlying105 Kx (by decide) rfl ?_
  simp only [qz]
  refine rf_load rfl rfl rfl Try.underlying103 rfl (fun w hw => (Kn.hd0 (Kn.tl hw)).at rfl) ?_
  simp only [qz]
  refine rf_shr (c := 1) (q := 2) rfl rfl rfl rfl rfl (by decide) ?_
  simp only [qz]
  refine rg_move ?_
  simp only [qz]
  refine rf_or (r := x4 / 2 + x5 % 2 * 9223372036854775808) rfl rfl rfl rfl (or_high Ox Ox Ox) ?_
  simp only [qz]
  refine rf_indexA (n := 4) (sz := 1) (j := 4) rfl rfl rfl rfl Try.underlying105 Kx (by decide) rfl ?_
  simp only [qz]
  refine rf_store rfl rfl Kx rfl rfl (UpdR.there _ (UpdR.here _ _ _ Nl)) Nz ?_
  simp only [qz]
  refine rg_nil (ek_block (ek_next ?_))
  refine wk_region [0, 0] rfl Kx ?_
  simp only [qy]
  refine rf_add (r := 5) rfl rfl rfl rfl (by decide) ?_
  simp only [qz]
  refine rg_move ?_
  simp only [qz]
  refine rg_nil (ek_again (wk_seq ?_))
  refine wk_region [0] rfl Kx ?_
  simp only [qy]
  refine rf_lss (b := true) rfl rfl rfl rfl (by decide) ?_
  simp only [qz]
  refine rg_nil (ek_next (wk_seq (wk_cond_t rfl (wk_skip (ek_next (wk_seq (wk_block (wk_seq ?_))))))))
  refine wk_region [0, 0] rfl Kx ?_
  simp only [qy]
  refine rg_move ?_
  simp only [qz]
  refine rg_assign ?_
  simp only [qz]
  refine rg_nil (ek_next (wk_seq ?_))
  refine wk_region [0, 0, 0, 0, 0, 0] rfl Kx ?_
  simp only [qy]
  refine rg_move ?_
  simp only [qz]
  refine rf_indexA (n := 5) (sz := 1) (j := 5) rfl rfl rfl rfl Try.underlying105 Kx (by decide) rfl ?_
  simp only [qz]
  refine rf_load rfl rfl rfl Try.underlying103 rfl (fun w hw => (Kn.hd0 (Kn.tl hw)).at rfl) ?_
  simp only [qz]
  refine rf_shr (c := 63) (q := 9223372036854775808) rfl rfl rfl rfl rfl (by decide) ?_
  simp only [qz]
  refine rf_shl (c := 63) (q := 9223372036854775808) (r := x5 / 9223372036854775808 * 9223372036854775808) rfl rfl rfl rfl rfl (by decide) (wrap_okU Ox Ox) ?_
  simp only [qz]
  refine rg_assign ?_
  simp only [qz]
  refine rg_nil (ek_next (wk_seq (wk_seq ?_)))
  refine wk_region [0, 0, 0] rfl Kx ?_
  simp only [qy]
  refine rg_move ?_
  simp only [qz]
  refine rf_add (r := 6) rfl rfl rfl rfl (by decide) ?_
  simp only [qz]
  refine rf_lss (b := false) rfl rfl rfl rfl (by decide) ?_
  simp only [qz]
  refine rg_nil (ek_next (wk_cond_f rfl (wk_skip (ek_next ?_))))
  refine wk_region [0, 0, 0, 0, 0, 0, 0, 0, 1] rfl Kx ?_
  simp only [qy]
  refine rg_move ?_
  simp only [qz]
  refine rg_move ?_
  simp only [qz]
  refine rf_indexA (n := 5) (sz := 1) (j := 5) rfl rfl rfl rfl Try.underlying105 Kx (by decide) rfl ?_
  simp only [qz]
  refine rf_load rfl rfl rfl Try.underlying103 rfl (fun w hw => (Kn.hd0 (Kn.tl hw)).at rfl) ?_
  simp only [qz]
  refine rf_shr (c := 1) (q := 2) rfl rfl rfl rfl rfl (by decide) ?_
  simp only [qz]
  refine rg_move ?_
  simp only [qz]
  refine rf_or (r := x5 / 2 + x5 / 9223372036854775808 * 9223372036854775808) rfl rfl rfl rfl (or_high Ox Ox Ox) ?_
  simp only [qz]
  refine rf_indexA (n := 5) (sz := 1) (j := 5) rfl rfl rfl rfl Try.underlying105 Kx (by decide) rfl ?_
  simp only [qz]
  refine rf_store rfl rfl Kx rfl rfl (UpdR.there _ (UpdR.here _ _ _ Nl)) Nz ?_
  simp only [qz]
  refine rg_nil (ek_block (ek_next ?_))
  refine wk_region [0, 0] rfl Kx ?_
  simp only [qy]
  refine rf_add (r := 6) rfl rfl rfl rfl (by decide) ?_
  simp only [qz]
  refine rg_move ?_
  simp only [qz]
  refine rg_nil (ek_again (wk_seq ?_))
  refine wk_region [0] rfl Kx ?_
  simp only [qy]
  refine rf_lss (b := false) rfl rfl rfl rfl (by decide) ?_
  simp only [qz]
  refine rg_nil (ek_next (wk_seq (wk_cond_f rfl (wk_exit (ek_then_exit (ek_then_exit (ek_block_exit (ek_next (wk_seq ?_)))))))))
  refine wk_region [0, 1] rfl Kx ?_
  simp only [qy]
  refine rf_loadR (n := 6) rfl rfl rfl Try.underlying105 rfl Kx (fun w hw => Kn.hd0 (Kn.tl hw)) rfl rfl ?_
  simp only [qz]
  refine rf_storeR (n := 6) rfl rfl Kx rfl rfl (UpdR.here _ _ _ Nl) Nz ?_
  simp only [qz, Nat.reduceAdd]
  refine rg_nil (ek_next (wk_ret ?_))
  refine ek_ret (fun w hw => ⟨rfl, _, run_results1 rfl rfl (Kn.hd0 hw) Try.underlying105 rfl Kx, ?_⟩)
  (try simp only [qz])
  exact ⟨by rw [← heq.out] <;> rfl, hw.below⟩

set_option maxRecDepth 100000 in
set_option maxHeartbeats 1000000 in
theorem w6odd_any (m : Int) (w : World) : Calls Try.prog 144 #[w6V (W6.of m)] w fun e w' => e = .returned (.bool (decide (m % 2 = 1))) ∧ Below w.heap.size w w' := by
  go_enter Try.func144, Try.ntmps144
  refine wk_start ?_
  refine wk_seq ?_
  refine wk_region [1, 0] rfl Kx ?_
  simp only [qy]
  refine Rgn fun g1 => ?_
  simp only [qz]
  refine rg_assign ?_
  simp only [qz]
  refine rg_nil (ek_next (wk_seq ?_))
  refine wk_region [0, 0, 0, 0, 0] rfl Kx ?_
  simp only [qy]
  refine rf_indexA (n := 0) (sz := 1) (j := 0) rfl rfl rfl rfl Try.underlying105 Kx (by decide) rfl ?_
  simp only [qz]
  refine rf_load rfl rfl rfl Try.underlying103 rfl (fun w hw => (Kn.hd0 hw).at rfl) ?_
  simp only [qz]
  refine rf_and (r := (W6.of m).w0 % 2) rfl rfl rfl rfl (bit1 _) ?_
  simp only [qz]
  refine rf_eql rfl rfl rfl rfl rfl ?_
  simp only [qz]
  refine rg_assign ?_
  simp only [qz]
  refine rg_nil (ek_next (wk_ret ?_))
  refine ek_ret (fun w hw => ⟨rfl, _, res_t _ rfl, ?_⟩)
  (try simp only [qz])
  exact ⟨by rw [W6.odd_eq m], hw.below⟩

set_option maxRecDepth 100000 in
set_option maxHeartbeats 1000000 in
theorem w6_eqTop (x y : W6) (w : World) : (Op.equalIn 10000 105 (w6V x) (w6V y)).run Try.prog w = .ok (decide (x = y)) w := by
  have u3 := Try.underlying103
  have a3 := Try.isAgg103
  have z3 := Try.sizeOf103
  obtain ⟨x0, x1, x2, x3, x4, x5⟩ := x
  obtain ⟨y0, y1, y2, y3, y4, y5⟩ := y
  rw [show (10000 : Nat) = 9999 + 1 from rfl, Op.equalIn]
  simp only [Sem.run_bind, run_underlying Try.underlying105, Result.andThen_ok]
  simp only [Std.Legacy.Range.forIn_eq_forIn_range', Std.Legacy.Range.size, Nat.sub_zero, Nat.add_sub_cancel, Nat.div_one, List.range'_succ, List.range'_zero, List.forIn_cons, List.forIn_nil]
  go_simp
  by_cases h0 : x0 = y0
  · by_cases h1 : x1 = y1
    · by_cases h2 : x2 = y2
      · by_cases h3 : x3 = y3
        · by_cases h4 : x4 = y4
          · by_cases h5 : x5 = y5 <;> simp [h0, h1, h2, h3, h4, h5]
          simp [h0, h1, h2, h3, h4]
        simp [h0, h1, h2, h3]
      simp [h0, h1, h2]
    simp [h0, h1]
  simp [h0]
set_option maxRecDepth 100000 in
theorem w6_guard (op : BinOp) (u v : Operand) (x y : W6) (w : World) : (eqGuard op 105 u v (w6V x) (w6V y)).run Try.prog w = .ok () w := by
  have h : (Try.prog.eqGuardType Try.prog.depth 105) = false := by kernel_rfl
  unfold eqGuard
  cases op <;> simp [h]
section
variable {R : Option Nat} {ops : Array Oper} {Q : Exit → Act → World → Prop} {B : World} {F : List Nat} {s0 : Option (List Blk × List Blk)} {P : Program}
variable {l : List (Oper × Nat)} {a : Act} {s : List Blk} {d : Option Tmp} {t : TypeId} {p : String} {af : Array Edge} {gd : Option (Nat × Bool)} {m : Nat}
theorem rfb_eqW {x y : Operand} {z : TypeId} (u v : W6) (hm : soft03 m = true) (hg : Region.wanted ⟨d, .binOp .eql 105 x y z, t, p, af, gd⟩ (yielded ops a.tmps) = true)
    (hx : a.eval x = w6V u) (hy : a.eval y = w6V v) (h : ∀ b, decide (u = v) = b → Rg R Try.prog ops Q B F s0 l (a.put d (.bool b)) s) : Rg R Try.prog ops Q B F s0 ((⟨d, .binOp .eql 105 x y z, t, p, af, gd⟩, m) :: l) a s := by
  refine rg_any hm hg (fun w => ?_) (h _ rfl)
  unfold Yld
  have hb : (binOp .eql 105 (w6V u) (w6V v)).run Try.prog w = .ok (.bool (decide (u = v))) w := by rw [run_eql_struct, w6_eqTop]; rfl
  have hgd := w6_guard .eql x y u v w
  show ((eqGuard .eql _ x y (a.eval x) (a.eval y) >>= fun _ => binOp .eql _ (a.eval x) (a.eval y)) >>= fun r => pure (Next.value r)).run Try.prog w = _
  rw [hx, hy, Sem.run_bind, Sem.run_bind, hgd, Result.andThen_ok, hb]
  rfl
theorem rfb_odd {T : TypeId} {x y : Operand} {z : TypeId} (i j : Int) (hu : P.underlying T = some .bool) (hm : soft03 m = true) (hg : Region.wanted ⟨d, .binOp .eql T x y z, t, p, af, gd⟩ (yielded ops a.tmps) = true)
    (hx : a.eval x = .bool (decide (i % 2 = 1))) (hy : a.eval y = .bool (decide (j % 2 = 1))) (h : ∀ b, decide ((i + j) % 2 = 0) = b → Rg R P ops Q B F s0 l (a.put d (.bool b)) s) : Rg R P ops Q B F s0 ((⟨d, .binOp .eql T x y z, t, p, af, gd⟩, m) :: l) a s := by
  refine rg_any hm hg (fun w => ?_) (h _ rfl)
  unfold Yld
  by_cases h1 : i % 2 = 1 <;> by_cases h2 : j % 2 = 1 <;> by_cases h3 : (i + j) % 2 = 0 <;> first | (exfalso; omega) | (simp [execOp, hx, hy, eqGuard, binOp, h1, h2, h3, run_equal_bool w T _ _ hu])
end
set_option maxRecDepth 100000 in
set_option maxHeartbeats 1000000 in
theorem w6small_any (m : Int) (hm : In384 m) (w : World) : Calls Try.prog 147 #[w6V (W6.of m)] w fun e w' => ∃ n, e = .returned (.tuple #[.int .i64 n, .bool (smB m)]) ∧ (smB m = true → n = m) ∧ Below w.heap.size w w' := by
  obtain ⟨n, hn⟩ : ∃ n, IntKind.i64.wrap (W6.of m).w0 = n := ⟨_, rfl⟩
  have hn2 := hn
  rw [IntKind.wrap_i64] at hn2
  have hnr : -9223372036854775808 ≤ n ∧ n < 9223372036854775808 := by omega
  have hmn : (m - n) % 18446744073709551616 = 0 := by (have : (W6.of m).w0 = m % 18446744073709551616 := rfl; omega)
  clear hn2
  go_enter Try.func147, Try.ntmps147
  refine wk_start ?_
  refine wk_seq ?_
  refine wk_region [1, 0, 0] rfl Kx ?_
  simp only [qy]
  refine Rgn fun g1 => ?_
  simp only [qz]
  refine rg_assign ?_
  simp only [qz]
  refine rg_assign ?_
  simp only [qz]
  refine rg_nil (ek_next (wk_seq ?_))
  refine wk_region [0, 0, 0, 0] rfl Kx ?_
  simp only [qy]
  refine rf_indexA (n := 0) (sz := 1) (j := 0) rfl rfl rfl rfl Try.underlying105 Kx (by decide) rfl ?_
  simp only [qz]
  refine rf_load rfl rfl rfl Try.underlying103 rfl (fun w hw => (Kn.hd0 hw).at rfl) ?_
  simp only [qz]
  refine rf_conv rfl rfl rfl Try.underlying103 Try.underlying3 (hn) ?_
  simp only [qz]
  refine rg_assign ?_
  simp only [qz]
  refine rg_nil (ek_next (wk_seq ?_))
  refine wk_draws _ _ [(0, 0), (1, 0), (3, 0), (2, 1), (4, 0), (5, 0), (6, 0), (7, 0), (8, 0), (9, 0), (10, 0), (11, 0), (12, 0), (13, 0), (14, 0)] [] Kx Kx (fun c d v a w h => by cases d <;> exact h) ((sc _ sn)) (fun e => by first | exact absurd e (by decide) | rfl) ?_
  simp only [List.map_cons, List.map_nil, List.getD_cons_zero, List.getD_cons_succ]
  refine rg_move ?_
  simp only [qz]
  refine rg_move ?_
  simp only [qz]
  refine rf_loadR (n := 6) rfl rfl rfl Try.underlying105 rfl Kx (fun w hw => Kn.hd0 hw) rfl rfl ?_
  simp only [qz]
  apply rg_pure Rx Kx
  case hargs => exact Ax
  case h => exact fun w hw => w6whole_any n Ox Ox w
  case hz => exact (fun _ h => by cases h; exact (sc _ sn))
  simp only [qz]
  refine rfb_eqW (W6.of n) (W6.of m) rfl rfl rfl rfl ?_
  intro x h1
  cases x
  · (try simp only [qd, ne_eq] at h1)
    simp only [qz]
    have hnm : n ≠ m := fun e => h1 (by rw [e])
    refine rg_move ?_
    simp only [qz]
    refine rg_skip Rx ?_
    simp only [qz]
    refine rg_skip Rx ?_
    simp only [qz]
    refine rf_pick rfl rfl rfl ?_
    simp only [qz]
    refine rg_move ?_
    simp only [qz]
    refine rg_skip Rx ?_
    simp only [qz]
    refine rg_skip Rx ?_
    simp only [qz]
    refine rf_pick rfl rfl rfl ?_
    simp only [qz]
    refine rg_assign ?_
    simp only [qz]
    refine rg_assign ?_
    simp only [qz]
    refine rg_nil (ek_next (wk_ret ?_))
    refine ek_ret (fun w hw => ⟨rfl, _, res_tt _ _ rfl, ?_⟩)
    (try simp only [qz])
    exact ⟨n, by (have : smB m = _ := rfl; unfold smB; congr 3; simp; omega), (fun h => by simp [smB] at h; omega), hw.below⟩
  (try simp only [qd, ne_eq] at h1)
  simp only [qz]
  have hnm : n = m := W6.of_inj (by unfold In384; omega) hm h1
  refine rg_move ?_
  simp only [qz]
  apply rg_soft_g
  case hg => rfl
  case hy => (intro w hw; go_simp; (try go_bits); exact Yld.mk _ _)
  simp only [qz]
  refine rfb_geq rfl rfl rfl rfl ?_
  intro x h2
  cases x
  · (try simp only [qd, ne_eq] at h2)
    simp only [qz]
    refine rf_pick rfl rfl rfl ?_
    simp only [qz]
    refine rg_move ?_
    simp only [qz]
    refine rg_skip Rx ?_
    simp only [qz]
    refine rg_skip Rx ?_
    simp only [qz]
    refine rf_pick rfl rfl rfl ?_
    simp only [qz]
    refine rg_assign ?_
    simp only [qz]
    refine rg_assign ?_
    simp only [qz]
    refine rg_nil (ek_next (wk_ret ?_))
    refine ek_ret (fun w hw => ⟨rfl, _, res_tt _ _ rfl, ?_⟩)
    (try simp only [qz])
    exact ⟨n, by (have : smB m = _ := rfl; unfold smB; congr 3; simp; omega), (fun h => by simp [smB] at h; omega), hw.below⟩
  (try simp only [qd, ne_eq] at h2)
  simp only [qz]
  refine rf_pick rfl rfl rfl ?_
  simp only [qz]
  refine rg_move ?_
  simp only [qz]
  apply rg_soft_g
  case hg => rfl
  case hy => (intro w hw; go_simp; (try go_bits); exact Yld.mk _ _)
  simp only [qz]
  refine rf_leq rfl rfl rfl rfl rfl ?_
  simp only [qz]
  refine rf_pick rfl rfl rfl ?_
  simp only [qz]
  refine rg_assign ?_
  simp only [qz]
  refine rg_assign ?_
  simp only [qz]
  refine rg_nil (ek_next (wk_ret ?_))
  refine ek_ret (fun w hw => ⟨rfl, _, res_tt _ _ rfl, ?_⟩)
  (try simp only [qz])
  exact ⟨n, by (have : smB m = _ := rfl; unfold smB; congr 3; simp; omega), (fun h => by simp [smB] at h; omega), hw.below⟩

end Go.Proofs.Ytjeijnjaleldkaa
namespace Go.Proofs.Ytjeijnjaleldkaa
set_option linter.all false

/-- a + b w + c w^2 + d w^3. -/
structure Q4 where
  a : Rat
  b : Rat
  c : Rat
  d : Rat
namespace Q4
theorem ext' {x y : Q4} (h1 : x.a = y.a) (h2 : x.b = y.b) (h3 : x.c = y.c) (h4 : x.d = y.d) : x = y := by cases x; cases y; simp_all
def zero : Q4 := ⟨0, 0, 0, 0⟩
def one : Q4 := ⟨1, 0, 0, 0⟩
def add (x y : Q4) : Q4 := ⟨x.a + y.a, x.b + y.b, x.c + y.c, x.d + y.d⟩
def neg (x : Q4) : Q4 := ⟨-x.a, -x.b, -x.c, -x.d⟩
def mul (x y : Q4) : Q4 := ⟨x.a * y.a - x.b * y.d - x.c * y.c - x.d * y.b, x.a * y.b + x.b * y.a - x.c * y.d - x.d * y.c, x.a * y.c + x.b * y.b + x.c * y.a - x.d * y.d, x.a * y.d + x.b * y.c + x.c * y.b + x.d * y.a⟩
def conj (x : Q4) : Q4 := ⟨x.a, -x.d, -x.c, -x.b⟩
instance : Zero Q4 := ⟨zero⟩
instance : One Q4 := ⟨one⟩
instance : Add Q4 := ⟨add⟩
instance : Mul Q4 := ⟨mul⟩
instance : Neg Q4 := ⟨neg⟩
instance : Sub Q4 := ⟨fun x y => add x (neg y)⟩
theorem za : (0 : Q4).a = 0 := rfl
theorem zb : (0 : Q4).b = 0 := rfl
theorem zc : (0 : Q4).c = 0 := rfl
theorem zd : (0 : Q4).d = 0 := rfl
theorem oa : (1 : Q4).a = 1 := rfl
theorem ob : (1 : Q4).b = 0 := rfl
theorem oc : (1 : Q4).c = 0 := rfl
theorem od : (1 : Q4).d = 0 := rfl
variable (x y z : Q4)
theorem aa : (x + y).a = x.a + y.a := rfl
theorem ab : (x + y).b = x.b + y.b := rfl
theorem ac : (x + y).c = x.c + y.c := rfl
theorem ad : (x + y).d = x.d + y.d := rfl
theorem na : (-x).a = -x.a := rfl
theorem nb : (-x).b = -x.b := rfl
theorem nc : (-x).c = -x.c := rfl
theorem nd : (-x).d = -x.d := rfl
theorem sa : (x - y).a = x.a + -y.a := rfl
theorem sb : (x - y).b = x.b + -y.b := rfl
theorem sc : (x - y).c = x.c + -y.c := rfl
theorem sd : (x - y).d = x.d + -y.d := rfl
theorem ma : (x * y).a = x.a * y.a - x.b * y.d - x.c * y.c - x.d * y.b := rfl
theorem mb : (x * y).b = x.a * y.b + x.b * y.a - x.c * y.d - x.d * y.c := rfl
theorem mc : (x * y).c = x.a * y.c + x.b * y.b + x.c * y.a - x.d * y.d := rfl
theorem md : (x * y).d = x.a * y.d + x.b * y.c + x.c * y.b + x.d * y.a := rfl
theorem ca : (conj x).a = x.a := rfl
theorem cb : (conj x).b = -x.d := rfl
theorem cc : (conj x).c = -x.c := rfl
theorem cd : (conj x).d = -x.b := rfl
theorem add_comm : x + y = y + x := by apply ext' <;> simp only [aa, ab, ac, ad] <;> grind
theorem add_assoc : x + y + z = x + (y + z) := by apply ext' <;> simp only [aa, ab, ac, ad] <;> grind
theorem add_zero : x + 0 = x := by apply ext' <;> simp only [aa, ab, ac, ad, za, zb, zc, zd] <;> grind
theorem zero_add : 0 + x = x := by rw [add_comm, add_zero]
theorem add_neg : x + -x = 0 := by apply ext' <;> simp only [aa, ab, ac, ad, na, nb, nc, nd, za, zb, zc, zd] <;> grind
theorem sub_def : x - y = x + -y := rfl
theorem mul_comm : x * y = y * x := by apply ext' <;> simp only [ma, mb, mc, md] <;> grind
theorem mul_assoc : x * y * z = x * (y * z) := by apply ext' <;> simp only [ma, mb, mc, md] <;> grind
theorem mul_one : x * 1 = x := by apply ext' <;> simp only [ma, mb, mc, md, oa, ob, oc, od] <;> grind
theorem one_mul : 1 * x = x := by rw [mul_comm, mul_one]
theorem mul_zero : x * 0 = 0 := by apply ext' <;> simp only [ma, mb, mc, md, za, zb, zc, zd] <;> grind
theorem zero_mul : 0 * x = 0 := by rw [mul_comm, mul_zero]
theorem mul_add : x * (y + z) = x * y + x * z := by apply ext' <;> simp only [ma, mb, mc, md, aa, ab, ac, ad] <;> grind
theorem add_mul : (x + y) * z = x * z + y * z := by rw [mul_comm, mul_add, mul_comm z x, mul_comm z y]
theorem mul_neg : x * -y = -(x * y) := by apply ext' <;> simp only [ma, mb, mc, md, na, nb, nc, nd] <;> grind
theorem neg_mul : -x * y = -(x * y) := by rw [mul_comm, mul_neg, mul_comm]
theorem neg_add : -(x + y) = -x + -y := by apply ext' <;> simp only [aa, ab, ac, ad, na, nb, nc, nd] <;> grind
theorem neg_zero : -(0 : Q4) = 0 := by apply ext' <;> rfl
theorem conj_add : conj (x + y) = conj x + conj y := by apply ext' <;> simp only [aa, ab, ac, ad, ca, cb, cc, cd] <;> grind
theorem conj_mul : conj (x * y) = conj x * conj y := by apply ext' <;> simp only [ma, mb, mc, md, ca, cb, cc, cd] <;> grind
theorem conj_neg : conj (-x) = -conj x := by apply ext' <;> simp only [na, nb, nc, nd, ca, cb, cc, cd]
theorem conj_conj : conj (conj x) = x := by apply ext' <;> simp only [ca, cb, cc, cd] <;> grind
theorem conj_zero : conj 0 = 0 := by apply ext' <;> rfl
theorem conj_one : conj 1 = 1 := by apply ext' <;> rfl
theorem sub_zero_eq {x y : Q4} (h : x - y = 0) : x = y := by
  have e : x - y + y = x := by apply ext' <;> simp only [aa, ab, ac, ad, sa, sb, sc, sd] <;> grind
  rw [← e, h, zero_add]
theorem sub_self : x - x = 0 := add_neg x
theorem norm_a : (x * conj x).a = x.a * x.a + x.b * x.b + x.c * x.c + x.d * x.d := by simp only [ma, ca, cb, cc, cd]; grind
theorem sq0 (r : Rat) : 0 ≤ r * r := by
  rcases Rat.le_total (a:=0) (b:=r) with h | h
  · exact Rat.mul_nonneg h h
  · have := Rat.mul_nonneg (a := -r) (b := -r) (by grind) (by grind)
    grind
theorem norm_nonneg : 0 ≤ (x * conj x).a := by
  rw [norm_a]
  have := sq0 x.a; have := sq0 x.b; have := sq0 x.c; have := sq0 x.d
  grind
theorem norm_zero {x : Q4} (h : (x * conj x).a = 0) : x = 0 := by
  rw [norm_a] at h
  have h1 := sq0 x.a; have h2 := sq0 x.b; have h3 := sq0 x.c; have h4 := sq0 x.d
  have z : ∀ r : Rat, r * r = 0 → r = 0 := fun r h => by grind
  exact ext' (z _ (by grind)) (z _ (by grind)) (z _ (by grind)) (z _ (by grind))

/-- Divided by r. -/
def dh (x : Q4) : Q4 := ⟨(x.b - x.d) / 2, (x.a + x.c) / 2, (x.b + x.d) / 2, (x.c - x.a) / 2⟩
def dn : Nat → Q4 → Q4
  | 0, x => x
  | n + 1, x => dn n (dh x)
theorem dh_inj {x y : Q4} (h : dh x = dh y) : x = y := by
  have h1 : (dh x).a = (dh y).a := by rw [h]
  have h2 : (dh x).b = (dh y).b := by rw [h]
  have h3 : (dh x).c = (dh y).c := by rw [h]
  have h4 : (dh x).d = (dh y).d := by rw [h]
  simp only [dh] at h1 h2 h3 h4
  apply ext' <;> grind
theorem dn_inj : ∀ (n : Nat) {x y : Q4}, dn n x = dn n y → x = y
  | 0, _, _, h => h
  | n + 1, _, _, h => dh_inj (dn_inj n h)
theorem dh_add : dh (x + y) = dh x + dh y := by apply ext' <;> simp only [dh, aa, ab, ac, ad] <;> grind
theorem dn_add : ∀ (n : Nat) (x y : Q4), dn n (x + y) = dn n x + dn n y
  | 0, _, _ => rfl
  | n + 1, x, y => by simp only [dn]; rw [dh_add, dn_add n]
theorem dh_mul : dh (x * y) = dh x * y := by apply ext' <;> simp only [dh, ma, mb, mc, md] <;> grind
theorem dn_mul : ∀ (n : Nat) (x y : Q4), dn n (x * y) = dn n x * y
  | 0, _, _ => rfl
  | n + 1, x, y => by simp only [dn]; rw [dh_mul, dn_mul n]
theorem dn_dn : ∀ (m n : Nat) (x : Q4), dn m (dn n x) = dn (n + m) x
  | m, 0, x => by rw [Nat.zero_add]; rfl
  | m, n + 1, x => by
    rw [show n + 1 + m = (n + m) + 1 by omega]
    exact dn_dn m n (dh x)
theorem dn_mul2 (m n : Nat) (x y : Q4) : dn (m + n) (x * y) = dn m x * dn n y := by
  rw [← dn_dn, dn_mul, mul_comm, dn_mul, mul_comm]
theorem dh_conj : dh (conj x) = conj (dh x) := by apply ext' <;> simp only [dh, ca, cb, cc, cd] <;> grind
theorem dn_conj : ∀ (n : Nat) (x : Q4), dn n (conj x) = conj (dn n x)
  | 0, _ => rfl
  | n + 1, x => by simp only [dn]; rw [dh_conj, dn_conj n]
theorem dh_neg : dh (-x) = -dh x := by apply ext' <;> simp only [dh, na, nb, nc, nd] <;> grind
theorem dn_neg : ∀ (n : Nat) (x : Q4), dn n (-x) = -dn n x
  | 0, _ => rfl
  | n + 1, x => by simp only [dn]; rw [dh_neg, dn_neg n]
end Q4
def Nm.co (z : Nm) : Q4 := ⟨(z.a : Rat), (z.b : Rat), (z.c : Rat), (z.d : Rat)⟩
/-- The value of a number. -/
def Nm.val (z : Nm) : Q4 := Q4.dn z.k.toNat z.co
theorem co_tr (z : Nm) : Q4.dh z.tr.co = z.co := by
  apply Q4.ext' <;> simp only [Q4.dh, Nm.co, Nm.tr, Rat.intCast_add, Rat.intCast_sub] <;> grind
theorem val_tr {z : Nm} (h : 0 ≤ z.k) : z.tr.val = z.val := by
  unfold Nm.val
  have : z.tr.k.toNat = z.k.toNat + 1 := by simp only [Nm.tr]; omega
  rw [this]
  show Q4.dn z.k.toNat (Q4.dh z.tr.co) = _
  rw [co_tr]
theorem val_up : ∀ (n : Nat) {z : Nm}, 0 ≤ z.k → (Nm.up n z).val = z.val
  | 0, _, _ => rfl
  | n + 1, z, h => by
    have := val_up n (z := z.tr) (by simp only [Nm.tr]; omega)
    show (Nm.up n z.tr).val = _
    rw [this, val_tr h]
theorem val_eqv {x y : Nm} (hx : 0 ≤ x.k) (hy : 0 ≤ y.k) (h : Eqv x y) : x.val = y.val := by
  obtain ⟨i, j, h⟩ := h
  rw [← val_up i hx, h, val_up j hy]
theorem co_inj {x y : Nm} (hk : x.k = y.k) (h : x.co = y.co) : x = y := by
  have h1 : (x.a : Rat) = y.a := by show x.co.a = y.co.a; rw [h]
  have h2 : (x.b : Rat) = y.b := by show x.co.b = y.co.b; rw [h]
  have h3 : (x.c : Rat) = y.c := by show x.co.c = y.co.c; rw [h]
  have h4 : (x.d : Rat) = y.d := by show x.co.d = y.co.d; rw [h]
  obtain ⟨a, b, c, d, k⟩ := x
  obtain ⟨a', b', c', d', k'⟩ := y
  dsimp only at *
  rw [Rat.intCast_inj.1 h1, Rat.intCast_inj.1 h2, Rat.intCast_inj.1 h3, Rat.intCast_inj.1 h4, hk]
theorem eqv_val {x y : Nm} (hx : 0 ≤ x.k) (hy : 0 ≤ y.k) (h : x.val = y.val) : Eqv x y := by
  refine ⟨(y.k).toNat, (x.k).toNat, ?_⟩
  have hk : (Nm.up (y.k).toNat x).k = (Nm.up (x.k).toNat y).k := by rw [Nm.up_k, Nm.up_k]; omega
  refine co_inj hk ?_
  have h1 := val_up (y.k).toNat hx
  have h2 := val_up (x.k).toNat hy
  rw [h, ← h2] at h1
  unfold Nm.val at h1
  rw [hk] at h1
  exact Q4.dn_inj _ h1
theorem val_ok {x y : Nm} (hx : x.Ok) (hy : y.Ok) (h : x.val = y.val) : x = y := form_unique hx.nf hy.nf hx.k0 hy.k0 (eqv_val hx.k0 hy.k0 h)
theorem to_up {x : Nm} {m : Int} (h : 0 ≤ x.k) : (x.to m).val = x.val := val_up _ h
theorem val_addR {x y : Nm} (hx : 0 ≤ x.k) (hy : 0 ≤ y.k) : (x.addR y).val = x.val + y.val := by
  have h1 := to_up (x := x) (m := max x.k y.k) hx
  have h2 := to_up (x := y) (m := max x.k y.k) hy
  have k1 := Nm.to_k (z := x) (m := max x.k y.k) (by omega)
  have k2 := Nm.to_k (z := y) (m := max x.k y.k) (by omega)
  rw [← h1, ← h2]
  unfold Nm.val
  rw [k1, k2, ← Q4.dn_add]
  unfold Nm.addR
  dsimp only
  congr 1
  apply Q4.ext' <;> simp only [Nm.co, Q4.aa, Q4.ab, Q4.ac, Q4.ad, Rat.intCast_add]
theorem val_mulR {x y : Nm} (hx : 0 ≤ x.k) (hy : 0 ≤ y.k) : (x.mulR y).val = x.val * y.val := by
  unfold Nm.val
  have : (x.mulR y).k.toNat = x.k.toNat + y.k.toNat := by simp only [Nm.mulR]; omega
  rw [this, ← Q4.dn_mul2]
  congr 1
  apply Q4.ext' <;> simp only [Nm.co, Nm.mulR, Q4.ma, Q4.mb, Q4.mc, Q4.md, Rat.intCast_add, Rat.intCast_sub, Rat.intCast_mul]
theorem val_conj (x : Nm) : x.conj.val = Q4.conj x.val := by
  have e : x.conj.co = Q4.conj x.co := by apply Q4.ext' <;> simp only [Nm.co, Nm.conj, Q4.ca, Q4.cb, Q4.cc, Q4.cd, Rat.intCast_neg]
  unfold Nm.val
  rw [← Q4.dn_conj, e]
  rfl
theorem val_neg (x : Nm) : x.neg.val = -x.val := by
  have e : x.neg.co = -x.co := by apply Q4.ext' <;> simp only [Nm.co, Nm.neg, Q4.na, Q4.nb, Q4.nc, Q4.nd, Rat.intCast_neg]
  unfold Nm.val
  rw [← Q4.dn_neg, e]
  rfl
theorem val_zero : Nm.zero.val = 0 := rfl
theorem val_one : Nm.one.val = 1 := rfl

/-- A sum. -/
def sumQ : Nat → (Nat → Q4) → Q4
  | 0, _ => 0
  | n + 1, f => sumQ n f + f n
theorem sumQ_congr : ∀ {n : Nat} {f g : Nat → Q4}, (∀ i, i < n → f i = g i) → sumQ n f = sumQ n g
  | 0, _, _, _ => rfl
  | n + 1, f, g, h => by simp only [sumQ]; rw [sumQ_congr fun i hi => h i (by omega), h n (by omega)]
theorem sumQ_add (n : Nat) (f g : Nat → Q4) : sumQ n (fun i => f i + g i) = sumQ n f + sumQ n g := by
  induction n with
  | zero => exact (Q4.add_zero 0).symm
  | succ n ih => simp only [sumQ]; rw [ih, Q4.add_assoc, Q4.add_assoc, ← Q4.add_assoc (sumQ n g), Q4.add_comm (sumQ n g) (f n), Q4.add_assoc]
theorem sumQ_zero (n : Nat) : sumQ n (fun _ => 0) = 0 := by
  induction n with
  | zero => rfl
  | succ n ih => simp only [sumQ]; rw [ih, Q4.add_zero]
theorem sumQ_neg (n : Nat) (f : Nat → Q4) : sumQ n (fun i => -f i) = -sumQ n f := by
  induction n with
  | zero => exact Q4.neg_zero.symm
  | succ n ih => simp only [sumQ]; rw [ih, Q4.neg_add]
theorem sumQ_mul (n : Nat) (x : Q4) (f : Nat → Q4) : sumQ n (fun i => x * f i) = x * sumQ n f := by
  induction n with
  | zero => exact (Q4.mul_zero x).symm
  | succ n ih => simp only [sumQ]; rw [ih, Q4.mul_add]
theorem sumQ_mulr (n : Nat) (x : Q4) (f : Nat → Q4) : sumQ n (fun i => f i * x) = sumQ n f * x := by
  rw [Q4.mul_comm, ← sumQ_mul]
  exact sumQ_congr fun i _ => Q4.mul_comm _ _
theorem sumQ_conj (n : Nat) (f : Nat → Q4) : Q4.conj (sumQ n f) = sumQ n fun i => Q4.conj (f i) := by
  induction n with
  | zero => exact Q4.conj_zero
  | succ n ih => simp only [sumQ]; rw [Q4.conj_add, ih]
theorem sumQ_swap (m n : Nat) (f : Nat → Nat → Q4) : sumQ m (fun i => sumQ n (fun j => f i j)) = sumQ n (fun j => sumQ m (fun i => f i j)) := by
  induction m with
  | zero => exact (sumQ_zero n).symm
  | succ m ih => simp only [sumQ]; rw [ih, ← sumQ_add]
def dl (i j : Nat) : Q4 := if i = j then 1 else 0
theorem sumQ_dl {n j : Nat} (f : Nat → Q4) (h : j < n) : sumQ n (fun i => dl j i * f i) = f j := by
  induction n with
  | zero => omega
  | succ n ih =>
    simp only [sumQ]
    by_cases e : j = n
    · subst e
      have : sumQ j (fun i => dl j i * f i) = sumQ j (fun _ => 0) := sumQ_congr fun i hi => by unfold dl; rw [if_neg (by omega), Q4.zero_mul]
      rw [this, sumQ_zero, Q4.zero_add]
      unfold dl
      rw [if_pos rfl, Q4.one_mul]
    · rw [ih (by omega)]
      unfold dl
      rw [if_neg e, Q4.zero_mul, Q4.add_zero]
theorem dl_comm (i j : Nat) : dl i j = dl j i := by unfold dl; split <;> split <;> simp_all
theorem dl_conj (i j : Nat) : Q4.conj (dl i j) = dl i j := by unfold dl; split; exact Q4.conj_one; exact Q4.conj_zero
theorem sumQ_dlr {n j : Nat} (f : Nat → Q4) (h : j < n) : sumQ n (fun i => f i * dl i j) = f j := by
  rw [← sumQ_dl f h]
  exact sumQ_congr fun i _ => by rw [Q4.mul_comm, dl_comm]
theorem sumQ_a_nonneg : ∀ {n : Nat} {f : Nat → Q4}, (∀ i, i < n → 0 ≤ (f i).a) → 0 ≤ (sumQ n f).a
  | 0, _, _ => by show (0 : Rat) ≤ 0; grind
  | n + 1, f, h => by
    simp only [sumQ, Q4.aa]
    have := sumQ_a_nonneg (n := n) fun i hi => h i (by omega)
    have := h n (by omega)
    grind
theorem sumQ_a_zero : ∀ {n : Nat} {f : Nat → Q4}, (∀ i, i < n → 0 ≤ (f i).a) → (sumQ n f).a = 0 → ∀ i, i < n → (f i).a = 0
  | 0, _, _, _, i, hi => by omega
  | n + 1, f, h, h0, i, hi => by
    simp only [sumQ, Q4.aa] at h0
    have h1 := sumQ_a_nonneg (n := n) fun i hi => h i (by omega)
    have h2 := h n (by omega)
    by_cases e : i = n
    · subst e; grind
    · have h3 : (sumQ n f).a = 0 := by grind
      exact sumQ_a_zero (n := n) (fun i hi => h i (by omega)) h3 i (by omega)

/-- The rows are unit vectors that are orthogonal to each other. -/
def UnR (n : Nat) (m : Nat → Nat → Q4) : Prop := ∀ i j, i < n → j < n → sumQ n (fun k => m i k * Q4.conj (m j k)) = dl i j
def UnC (n : Nat) (m : Nat → Nat → Q4) : Prop := ∀ i j, i < n → j < n → sumQ n (fun k => Q4.conj (m k i) * m k j) = dl i j
theorem unC_of_unR {n : Nat} {m : Nat → Nat → Q4} (h : UnR n m) : UnC n m := by
  let p : Nat → Nat → Q4 := fun i j => sumQ n (fun k => Q4.conj (m k i) * m k j)
  have hpc : ∀ i j, Q4.conj (p i j) = p j i := fun i j => by
    show Q4.conj (sumQ n _) = sumQ n _
    rw [sumQ_conj]
    exact sumQ_congr fun k _ => by rw [Q4.conj_mul, Q4.conj_conj, Q4.mul_comm]
  have hpp : ∀ i j, i < n → j < n → sumQ n (fun k => p i k * p k j) = p i j := fun i j hi hj => by
    have e1 : sumQ n (fun k => p i k * p k j) = sumQ n fun k => sumQ n fun a => sumQ n fun b => (Q4.conj (m a i) * m a k) * (Q4.conj (m b k) * m b j) := sumQ_congr fun k _ => by
      show sumQ n _ * p k j = _
      rw [← sumQ_mulr]
      exact sumQ_congr fun a _ => by rw [← sumQ_mul]
    rw [e1, sumQ_swap]
    have e2 : ∀ a, a < n → sumQ n (fun k => sumQ n fun b => (Q4.conj (m a i) * m a k) * (Q4.conj (m b k) * m b j)) = Q4.conj (m a i) * m a j := fun a ha => by
      rw [sumQ_swap]
      have e3 : ∀ b, b < n → sumQ n (fun k => (Q4.conj (m a i) * m a k) * (Q4.conj (m b k) * m b j)) = dl a b * (Q4.conj (m a i) * m b j) := fun b hb => by
        rw [← h a b ha hb, ← sumQ_mulr]
        exact sumQ_congr fun k _ => by
          rw [Q4.mul_assoc, Q4.mul_comm (Q4.conj (m a i)), ← Q4.mul_assoc (m a k), Q4.mul_assoc (m a k * Q4.conj (m b k)), Q4.mul_comm (m b j)]
      rw [sumQ_congr e3, sumQ_dl (fun b => Q4.conj (m a i) * m b j) ha]
    rw [sumQ_congr e2]
  have htr : sumQ n (fun i => dl i i - p i i) = 0 := by
    have e1 : sumQ n (fun i => p i i) = sumQ n fun i => dl i i := by
      show sumQ n (fun i => sumQ n fun k => Q4.conj (m k i) * m k i) = _
      rw [sumQ_swap]
      exact sumQ_congr fun k hk => by
        rw [← h k k hk hk]
        exact sumQ_congr fun i _ => Q4.mul_comm _ _
    have e2 : sumQ n (fun i => dl i i - p i i) = sumQ n (fun i => dl i i) + -sumQ n (fun i => p i i) := by rw [← sumQ_neg, ← sumQ_add]; rfl
    rw [e2, e1, Q4.add_neg]
  have hx : ∀ i, i < n → sumQ n (fun j => (dl i j - p i j) * Q4.conj (dl i j - p i j)) = dl i i - p i i := fun i hi => by
    have e1 : ∀ j, j < n → (dl i j - p i j) * Q4.conj (dl i j - p i j) = (dl i j * dl j i + -(dl i j * p j i)) + (-(p i j * dl j i) + p i j * p j i) := fun j _ => by
      rw [Q4.sub_def, Q4.conj_add, Q4.conj_neg, hpc, dl_conj, dl_comm i j, Q4.mul_add, Q4.add_mul, Q4.add_mul, Q4.mul_neg, Q4.mul_neg, Q4.neg_mul, Q4.neg_mul, Q4.add_assoc, Q4.add_assoc]
      congr 1
      rw [← Q4.add_assoc, ← Q4.add_assoc, Q4.add_comm (-(p i j * dl j i))]
      congr 1
      apply Q4.ext' <;> simp only [Q4.na, Q4.nb, Q4.nc, Q4.nd] <;> grind
    rw [sumQ_congr e1, sumQ_add, sumQ_add, sumQ_add, sumQ_neg, sumQ_neg, sumQ_dl (fun j => dl j i) hi, sumQ_dl (fun j => p j i) hi, sumQ_dlr (fun j => p i j) hi, hpp i i hi hi, Q4.add_comm (-p i i) (p i i), Q4.add_neg, Q4.add_zero]
    rfl
  have hz : ∀ i, i < n → (dl i i - p i i).a = 0 := sumQ_a_zero (fun i hi => by rw [← hx i hi]; exact sumQ_a_nonneg fun j _ => Q4.norm_nonneg _) (by rw [htr]; rfl)
  intro i j hi hj
  have h1 : (sumQ n (fun j => (dl i j - p i j) * Q4.conj (dl i j - p i j))).a = 0 := by rw [hx i hi]; exact hz i hi
  have h2 := sumQ_a_zero (fun j _ => Q4.norm_nonneg _) h1 j hj
  exact (Q4.sub_zero_eq (Q4.norm_zero h2)).symm
theorem unR_of_unC {n : Nat} {m : Nat → Nat → Q4} (h : UnC n m) : UnR n m := by
  have h1 : UnR n (fun i k => Q4.conj (m k i)) := fun i j hi hj => by
    rw [← h i j hi hj]
    exact sumQ_congr fun k _ => by rw [Q4.conj_conj]
  have h2 := unC_of_unR h1
  intro i j hi hj
  rw [← h2 i j hi hj]
  exact sumQ_congr fun k _ => by rw [Q4.conj_conj]
theorem unR_iff {n : Nat} {m : Nat → Nat → Q4} : UnR n m ↔ UnC n m := ⟨unC_of_unR, unR_of_unC⟩
end Go.Proofs.Ytjeijnjaleldkaa
namespace Go.Proofs.Ytjeijnjaleldkaa
set_option linter.all false

/-- The sum over all ways to take one out of a list; the rest goes along. -/
def pk {α : Type} : List α → (α → List α → Q4) → Q4
  | [], _ => 0
  | x :: t, F => F x t + pk t fun y r => F y (x :: r)
section
variable {α β : Type}
theorem pk_congr' : ∀ (l : List α) {F G : α → List α → Q4}, (∀ x r, (x :: r).Perm l → F x r = G x r) → pk l F = pk l G
  | [], _, _, _ => rfl
  | x :: t, F, G, h => by
    unfold pk
    rw [h x t (List.Perm.refl _), pk_congr' t fun y r hp => h y (x :: r) ((List.Perm.swap x y r).trans (hp.cons x))]
theorem pk_congr (l : List α) {F G : α → List α → Q4} (h : ∀ x r, F x r = G x r) : pk l F = pk l G := pk_congr' l fun x r _ => h x r
theorem add4 (a b c d : Q4) : a + b + (c + d) = a + c + (b + d) := by
  rw [Q4.add_assoc, Q4.add_assoc, ← Q4.add_assoc b c d, Q4.add_comm b c, Q4.add_assoc c b d]
theorem pk_add : ∀ (l : List α) (F G : α → List α → Q4), pk l (fun x r => F x r + G x r) = pk l F + pk l G
  | [], _, _ => (Q4.add_zero 0).symm
  | x :: t, F, G => by
    unfold pk
    rw [pk_add t, add4]
theorem pk_mul (c : Q4) : ∀ (l : List α) (F : α → List α → Q4), pk l (fun x r => c * F x r) = c * pk l F
  | [], _ => (Q4.mul_zero c).symm
  | x :: t, F => by
    unfold pk
    rw [pk_mul c t, Q4.mul_add]
theorem pk_mulr (c : Q4) (l : List α) (F : α → List α → Q4) : pk l (fun x r => F x r * c) = pk l F * c := by
  rw [Q4.mul_comm, ← pk_mul]
  exact pk_congr l fun x r => Q4.mul_comm _ _
theorem pk_zero : ∀ (l : List α), pk l (fun _ _ => 0) = 0
  | [] => rfl
  | x :: t => by
    unfold pk
    rw [pk_zero t, Q4.add_zero]
theorem pk_comm (m : List β) : ∀ (l : List α) (f : α → List α → β → List β → Q4), pk l (fun x r => pk m fun y q => f x r y q) = pk m fun y q => pk l fun x r => f x r y q
  | [], _ => (pk_zero m).symm
  | x :: t, f => by
    show (pk m fun y q => f x t y q) + pk t (fun z r => pk m fun y q => f z (x :: r) y q) = pk m fun y q => f x t y q + pk t fun z r => f z (x :: r) y q
    rw [pk_comm m t, ← pk_add]
theorem pk_swap : ∀ (l : List α) (f : α → α → List α → Q4), pk l (fun x r => pk r fun y q => f x y q) = pk l fun x r => pk r fun y q => f y x q
  | [], _ => rfl
  | x :: t, f => by
    have h := pk_swap t fun y z q => f y z (x :: q)
    show pk t (fun y q => f x y q) + pk t (fun y r => f y x r + pk r fun z q => f y z (x :: q)) = pk t (fun y q => f y x q) + pk t (fun y r => f x y r + pk r fun z q => f z y (x :: q))
    rw [pk_add, pk_add, h, ← Q4.add_assoc, ← Q4.add_assoc, Q4.add_comm (pk t fun y q => f x y q)]
theorem pk_perm {l l' : List α} (h : l.Perm l') : ∀ {F : α → List α → Q4}, (∀ x r r', r.Perm r' → F x r = F x r') → pk l F = pk l' F := by
  induction h with
  | nil => intro F _; rfl
  | cons x h ih =>
    intro F hF
    unfold pk
    rw [hF x _ _ h, ih fun y r r' hr => hF y _ _ (hr.cons x)]
  | swap x y t =>
    intro F hF
    show F y (x :: t) + (F x (y :: t) + pk t fun z r => F z (y :: x :: r)) = F x (y :: t) + (F y (x :: t) + pk t fun z r => F z (x :: y :: r))
    rw [← Q4.add_assoc, ← Q4.add_assoc, Q4.add_comm (F y (x :: t)), pk_congr t fun z r => hF z _ _ (List.Perm.swap x y r)]
  | trans _ _ ih1 ih2 => intro F hF; rw [ih1 hF, ih2 hF]

/-- The permanent of the rows R and the columns l, by the first row. -/
def pm (a : α → β → Q4) : List α → List β → Q4
  | [], _ => 1
  | r :: R, l => pk l fun x q => a r x * pm a R q
theorem pm_last (a : α → β → Q4) (r : α) : ∀ (R : List α) (l : List β), pm a (R ++ [r]) l = pk l fun x q => pm a R q * a r x
  | [], l => by
    show pk l (fun x q => a r x * 1) = pk l fun x q => 1 * a r x
    exact pk_congr l fun x q => Q4.mul_comm _ _
  | s :: R, l => by
    show pk l (fun x q => a s x * pm a (R ++ [r]) q) = pk l fun x q => (pk q fun y p => a s y * pm a R p) * a r x
    have h1 : pk l (fun x q => a s x * pm a (R ++ [r]) q) = pk l fun x q => pk q fun y p => a s x * pm a R p * a r y :=
      pk_congr l fun x q => by
        rw [pm_last a r R q, ← pk_mul]
        exact pk_congr q fun y p => (Q4.mul_assoc _ _ _).symm
    have h2 : pk l (fun x q => (pk q fun y p => a s y * pm a R p) * a r x) = pk l fun x q => pk q fun y p => a s y * pm a R p * a r x :=
      pk_congr l fun x q => (pk_mulr _ q _).symm
    rw [h1, h2]
    exact pk_swap l fun x y p => a s x * pm a R p * a r y
theorem pm_rot (a : α → β → Q4) (r : α) (R : List α) (l : List β) : pm a (r :: R) l = pm a (R ++ [r]) l := by
  rw [pm_last]
  exact pk_congr l fun x q => Q4.mul_comm _ _
theorem pm_cols (a : α → β → Q4) : ∀ (R : List α) {l l' : List β}, l.Perm l' → pm a R l = pm a R l'
  | [], _, _, _ => rfl
  | r :: R, l, l', h => pk_perm h fun x q q' hq => by rw [pm_cols a R hq]
theorem pm_turn (a : α → β → Q4) (l : List β) : ∀ (X Y : List α), pm a (X ++ Y) l = pm a (Y ++ X) l
  | [], Y => by rw [List.nil_append, List.append_nil]
  | x :: X, Y => by
    have h := pm_turn a l X (Y ++ [x])
    rw [List.cons_append, pm_rot, List.append_assoc, h, List.append_assoc]
    rfl
theorem pm_col (a : α → β → Q4) : ∀ (R : List α) (x : β) (C : List β), R.length = C.length + 1 → pm a R (x :: C) = pk R fun r S => a r x * pm a S C
  | [], _, _, h => by simp at h
  | r :: R, x, C, h => by
    have hl : R.length = C.length := by simpa using h
    show a r x * pm a R C + pk C (fun y q => a r y * pm a R (x :: q)) = a r x * pm a R C + pk R fun s S => a s x * pk C fun y q => a r y * pm a S q
    have h1 : pk C (fun y q => a r y * pm a R (x :: q)) = pk C fun y q => pk R fun s S => a r y * (a s x * pm a S q) :=
      pk_congr' C fun y q hp => by
        have := hp.length_eq
        rw [pm_col a R x q (by simp at this; omega), ← pk_mul]
    have h2 : pk R (fun s S => a s x * pk C fun y q => a r y * pm a S q) = pk R fun s S => pk C fun y q => a r y * (a s x * pm a S q) :=
      pk_congr R fun s S => by
        rw [← pk_mul]
        exact pk_congr C fun y q => by rw [← Q4.mul_assoc, ← Q4.mul_assoc, Q4.mul_comm (a s x)]
    rw [h1, h2, pk_comm]
theorem pm_T (a : α → β → Q4) : ∀ (l : List β) (R : List α), R.length = l.length → pm a R l = pm (fun y x => a x y) l R
  | [], R, h => by
    obtain rfl : R = [] := List.length_eq_zero_iff.1 h
    rfl
  | x :: C, R, h => by
    rw [pm_col a R x C (by simpa using h)]
    exact pk_congr' R fun r S hp => by
      have := hp.length_eq
      rw [pm_T a C S (by simp at this h; omega)]
theorem pm_congr {a b : α → β → Q4} : ∀ (R : List α) (l : List β), (∀ r ∈ R, ∀ x ∈ l, a r x = b r x) → pm a R l = pm b R l
  | [], _, _ => rfl
  | r :: R, l, h => pk_congr' l fun x q hp => by
    rw [h r (by simp) x (hp.mem_iff.1 (by simp)), pm_congr R q fun s hs y hy => h s (by simp [hs]) y (hp.mem_iff.1 (by simp [hy]))]
theorem pm_map {γ δ : Type} (a : α → β → Q4) (f : γ → α) (g : δ → β) : ∀ (R : List γ) (l : List δ), pm a (R.map f) (l.map g) = pm (fun r x => a (f r) (g x)) R l
  | [], _ => rfl
  | r :: R, l => by
    have key : ∀ (l : List δ) (F : β → List β → Q4), pk (l.map g) F = pk l fun x q => F (g x) (q.map g) := by
      intro l
      induction l with
      | nil => intro F; rfl
      | cons x t ih =>
        intro F
        show F (g x) (t.map g) + pk (t.map g) (fun y r => F y (g x :: r)) = F (g x) (t.map g) + pk t fun y r => F (g y) ((x :: r).map g)
        rw [ih]
        rfl
    show pk (l.map g) (fun x q => a (f r) x * pm a (R.map f) q) = pk l fun x q => a (f r) (g x) * pm (fun r x => a (f r) (g x)) R q
    rw [key]
    exact pk_congr l fun x q => by rw [pm_map a f g R q]
end

/-- The sum over a list. -/
def slQ {α : Type} : List α → (α → Q4) → Q4
  | [], _ => 0
  | x :: t, f => f x + slQ t f
section
variable {α : Type}
theorem slQ_app (f : α → Q4) : ∀ (l m : List α), slQ (l ++ m) f = slQ l f + slQ m f
  | [], m => (Q4.zero_add _).symm
  | x :: t, m => by
    show f x + slQ (t ++ m) f = f x + slQ t f + slQ m f
    rw [slQ_app f t m, Q4.add_assoc]
theorem slQ_congr {f g : α → Q4} : ∀ (l : List α), (∀ x ∈ l, f x = g x) → slQ l f = slQ l g
  | [], _ => rfl
  | x :: t, h => by
    show f x + slQ t f = g x + slQ t g
    rw [h x (by simp), slQ_congr t fun y hy => h y (by simp [hy])]
end
theorem slQ_range (f : Nat → Q4) : ∀ n, slQ (List.range n) f = sumQ n f
  | 0 => rfl
  | n + 1 => by
    rw [List.range_succ, slQ_app, slQ_range f n]
    show sumQ n f + (f n + 0) = sumQ n f + f n
    rw [Q4.add_zero]
theorem sumQ_cons (f : Nat → Q4) : ∀ n, sumQ (n + 1) f = f 0 + sumQ n fun k => f (k + 1)
  | 0 => by
    show 0 + f 0 = f 0 + 0
    rw [Q4.add_comm]
  | n + 1 => by
    show sumQ (n + 1) f + f (n + 1) = f 0 + (sumQ n (fun k => f (k + 1)) + f (n + 1))
    rw [sumQ_cons f n, Q4.add_assoc]
theorem pk_idx {α : Type} (d : α) : ∀ (l : List α) (F : α → List α → Q4), pk l F = sumQ l.length fun k => F (l.getD k d) (l.eraseIdx k)
  | [], _ => rfl
  | x :: t, F => by
    rw [List.length_cons, sumQ_cons]
    show F x t + pk t (fun y r => F y (x :: r)) = _
    rw [pk_idx d t]
    rfl
theorem pk_filter {α : Type} [DecidableEq α] (p : α → Bool) : ∀ (l : List α) (F : α → List α → Q4), l.Nodup → pk (l.filter p) F = slQ l fun k => if p k then F k (l.filter fun j => p j && decide (j ≠ k)) else 0
  | [], _, _ => rfl
  | x :: t, F, h => by
    have hx : x ∉ t := (List.nodup_cons.1 h).1
    have ht := (List.nodup_cons.1 h).2
    have e : (t.filter fun j => p j && decide (j ≠ x)) = t.filter p := List.filter_congr fun j hj => by
      have : j ≠ x := fun e => hx (e ▸ hj)
      simp [this]
    show _ = (if p x then F x ((x :: t).filter fun j => p j && decide (j ≠ x)) else 0) + slQ t _
    by_cases hp : p x = true
    · rw [List.filter_cons_of_pos hp, if_pos hp]
      have e0 : ((x :: t).filter fun j => p j && decide (j ≠ x)) = t.filter p := by rw [List.filter_cons_of_neg (by simp), e]
      rw [e0]
      show F x (t.filter p) + pk (t.filter p) (fun y r => F y (x :: r)) = _
      rw [pk_filter p t _ ht]
      congr 1
      refine slQ_congr t fun k hk => ?_
      have : x ≠ k := fun e => hx (e ▸ hk)
      rw [List.filter_cons_of_pos (by simp [hp, this])]
    · rw [List.filter_cons_of_neg hp, if_neg hp, pk_filter p t _ ht, Q4.zero_add]
      refine slQ_congr t fun k hk => ?_
      rw [List.filter_cons_of_neg (by simp [hp])]

/-- The ways to choose the columns of a set from the first c rows. -/
def wyQ (a : Nat → Nat → Q4) (n : Nat) : Nat → Nat → Q4
  | 0, _ => 1
  | c + 1, S => sumQ n fun k => if S.testBit k then wyQ a n c (S - 2 ^ k) * a c k else 0
def colsOf (n S : Nat) : List Nat := (List.range n).filter fun k => S.testBit k
theorem bit_out : ∀ S, S < 64 → ∀ k, k < 6 → S.testBit k = true → S - 2 ^ k < 64 ∧ ∀ j, j < 6 → (S - 2 ^ k).testBit j = (S.testBit j && decide (j ≠ k)) := by decide
theorem wyQ_pm (a : Nat → Nat → Q4) {n : Nat} (hn : n ≤ 6) : ∀ c S, S < 64 → wyQ a n c S = pm a (List.range c) (colsOf n S)
  | 0, _, _ => rfl
  | c + 1, S, hS => by
    rw [List.range_succ, pm_last]
    unfold colsOf
    rw [pk_filter _ _ _ List.nodup_range, slQ_range]
    show sumQ n _ = sumQ n _
    have key : ∀ m, m ≤ n → sumQ m (fun k => if S.testBit k then wyQ a n c (S - 2 ^ k) * a c k else 0) = sumQ m fun k => if S.testBit k then pm a (List.range c) ((List.range n).filter fun j => S.testBit j && decide (j ≠ k)) * a c k else 0 := by
      intro m
      induction m with
      | zero => intro _; rfl
      | succ m ih =>
        intro hm
        show sumQ m _ + _ = sumQ m _ + _
        rw [ih (by omega)]
        congr 1
        dsimp only
        by_cases hb : S.testBit m = true
        · rw [if_pos hb, if_pos hb]
          obtain ⟨h1, h2⟩ := bit_out S hS m (by omega) hb
          rw [wyQ_pm a hn c _ h1]
          congr 2
          exact List.filter_congr fun j hj => h2 j (by have := List.mem_range.1 hj; omega)
        · rw [if_neg hb, if_neg hb]
    exact key n (Nat.le_refl _)
theorem cols_full : ∀ n, n ≤ 6 → colsOf n (2 ^ n - 1) = List.range n := by decide
/-- All columns. -/
theorem wyQ_full (a : Nat → Nat → Q4) {n : Nat} (hn : n ≤ 6) : wyQ a n n (2 ^ n - 1) = pm a (List.range n) (List.range n) := by
  have h : 2 ^ n - 1 < 64 := by
    have : n = 0 ∨ n = 1 ∨ n = 2 ∨ n = 3 ∨ n = 4 ∨ n = 5 ∨ n = 6 := by omega
    rcases this with rfl | rfl | rfl | rfl | rfl | rfl | rfl <;> decide
  rw [wyQ_pm a hn n _ h, cols_full n hn]
end Go.Proofs.Ytjeijnjaleldkaa
namespace Go.Proofs.Ytjeijnjaleldkaa
set_option linter.all false

def sumN : Nat → (Nat → Nm) → Nm
  | 0, _ => Nm.zero
  | m + 1, f => (sumN m f).addR (f m)
/-- The permanent of a list of n rows, by its first row. -/
def pR : Nat → List (List Nm) → Nm
  | 0, _ => Nm.one
  | n + 1, l => sumN (n + 1) fun k => (nm (l.headD []) k).mulR (pR n (l.tail.map fun s => s.eraseIdx k))
theorem sumN_k (f : Nat → Nm) : ∀ m, (∀ k, k < m → 0 ≤ (f k).k) → 0 ≤ (sumN m f).k
  | 0, _ => by show (0 : Int) ≤ 0; omega
  | m + 1, h => addR_k (sumN_k f m fun k hk => h k (by omega))
theorem sumN_val (f : Nat → Nm) : ∀ m, (∀ k, k < m → 0 ≤ (f k).k) → (sumN m f).val = sumQ m fun k => (f k).val
  | 0, _ => val_zero
  | m + 1, h => by
    show ((sumN m f).addR (f m)).val = sumQ m _ + _
    rw [val_addR (sumN_k f m fun k hk => h k (by omega)) (h m (by omega)), sumN_val f m fun k hk => h k (by omega)]
section
variable {α β : Type}
theorem erase_map (f : α → β) : ∀ (l : List α) (k : Nat), (l.map f).eraseIdx k = (l.eraseIdx k).map f
  | [], _ => rfl
  | _ :: _, 0 => rfl
  | x :: t, k + 1 => by
    show f x :: (t.map f).eraseIdx k = f x :: (t.eraseIdx k).map f
    rw [erase_map f t k]
theorem erase_len : ∀ (l : List α) (k : Nat), k < l.length → (l.eraseIdx k).length + 1 = l.length
  | [], _, h => by simp at h
  | _ :: _, 0, _ => rfl
  | x :: t, k + 1, h => by
    show (t.eraseIdx k).length + 1 + 1 = t.length + 1
    rw [erase_len t k (by simpa using h)]
theorem erase_mem : ∀ {l : List α} {k : Nat} {y : α}, y ∈ l.eraseIdx k → y ∈ l
  | x :: t, 0, y, h => by simpa using Or.inr h
  | x :: t, k + 1, y, h => by
    rcases List.mem_cons.1 (show y ∈ x :: t.eraseIdx k from h) with rfl | h
    · simp
    · simp [erase_mem h]
theorem nm_map (a : α → Nm) : ∀ (l : List α) (k : Nat) (h : k < l.length), nm (l.map a) k = a l[k]
  | [], _, h => by simp at h
  | x :: t, 0, _ => rfl
  | x :: t, k + 1, h => nm_map a t k (by simpa using h)
/-- The table of a function of rows and columns. -/
def tbl (a : α → β → Nm) (R : List α) (C : List β) : List (List Nm) := R.map fun r => C.map (a r)
theorem tbl_erase (a : α → β → Nm) (R : List α) (C : List β) (k : Nat) : ((tbl a R C).map fun s => s.eraseIdx k) = tbl a R (C.eraseIdx k) := by
  unfold tbl
  rw [List.map_map]
  exact List.map_congr_left fun r _ => erase_map (a r) C k
theorem pR_k (a : α → β → Nm) (h : ∀ r x, 0 ≤ (a r x).k) : ∀ (n : Nat) (R : List α) (C : List β), R.length = n → C.length = n → 0 ≤ (pR n (tbl a R C)).k
  | 0, _, _, _, _ => by show (0 : Int) ≤ 0; omega
  | n + 1, [], _, hR, _ => by simp at hR
  | n + 1, r :: R, C, hR, hC => sumN_k _ _ fun k hk => by
    show 0 ≤ ((nm (C.map (a r)) k).mulR (pR n ((tbl a R C).map fun s => s.eraseIdx k))).k
    rw [tbl_erase, nm_map (a r) C k (by omega)]
    have := erase_len C k (by omega)
    exact mulR_k (h _ _) (pR_k a h n R _ (by simpa using hR) (by omega))
theorem pR_val (a : α → β → Nm) (h : ∀ r x, 0 ≤ (a r x).k) : ∀ (n : Nat) (R : List α) (C : List β), R.length = n → C.length = n → (pR n (tbl a R C)).val = pm (fun r x => (a r x).val) R C
  | 0, R, C, hR, _ => by
    obtain rfl : R = [] := List.length_eq_zero_iff.1 hR
    exact val_one
  | n + 1, [], _, hR, _ => by simp at hR
  | n + 1, r :: R, C, hR, hC => by
    have hR' : R.length = n := by simpa using hR
    have e : ∀ k, k < n + 1 → ∃ hk : k < C.length, (nm ((tbl a (r :: R) C).headD []) k).mulR (pR n ((tbl a (r :: R) C).tail.map fun s => s.eraseIdx k)) = (a r C[k]).mulR (pR n (tbl a R (C.eraseIdx k))) := fun k hk => ⟨by omega, by
      show (nm (C.map (a r)) k).mulR (pR n ((tbl a R C).map fun s => s.eraseIdx k)) = _
      rw [tbl_erase, nm_map (a r) C k (by omega)]⟩
    have hk0 : ∀ k, k < n + 1 → (C.eraseIdx k).length = n := fun k hk => by have := erase_len C k (by omega); omega
    show (sumN (n + 1) _).val = pk C fun x q => (a r x).val * pm (fun r x => (a r x).val) R q
    rw [sumN_val _ _ fun k hk => by obtain ⟨_, e⟩ := e k hk; rw [e]; exact mulR_k (h _ _) (pR_k a h n R _ hR' (hk0 k hk))]
    cases C with
    | nil => simp at hC
    | cons x0 C0 =>
      rw [pk_idx x0, hC]
      refine sumQ_congr fun k hk => ?_
      obtain ⟨hk1, e⟩ := e k hk
      rw [e, val_mulR (h _ _) (pR_k a h n R _ hR' (hk0 k hk)), pR_val a h n R _ hR' (hk0 k hk), List.getD_eq_getElem?_getD, List.getElem?_eq_getElem hk1]
      rfl
end

/-! ### Size -/
def Nm.pl (x y : Nm) : Nm := ⟨x.a + y.a, x.b + y.b, x.c + y.c, x.d + y.d, x.k⟩
theorem tr_pl (x y : Nm) : (x.pl y).tr = x.tr.pl y.tr := by
  simp only [Nm.pl, Nm.tr]
  congr 1 <;> omega
theorem up_pl : ∀ (n : Nat) (x y : Nm), Nm.up n (x.pl y) = (Nm.up n x).pl (Nm.up n y)
  | 0, _, _ => rfl
  | n + 1, x, y => by
    show Nm.up n (x.pl y).tr = _
    rw [tr_pl, up_pl n]
    rfl
theorem up_to {x : Nm} {m K : Int} (h : x.k ≤ m) (h' : m ≤ K) : Nm.up (K - m).toNat (x.to m) = x.to K := by
  unfold Nm.to
  rw [Nm.up_add]
  congr 1
  omega
theorem pl_comm' (x y : Nm) (h : x.k = y.k) : x.pl y = y.pl x := by
  unfold Nm.pl
  rw [h, Int.add_comm x.a, Int.add_comm x.b, Int.add_comm x.c, Int.add_comm x.d]
theorem addR_to {x y : Nm} {K : Int} (hx : x.k ≤ K) (hy : y.k ≤ K) : (x.addR y).k ≤ K ∧ (x.addR y).to K = (x.to K).pl (y.to K) := by
  rcases Int.lt_or_le x.k y.k with h | h
  · have e : x.addR y = (x.to y.k).pl y := by
      rw [addR_lt h]
      unfold Nm.pl
      rw [Nm.to_k (by omega)]
    have ek : (x.addR y).k = y.k := by rw [addR_lt h]
    refine ⟨by omega, ?_⟩
    show Nm.up (K - (x.addR y).k).toNat (x.addR y) = _
    rw [ek, e, up_pl, up_to (by omega) hy]
    rfl
  · have e : x.addR y = x.pl (y.to x.k) := by
      rw [addR_ge h]
      unfold Nm.pl
      rw [Int.add_comm x.a, Int.add_comm x.b, Int.add_comm x.c, Int.add_comm x.d]
    have ek : (x.addR y).k = x.k := by rw [addR_ge h]
    refine ⟨by omega, ?_⟩
    show Nm.up (K - (x.addR y).k).toNat (x.addR y) = _
    rw [ek, e, up_pl, up_to h hx]
    rfl
theorem tr_down {B : Int} {z : Nm} (h : z.tr.Fit B) : z.Fit B := by
  obtain ⟨a0, a1, b0, b1, c0, c1, d0, d1⟩ := h
  simp only [Nm.tr] at *
  exact ⟨by omega, by omega, by omega, by omega, by omega, by omega, by omega, by omega⟩
theorem up_down {B : Int} : ∀ (n : Nat) {z : Nm}, (Nm.up n z).Fit B → z.Fit B
  | 0, _, h => h
  | n + 1, z, h => tr_down (up_down n (z := z.tr) h)
theorem pl_fit {A B : Int} {x y : Nm} (hx : x.Fit A) (hy : y.Fit B) : (x.pl y).Fit (A + B) := by
  obtain ⟨a0, a1, b0, b1, c0, c1, d0, d1⟩ := hx
  obtain ⟨a0', a1', b0', b1', c0', c1', d0', d1'⟩ := hy
  exact ⟨by simp only [Nm.pl]; omega, by simp only [Nm.pl]; omega, by simp only [Nm.pl]; omega, by simp only [Nm.pl]; omega, by simp only [Nm.pl]; omega, by simp only [Nm.pl]; omega, by simp only [Nm.pl]; omega, by simp only [Nm.pl]; omega⟩
theorem mul_bd {x y A B : Int} (hx : -A ≤ x) (hx' : x ≤ A) (hy : -B ≤ y) (hy' : y ≤ B) : -(A * B) ≤ x * y ∧ x * y ≤ A * B := by
  have h1 : x.natAbs ≤ A.toNat := by omega
  have h2 : y.natAbs ≤ B.toNat := by omega
  have h3 := Nat.mul_le_mul h1 h2
  rw [← Int.natAbs_mul] at h3
  have h4 : ((A.toNat * B.toNat : Nat) : Int) = A * B := by
    rw [Int.natCast_mul, Int.toNat_of_nonneg (by omega), Int.toNat_of_nonneg (by omega)]
  omega
theorem mulR_fitG {A B : Int} {x y : Nm} (hx : x.Fit A) (hy : y.Fit B) : (x.mulR y).Fit (4 * (A * B)) := by
  obtain ⟨a0, a1, b0, b1, c0, c1, d0, d1⟩ := hx
  obtain ⟨a0', a1', b0', b1', c0', c1', d0', d1'⟩ := hy
  have p1 := mul_bd a0 a1 a0' a1'; have p2 := mul_bd a0 a1 b0' b1'; have p3 := mul_bd a0 a1 c0' c1'; have p4 := mul_bd a0 a1 d0' d1'
  have q1 := mul_bd b0 b1 a0' a1'; have q2 := mul_bd b0 b1 b0' b1'; have q3 := mul_bd b0 b1 c0' c1'; have q4 := mul_bd b0 b1 d0' d1'
  have r1 := mul_bd c0 c1 a0' a1'; have r2 := mul_bd c0 c1 b0' b1'; have r3 := mul_bd c0 c1 c0' c1'; have r4 := mul_bd c0 c1 d0' d1'
  have s1 := mul_bd d0 d1 a0' a1'; have s2 := mul_bd d0 d1 b0' b1'; have s3 := mul_bd d0 d1 c0' c1'; have s4 := mul_bd d0 d1 d0' d1'
  generalize A * B = M at *
  unfold Nm.mulR
  exact ⟨by dsimp only; omega, by dsimp only; omega, by dsimp only; omega, by dsimp only; omega, by dsimp only; omega, by dsimp only; omega, by dsimp only; omega, by dsimp only; omega⟩
theorem mulR_tl (x y : Nm) : x.tr.mulR y = (x.mulR y).tr := by
  unfold Nm.mulR Nm.tr
  congr 1 <;> grind
theorem mulR_tr (x y : Nm) : x.mulR y.tr = (x.mulR y).tr := by
  unfold Nm.mulR Nm.tr
  congr 1 <;> grind
theorem mulR_ul : ∀ (n : Nat) (x y : Nm), (Nm.up n x).mulR y = Nm.up n (x.mulR y)
  | 0, _, _ => rfl
  | n + 1, x, y => by
    show (Nm.up n x.tr).mulR y = Nm.up n (x.mulR y).tr
    rw [mulR_ul n, mulR_tl]
theorem mulR_ur : ∀ (n : Nat) (x y : Nm), x.mulR (Nm.up n y) = Nm.up n (x.mulR y)
  | 0, _, _ => rfl
  | n + 1, x, y => by
    show x.mulR (Nm.up n y.tr) = Nm.up n (x.mulR y).tr
    rw [mulR_ur n, mulR_tr]
theorem mulR_to {x y : Nm} {m n : Int} (hx : x.k ≤ m) (hy : y.k ≤ n) : (x.to m).mulR (y.to n) = (x.mulR y).to (m + n) := by
  have e : (x.mulR y).k = x.k + y.k := rfl
  unfold Nm.to
  rw [mulR_ul, mulR_ur, Nm.up_add, e]
  congr 1
  omega
def Bc : Nat → Int
  | 0 => 1
  | n + 1 => 36028797018963968 * Bc n
theorem Bc_pos : ∀ n, 1 ≤ Bc n
  | 0 => by show (1 : Int) ≤ 1; omega
  | n + 1 => by have := Bc_pos n; show 1 ≤ 36028797018963968 * Bc n; omega
theorem Bc_mono {m n : Nat} (h : m ≤ n) : Bc m ≤ Bc n := by
  induction h with
  | refl => exact Int.le_refl _
  | step _ ih => rename_i k _; have := Bc_pos k; show _ ≤ 36028797018963968 * Bc k; omega
/-- Bounded as the product of n numbers. -/
structure Bd (n : Nat) (M : Int) (z : Nm) : Prop where
  k0 : 0 ≤ z.k
  k1 : z.k ≤ 40 * n
  fit : (z.to (40 * n)).Fit M
theorem Bd.self {n : Nat} {M : Int} {z : Nm} (h : Bd n M z) : z.Fit M := up_down _ h.fit
theorem Bd.mul {n : Nat} {M : Int} {x z : Nm} (hx : x.Ok) (h : Bd n M z) : Bd (n + 1) (4503599627370496 * M) (x.mulR z) := by
  have hf : (x.to 40).Fit 1048576000000000 := by unfold Nm.to; exact Nm.up40_fit hx.fit (by have := hx.k0; omega)
  have h0 := hx.k0; have h1 := hx.k1; have h2 := h.k0; have h3 := h.k1
  have ek : (x.mulR z).k = x.k + z.k := rfl
  have e := mulR_to hx.k1 h.k1
  have e2 : (40 : Int) + 40 * n = 40 * ((n + 1 : Nat) : Int) := by simp only [Int.natCast_add]; omega
  rw [e2] at e
  have hM : 0 ≤ M := by have := h.fit.a0; have := h.fit.a1; omega
  refine ⟨by omega, by omega, ?_⟩
  rw [← e]
  exact Nm.fit_mono (mulR_fitG hf h.fit) (by omega)
theorem sumN_bd {n : Nat} {M : Int} (f : Nat → Nm) (hM : 0 ≤ M) : ∀ m, (∀ k, k < m → Bd n M (f k)) → Bd n (m * M) (sumN m f)
  | 0, _ => by
    have e : ∀ j, ((Nm.up j Nm.zero).a = 0 ∧ (Nm.up j Nm.zero).b = 0) ∧ (Nm.up j Nm.zero).c = 0 ∧ (Nm.up j Nm.zero).d = 0 := by
      intro j
      induction j with
      | zero => exact ⟨⟨rfl, rfl⟩, rfl, rfl⟩
      | succ j ih =>
        rw [Nm.up, Nm.up_tr]
        simp only [Nm.tr]
        omega
    have e := e (40 * (n : Int) - Nm.zero.k).toNat
    refine ⟨by show (0 : Int) ≤ 0; omega, by show (0 : Int) ≤ 40 * n; omega, ?_⟩
    unfold Nm.to
    show Nm.Fit ((0 : Nat) * M) (Nm.up (40 * (n : Int) - Nm.zero.k).toNat Nm.zero)
    exact ⟨by omega, by omega, by omega, by omega, by omega, by omega, by omega, by omega⟩
  | m + 1, h => by
    have ih := sumN_bd f hM m fun k hk => h k (by omega)
    have h1 := h m (by omega)
    have e := addR_to ih.k1 h1.k1
    refine ⟨addR_k ih.k0, e.1, ?_⟩
    show (((sumN m f).addR (f m)).to _).Fit _
    rw [e.2]
    refine Nm.fit_mono (pl_fit ih.fit h1.fit) ?_
    rw [Int.natCast_add, Int.add_mul]
    omega
theorem one_bd : Bd 0 (Bc 0) Nm.one := ⟨by decide, by decide, ⟨by decide, by decide, by decide, by decide, by decide, by decide, by decide, by decide⟩⟩
theorem Bd.mono {n : Nat} {M M' : Int} {z : Nm} (h : Bd n M z) (hM : M ≤ M') : Bd n M' z := ⟨h.k0, h.k1, Nm.fit_mono h.fit hM⟩
/-- Every row has n valid numbers. -/
def Sq (n : Nat) (l : List (List Nm)) : Prop := ∀ s ∈ l, s.length = n ∧ ∀ z ∈ s, z.Ok
theorem Sq.erase {n k : Nat} {l : List (List Nm)} (h : Sq (n + 1) l) (hk : k < n + 1) : Sq n (l.map fun s => s.eraseIdx k) := by
  intro s hs
  obtain ⟨t, ht, rfl⟩ := List.mem_map.1 hs
  obtain ⟨h1, h2⟩ := h t ht
  have := erase_len t k (by omega)
  exact ⟨by omega, fun z hz => h2 z (erase_mem hz)⟩
theorem Sq.tail {n : Nat} {l : List (List Nm)} (h : Sq n l) : Sq n l.tail := fun s hs => h s (List.mem_of_mem_tail hs)
theorem pR_bd : ∀ (n : Nat) (l : List (List Nm)), n ≤ 7 → l.length = n → Sq n l → Bd n (Bc n) (pR n l)
  | 0, _, _, _, _ => one_bd
  | n + 1, [], _, h, _ => by simp at h
  | n + 1, r :: l, hn, h, hS => by
    obtain ⟨h1, h2⟩ := hS r (by simp)
    have hb := Bc_pos n
    have key : ∀ k, k < n + 1 → Bd (n + 1) (4503599627370496 * Bc n) ((nm r k).mulR (pR n (l.map fun s => s.eraseIdx k))) := fun k hk =>
      Bd.mul (h2 _ (NmE.at_mem (by omega))) (pR_bd n _ (by omega) (by simpa using h) (Sq.erase (hS.tail) hk))
    have := sumN_bd _ (by omega) (n + 1) key
    refine this.mono ?_
    show ((n + 1 : Nat) : Int) * (4503599627370496 * Bc n) ≤ 36028797018963968 * Bc n
    have e := Int.mul_le_mul_of_nonneg_right (show ((n + 1 : Nat) : Int) ≤ 8 by omega) (show 0 ≤ 4503599627370496 * Bc n by omega)
    omega
theorem Bc_5 : Bc 5 = 60708402882054033466233184588234965832575213720379360039119137804340758912662765568 := by decide
theorem sumN_congr {f g : Nat → Nm} : ∀ m, (∀ k, k < m → f k = g k) → sumN m f = sumN m g
  | 0, _ => rfl
  | m + 1, h => by
    show (sumN m f).addR (f m) = (sumN m g).addR (g m)
    rw [sumN_congr m fun k hk => h k (by omega), h m (by omega)]
end Go.Proofs.Ytjeijnjaleldkaa
namespace Go.Proofs.Ytjeijnjaleldkaa
set_option linter.all false

def sumS : Nat → (Nat → Nat → Int) → Nat → Int
  | 0, _ => fun _ => 0
  | m + 1, f => fun j => sumS m f j + f m j
/-- The ways to choose the columns of S from the first c rows; A: the table. -/
def wyS (A : Nat → Nat → Nat → Int) (n : Nat) : Nat → Nat → Nat → Int
  | 0, _ => sel4 1 0 0 0
  | c + 1, S => sumS n fun k => if S.testBit k then acc (wyS A n c (S - 2 ^ k)) (A c k) 16 else fun _ => 0
def nmF (T : Nat → Int) (k : Int) : Nm := ⟨T 0, T 1, T 2, T 3, k⟩
def co4 (z : Nm) : Nat → Int := sel4 z.a z.b z.c z.d
theorem val_pl {x y : Nm} (h : x.k = y.k) : (x.pl y).val = x.val + y.val := by
  unfold Nm.val Nm.pl
  dsimp only
  rw [← h, ← Q4.dn_add]
  congr 1
  apply Q4.ext' <;> simp only [Nm.co, Q4.aa, Q4.ab, Q4.ac, Q4.ad, Rat.intCast_add]
theorem dh_zero' : Q4.dh 0 = 0 := by
  apply Q4.ext' <;> simp only [Q4.dh, Q4.za, Q4.zb, Q4.zc, Q4.zd] <;> grind
theorem dn_zero' : ∀ n, Q4.dn n 0 = 0
  | 0 => rfl
  | n + 1 => by
    show Q4.dn n (Q4.dh 0) = 0
    rw [dh_zero']; exact dn_zero' n
theorem nmF_zero (k : Int) : (nmF (fun _ => 0) k).val = 0 := dn_zero' _
theorem sumS_val (f : Nat → Nat → Int) (K : Int) : ∀ m, (nmF (sumS m f) K).val = sumQ m fun k => (nmF (f k) K).val
  | 0 => nmF_zero K
  | m + 1 => by
    show (Nm.pl (nmF (sumS m f) K) (nmF (f m) K)).val = sumQ m _ + _
    rw [val_pl (x := nmF (sumS m f) K) (y := nmF (f m) K) rfl, sumS_val f K m]
theorem acc_cong {X X' Y : Nat → Int} (h : ∀ i, i < 4 → X i = X' i) : ∀ n j, n ≤ 16 → acc X Y n j = acc X' Y n j
  | 0, _, _ => rfl
  | n + 1, j, hn => by
    unfold acc
    rw [acc_cong h n j (by omega), h (n / 4) (by omega)]
theorem acc_nm (T : Nat → Int) (k : Int) (z : Nm) : nmF (acc T (co4 z) 16) (k + z.k) = (nmF T k).mulR z := by
  have e := acc_16 (nmF T k) z
  have hT : ∀ i, i < 4 → T i = sel4 (nmF T k).a (nmF T k).b (nmF T k).c (nmF T k).d i := by
    intro i hi
    rcases (by omega : i = 0 ∨ i = 1 ∨ i = 2 ∨ i = 3) with rfl | rfl | rfl | rfl <;> rfl
  rw [← e]
  unfold nmF co4
  rw [acc_cong hT 16 0 (by omega), acc_cong hT 16 1 (by omega), acc_cong hT 16 2 (by omega), acc_cong hT 16 3 (by omega)]
  rfl
section
variable {a : Nat → Nat → Nm} {K : Int} {n : Nat}
theorem wyS_val (hn : n ≤ 6) (hK : 0 ≤ K) (h : ∀ i k, i < n → k < n → 0 ≤ (a i k).k ∧ (a i k).k ≤ K) : ∀ c S, c ≤ n → (nmF (wyS (fun i k => co4 ((a i k).to K)) n c S) (c * K)).val = wyQ (fun i k => (a i k).val) n c S
  | 0, S, _ => by
    show (nmF (sel4 1 0 0 0) (((0 : Nat) : Int) * K)).val = 1
    rw [show ((0 : Nat) : Int) * K = 0 by simp]
    exact val_one
  | c + 1, S, hc => by
    show (nmF (sumS n _) _).val = sumQ n _
    rw [sumS_val]
    refine sumQ_congr fun k hk => ?_
    by_cases hb : S.testBit k = true
    · rw [if_pos hb, if_pos hb]
      obtain ⟨h0, h1⟩ := h c k (by omega) hk
      have ek := Nm.to_k (z := a c k) (m := K) h1
      have e := acc_nm (wyS (fun i k => co4 ((a i k).to K)) n c (S - 2 ^ k)) (c * K) ((a c k).to K)
      rw [ek] at e
      have e2 : ((c + 1 : Nat) : Int) * K = c * K + K := by rw [Int.natCast_add, Int.add_mul]; simp
      have hcK : 0 ≤ (c : Int) * K := Int.mul_nonneg (by omega) hK
      rw [e2, e, val_mulR (by show 0 ≤ (c : Int) * K; exact hcK) (by omega), wyS_val hn hK h c _ (by omega), to_up h0]
    · rw [if_neg hb, if_neg hb]
      exact nmF_zero _
end
def Be : Nat → Int
  | 0 => 1
  | c + 1 => 144115188075855872 * Be c
theorem Be_pos : ∀ n, 1 ≤ Be n
  | 0 => by show (1 : Int) ≤ 1; omega
  | n + 1 => by have := Be_pos n; show 1 ≤ 144115188075855872 * Be n; omega
theorem sumS_bd (f : Nat → Nat → Int) {M : Int} (j : Nat) : ∀ m, (∀ k, k < m → -M ≤ f k j ∧ f k j ≤ M) → -(m * M) ≤ sumS m f j ∧ sumS m f j ≤ m * M
  | 0, _ => by show -(((0 : Nat) : Int) * M) ≤ 0 ∧ 0 ≤ ((0 : Nat) : Int) * M; omega
  | m + 1, h => by
    have ih := sumS_bd f j m fun k hk => h k (by omega)
    have h1 := h m (by omega)
    have e : ((m + 1 : Nat) : Int) * M = m * M + M := by rw [Int.natCast_add, Int.add_mul]; simp
    show -(((m + 1 : Nat) : Int) * M) ≤ sumS m f j + f m j ∧ sumS m f j + f m j ≤ ((m + 1 : Nat) : Int) * M
    omega
theorem wyS_bd {A : Nat → Nat → Nat → Int} {n : Nat} (hn : n ≤ 6) (hA : ∀ i k j, i < n → k < n → j < 4 → -1048576000000000 ≤ A i k j ∧ A i k j ≤ 1048576000000000) : ∀ c S j, c ≤ n → j < 4 → -(Be c) ≤ wyS A n c S j ∧ wyS A n c S j ≤ Be c
  | 0, S, j, _, hj => by
    show -(1 : Int) ≤ sel4 1 0 0 0 j ∧ sel4 1 0 0 0 j ≤ (1 : Int)
    rcases (by omega : j = 0 ∨ j = 1 ∨ j = 2 ∨ j = 3) with rfl | rfl | rfl | rfl <;> decide
  | c + 1, S, j, hc, hj => by
    have hB := Be_pos c
    have key : ∀ k, k < n → -(16 * (Be c * 1048576000000000)) ≤ (if S.testBit k then acc (wyS A n c (S - 2 ^ k)) (A c k) 16 else fun _ => 0) j ∧ (if S.testBit k then acc (wyS A n c (S - 2 ^ k)) (A c k) 16 else fun _ => 0) j ≤ 16 * (Be c * 1048576000000000) := by
      intro k hk
      split
      · have := acc_bound (X := wyS A n c (S - 2 ^ k)) (Y := A c k) (M := Be c * 1048576000000000) (by omega) (fun i l hi hl => by
          have h1 := wyS_bd hn hA c (S - 2 ^ k) i (by omega) hi
          have h2 := hA c k l (by omega) hk hl
          exact mul_bd h1.1 h1.2 h2.1 h2.2) 16 j (by omega)
        exact this
      · dsimp only; omega
    have := sumS_bd (M := 16 * (Be c * 1048576000000000)) _ j n key
    show -(144115188075855872 * Be c) ≤ sumS n _ j ∧ sumS n _ j ≤ 144115188075855872 * Be c
    have e := Int.mul_le_mul_of_nonneg_right (show (n : Int) ≤ 6 by omega) (show 0 ≤ 16 * (Be c * 1048576000000000) by omega)
    omega
theorem sumS_congr {f g : Nat → Nat → Int} : ∀ m, (∀ k, k < m → f k = g k) → sumS m f = sumS m g
  | 0, _ => rfl
  | m + 1, h => by
    show (fun j => sumS m f j + f m j) = fun j => sumS m g j + g m j
    rw [sumS_congr m fun k hk => h k (by omega), h m (by omega)]
end Go.Proofs.Ytjeijnjaleldkaa
namespace Go.Proofs.Ytjeijnjaleldkaa
set_option linter.all false
open Go.RowKit

section
variable {P : Program} {ops : Array Oper} {Q : Exit → Act → World → Prop} {B : World} {F : List Nat} {z : List Blk}
/-- A relation that every operation that may come up keeps. -/
theorem rt_inv (J : Nat → Array Bool → Act → List Blk → Prop)
    (step : ∀ n listed a s, J (n + 1) listed a s → Region.ready .any ops listed ≠ [] ∧ ∀ i ∈ Region.ready .any ops listed, ∃ o, ops[i]? = some o ∧
      Rg none P ops (Exit.then (fun a' w' => ∃ s', Kn B F s' w' ∧ z.Sublist s' ∧ J n (listed.setIfInBounds i true) a' s') Q) B F (some (z, z)) [(o, 1)] a s)
    (fin : ∀ listed a s, J 0 listed a s → Region.ready .any ops listed = [] ∧ Ek B F Q .normal a s) : ∀ n listed a s, J n listed a s → RT P ops Q B F z n listed a s
  | 0, listed, a, s, h => fun w K => ⟨(fin listed a s h).1, (fin listed a s h).2 w K⟩
  | n + 1, listed, a, s, h => fun w K => by
    obtain ⟨hne, hst⟩ := step n listed a s h
    refine wpAnyH_all rfl hne fun i hi => ?_
    obtain ⟨o, ho, hr⟩ := hst i hi
    refine wpOp_of_list ho ?_
    rcases hr with hr | ⟨hn, _⟩
    · refine hop_list (hop_mono ?_ (hop_panic (Q1 := Exit.then (fun a' w' => ∃ s', Kn B F s' w' ∧ z.Sublist s' ∧ J n (listed.setIfInBounds i true) a' s') Q) (Q := Q) (fun c a w h => h) (fun ⟨a₀, w₀, h₀⟩ => ⟨a₀, w₀, h₀⟩) (hr w K)))
      rintro a' w' ⟨s', K', _, h'⟩
      obtain ⟨s2, K2, hz2, hJ⟩ := h' w' K'
      exact ⟨K2.sub hz2, rt_inv J step fin n _ a' s2 hJ w' K2⟩
    · cases hn
end

def b4 (b : Nat → Bool) : List Bool := [b 0, b 1, b 2, b 3]
def st4 (b0 b1 b2 b3 : Bool) (k : Nat) : Array Bool := #[true, true, true, true, true, true, true, true, b0, b1, b2, b3, decide (0 < k), decide (1 < k), decide (2 < k), decide (3 < k)]
/-- What may come up: a block that is not made yet, or the next one to be written. -/
def ok4 (ops : Array Oper) (b0 b1 b2 b3 : Bool) (k : Nat) : Bool :=
  let r := Region.ready .any ops (st4 b0 b1 b2 b3 k)
  (r.isEmpty == (b0 && b1 && b2 && b3 && k == 4)) && r.all fun i => (decide (8 ≤ i) && decide (i < 12) && !([b0, b1, b2, b3].getD (i - 8) true)) || (decide (i = 12 + k) && decide (k < 4) && [b0, b1, b2, b3].getD k false)
def bools : List Bool := [false, true]
def chk4 (ops : Array Oper) : Bool := bools.all fun b0 => bools.all fun b1 => bools.all fun b2 => bools.all fun b3 => [0, 1, 2, 3, 4].all fun k => !(([b0, b1, b2, b3].take k).all id) || ok4 ops b0 b1 b2 b3 k
theorem chk4_at {ops : Array Oper} (h : chk4 ops = true) (b0 b1 b2 b3 : Bool) {k : Nat} (hk : k ≤ 4) (hb : (([b0, b1, b2, b3].take k).all id) = true) : ok4 ops b0 b1 b2 b3 k = true := by
  unfold chk4 at h
  have mb : ∀ b : Bool, b ∈ bools := fun b => by cases b <;> simp [bools]
  have h1 := List.all_eq_true.1 h b0 (mb b0)
  have h2 := List.all_eq_true.1 h1 b1 (mb b1)
  have h3 := List.all_eq_true.1 h2 b2 (mb b2)
  have h4 := List.all_eq_true.1 h3 b3 (mb b3)
  have h5 := List.all_eq_true.1 h4 k (by have : k = 0 ∨ k = 1 ∨ k = 2 ∨ k = 3 ∨ k = 4 := by omega
                                         rcases this with rfl | rfl | rfl | rfl | rfl <;> simp)
  rw [hb] at h5
  simpa using h5
def put4 (a : Act) (v : Nat → Value) : Act := ⟨(((a.tmps.setIfInBounds 6 (v 0)).setIfInBounds 7 (v 1)).setIfInBounds 8 (v 2)).setIfInBounds 9 (v 3), a.defers⟩
theorem put4_put (a : Act) (v : Nat → Value) (x : Value) {j : Nat} (hj : j < 4) : (put4 a v).put (some (6 + j)) x = put4 a (upd v j x) := by
  unfold put4 Act.put
  dsimp only
  congr 1
  refine Array.ext_getElem? fun i => ?_
  rcases lt4 hj with rfl | rfl | rfl | rfl <;> simp only [Array.getElem?_setIfInBounds, Array.size_setIfInBounds, upd] <;>
    by_cases h6 : 6 = i <;> by_cases h7 : 7 = i <;> by_cases h8 : 8 = i <;> by_cases h9 : 9 = i <;> simp [h6, h7, h8, h9] <;> omega
theorem put4_t (a : Act) (v : Nat → Value) (h : 10 ≤ a.tmps.size) {j : Nat} (hj : j < 4) : (put4 a v).eval (.tmp (6 + j)) = v j := by
  unfold put4 Act.eval
  dsimp only
  have h6 : 6 < a.tmps.size := by omega
  have h7 : 7 < a.tmps.size := by omega
  have h8 : 8 < a.tmps.size := by omega
  have h9 : 9 < a.tmps.size := by omega
  rcases lt4 hj with rfl | rfl | rfl | rfl <;> simp [Array.getD_eq_getD_getElem?, Array.getElem?_setIfInBounds, h6, h7, h8, h9]
theorem put4_r (a : Act) (v : Nat → Value) {j : Nat} (hj : 10 ≤ j) : (put4 a v).eval (.tmp j) = a.eval (.tmp j) := by
  unfold put4 Act.eval
  dsimp only
  have h6 : 6 ≠ j := by omega
  have h7 : 7 ≠ j := by omega
  have h8 : 8 ≠ j := by omega
  have h9 : 9 ≠ j := by omega
  simp [Array.getD_eq_getD_getElem?, Array.getElem?_setIfInBounds, h6, h7, h8, h9]
/-- Block j, as far as it is made. -/
def X4 (T : Nat) (z0 : Array Value) (c : Nat → List Value) (g : Nat → Nat) (b : Nat → Bool) (k j : Nat) : List Blk := if b j then [(g j, .cells (if j < k then (c j).toArray else z0) T)] else []
def cnt4 (b : Nat → Bool) : Nat := (if b 0 then 0 else 1) + (if b 1 then 0 else 1) + (if b 2 then 0 else 1) + (if b 3 then 0 else 1)
def L4 (X : Nat → List Blk) (s : List Blk) : List Blk := X 0 ++ (X 1 ++ (X 2 ++ (X 3 ++ s)))
theorem L4_congr {X Y : Nat → List Blk} (s : List Blk) (h : ∀ j, j < 4 → X j = Y j) : L4 X s = L4 Y s := by
  unfold L4
  rw [h 0 (by decide), h 1 (by decide), h 2 (by decide), h 3 (by decide)]
theorem L4_add {X Y : Nat → List Blk} {x : Blk} {s : List Blk} {j : Nat} (hj : j < 4) (h0 : X j = []) (h1 : Y j = [x]) (h : ∀ i, i < 4 → i ≠ j → Y i = X i) : (x :: L4 X s).Perm (L4 Y s) := by
  unfold L4
  rcases lt4 hj with rfl | rfl | rfl | rfl
  · rw [h0, h1, h 1 (by decide) (by decide), h 2 (by decide) (by decide), h 3 (by decide) (by decide)]; exact List.Perm.refl _
  · rw [h0, h1, h 0 (by decide) (by decide), h 2 (by decide) (by decide), h 3 (by decide) (by decide)]; exact List.perm_middle.symm
  · rw [h0, h1, h 0 (by decide) (by decide), h 1 (by decide) (by decide), h 3 (by decide) (by decide)]
    exact List.perm_middle.symm.trans (List.Perm.append_left _ List.perm_middle.symm)
  · rw [h0, h1, h 0 (by decide) (by decide), h 1 (by decide) (by decide), h 2 (by decide) (by decide)]
    exact List.perm_middle.symm.trans (List.Perm.append_left _ (List.perm_middle.symm.trans (List.Perm.append_left _ List.perm_middle.symm)))
theorem L4_upd {X Y : Nat → List Blk} {g T i : Nat} {vs : List Value} {cs : Array Value} {s : List Blk} {j : Nat} (hj : j < 4) (hi : i + vs.length ≤ cs.size) (h0 : X j = [(g, .cells cs T)]) (h1 : Y j = [(g, .cells (setMany cs i vs) T)]) (h : ∀ i, i < 4 → i ≠ j → Y i = X i) : UpdR g i vs (L4 X s) (L4 Y s) := by
  unfold L4
  rcases lt4 hj with rfl | rfl | rfl | rfl
  · rw [h0, h1, h 1 (by decide) (by decide), h 2 (by decide) (by decide), h 3 (by decide) (by decide)]; exact UpdR.here _ _ _ hi
  · rw [h0, h1, h 0 (by decide) (by decide), h 2 (by decide) (by decide), h 3 (by decide) (by decide)]; exact UpdR.app _ (UpdR.here _ _ _ hi)
  · rw [h0, h1, h 0 (by decide) (by decide), h 1 (by decide) (by decide), h 3 (by decide) (by decide)]; exact UpdR.app _ (UpdR.app _ (UpdR.here _ _ _ hi))
  · rw [h0, h1, h 0 (by decide) (by decide), h 1 (by decide) (by decide), h 2 (by decide) (by decide)]; exact UpdR.app _ (UpdR.app _ (UpdR.app _ (UpdR.here _ _ _ hi)))
theorem L4_sub (X : Nat → List Blk) (s : List Blk) : s.Sublist (L4 X s) :=
  (List.sublist_append_right _ _).trans ((List.sublist_append_right _ _).trans ((List.sublist_append_right _ _).trans (List.sublist_append_right _ _)))
section
variable {ops : Array Oper} {Q : Exit → Act → World → Prop} {B : World} {F : List Nat}
theorem rg_perm {R : Option Nat} {P : Program} {o : Oper} {a : Act} {s s' : List Blk} {zz : List Blk × List Blk} (hp : s.Perm s') (h : Rg R P ops Q B F (some zz) [(o, 1)] a s') : Rg R P ops Q B F (some zz) [(o, 1)] a s := by
  rcases h with h | ⟨hn, _⟩
  · exact .inl fun w K => h w (K.perm hp)
  · cases hn
theorem rt_4 {P : Program} {T : Nat} {z0 : Array Value} {c : Nat → List Value} {a1 : Act} {s : List Blk} (hchk : chk4 ops = true) (hsz : 10 ≤ a1.tmps.size)
    (hop : ∀ j, j < 4 → (∃ ty p af, ops[8 + j]? = some ⟨some (6 + j), .alloc T, ty, p, af, none⟩) ∧ ∃ ty p af, ops[12 + j]? = some ⟨none, .store T (.tmp (6 + j)) (.tmp (36 + 2 * j)), ty, p, af, none⟩)
    (halloc : ∀ (ev : Operand → Value) d ty p af (w : World), (execOp ev ⟨d, .alloc T, ty, p, af, none⟩).run P w = .ok (.value (.pointer (some ⟨w.heap.size, 0, none⟩))) (w.alloc (.cells z0 T)))
    (hc : ∀ j, j < 4 → a1.eval (.tmp (36 + 2 * j)) = .agg (c j).toArray) (hlen : ∀ j, j < 4 → (c j).length = z0.size) (hT : (P.info? T).map (·.size) = some z0.size) (h1 : ∀ j, j < 4 → (c j).all (·.oneCell') = true)
    (hset : ∀ j, j < 4 → setMany z0 0 (c j) = (c j).toArray) (hv : put4 a1 (fun j => a1.eval (.tmp (6 + j))) = a1)
    (k : ∀ g0 g1 g2 g3, Ek B F Q .normal (put4 a1 (sel4 (.pointer (some ⟨g0, 0, none⟩)) (.pointer (some ⟨g1, 0, none⟩)) (.pointer (some ⟨g2, 0, none⟩)) (.pointer (some ⟨g3, 0, none⟩)))) ((g0, .cells (c 0).toArray T) :: (g1, .cells (c 1).toArray T) :: (g2, .cells (c 2).toArray T) :: (g3, .cells (c 3).toArray T) :: s)) :
    RT P ops Q B F s 8 (st4 false false false false 0) a1 s := by
  refine rt_inv (fun n listed a s' => ∃ (b : Nat → Bool) (k : Nat) (g : Nat → Nat) (v : Nat → Value), k ≤ 4 ∧ (∀ j, j < k → b j = true) ∧ listed = st4 (b 0) (b 1) (b 2) (b 3) k ∧ n = cnt4 b + (4 - k) ∧ a = put4 a1 v ∧ (∀ j, j < 4 → b j = true → v j = .pointer (some ⟨g j, 0, none⟩)) ∧ s'.Perm (L4 (X4 T z0 c g b k) s)) ?_ ?_ 8 _ a1 s
    ⟨fun _ => false, 0, fun _ => 0, fun j => a1.eval (.tmp (6 + j)), by omega, fun j hj => by omega, rfl, rfl, hv.symm, (fun j _ h => nomatch h), List.Perm.refl _⟩
  · rintro n listed a s' ⟨b, k0, g, v, hk, hb, rfl, hn, rfl, hg, hp⟩
    have hall : (([b 0, b 1, b 2, b 3].take k0).all id) = true := by
      have : k0 = 0 ∨ k0 = 1 ∨ k0 = 2 ∨ k0 = 3 ∨ k0 = 4 := by omega
      rcases this with rfl | rfl | rfl | rfl | rfl <;> simp_all
    have hok := chk4_at hchk (b 0) (b 1) (b 2) (b 3) hk hall
    unfold ok4 at hok
    simp only [Bool.and_eq_true] at hok
    obtain ⟨hempty, hready⟩ := hok
    refine ⟨fun he => ?_, fun i hi => ?_⟩
    · rw [he] at hempty
      have : (b 0 && b 1 && b 2 && b 3 && k0 == 4) = true := by simpa using hempty
      simp only [Bool.and_eq_true, beq_iff_eq] at this
      unfold cnt4 at hn
      rw [if_pos this.1.1.1.1, if_pos this.1.1.1.2, if_pos this.1.1.2, if_pos this.1.2] at hn
      omega
    · have hi' := List.all_eq_true.1 hready i hi
      simp only [Bool.or_eq_true, Bool.and_eq_true, decide_eq_true_eq, Bool.not_eq_true'] at hi'
      rcases hi' with ⟨⟨h8, h12⟩, hbj⟩ | ⟨⟨rfl, hk4⟩, hbk⟩
      · obtain ⟨j, rfl⟩ : ∃ j, i = 8 + j := ⟨i - 8, by omega⟩
        have hj : j < 4 := by omega
        have hbj' : b j = false := by
          rw [show 8 + j - 8 = j by omega] at hbj
          rcases lt4 hj with rfl | rfl | rfl | rfl <;> simpa using hbj
        obtain ⟨⟨ty, p, af, ho⟩, _⟩ := hop j hj
        refine ⟨_, ho, rg_perm hp (rg_new (cs := z0) (ty := T) Rx (fun w => halloc _ _ _ _ _ w) (fun _ h => by cases h; exact (L4_sub _ _).trans (List.Sublist.refl _)) fun g' => ?_)⟩
        intro w K
        have hkj : k0 ≤ j := Nat.le_of_not_lt fun h => by have := hb j h; rw [hbj'] at this; cases this
        have hX0 : X4 T z0 c g b k0 j = [] := by unfold X4; rw [if_neg (by rw [hbj']; decide)]
        have hX1 : X4 T z0 c (upd g j g') (upd b j true) k0 j = [(g', .cells z0 T)] := by
          unfold X4
          rw [upd_same, upd_same, if_pos rfl, if_neg Ox]
        have hXo : ∀ i, i < 4 → i ≠ j → X4 T z0 c (upd g j g') (upd b j true) k0 i = X4 T z0 c g b k0 i := fun i _ hne => by
          unfold X4
          rw [upd_other b true hne, upd_other g g' hne]
        refine ⟨_, K.perm (L4_add hj hX0 hX1 hXo), L4_sub _ _, upd b j true, k0, upd g j g', upd v j (.pointer (some ⟨g', 0, none⟩)), hk, fun i hi => ?_, ?_, ?_, put4_put a1 v _ hj, fun i hi hbi => ?_, List.Perm.refl _⟩
        · by_cases e : i = j
          · omega
          · rw [upd_other b true e]; exact hb i hi
        · rcases lt4 hj with rfl | rfl | rfl | rfl <;> rfl
        · unfold cnt4 at hn ⊢
          rcases lt4 hj with rfl | rfl | rfl | rfl <;> simp [upd, hbj'] at hn ⊢ <;> omega
        · by_cases e : i = j
          · subst e; rw [upd_same, upd_same]
          · rw [upd_other v _ e, upd_other g _ e]; rw [upd_other b true e] at hbi; exact hg i hi hbi
      · have hbk' : b k0 = true := by rcases lt4 hk4 with rfl | rfl | rfl | rfl <;> simpa using hbk
        obtain ⟨_, ty, p, af, ho⟩ := hop k0 hk4
        have hX0 : X4 T z0 c g b k0 k0 = [(g k0, .cells z0 T)] := by unfold X4; rw [if_pos hbk', if_neg Ox]
        have hX1 : X4 T z0 c g b (k0 + 1) k0 = [(g k0, .cells (setMany z0 0 (c k0)) T)] := by unfold X4; rw [if_pos hbk', if_pos Ox, hset k0 hk4]
        have hXo : ∀ i, i < 4 → i ≠ k0 → X4 T z0 c g b (k0 + 1) i = X4 T z0 c g b k0 i := fun i _ hne => by
          have e : (i < k0 + 1) ↔ i < k0 := by omega
          unfold X4
          simp only [e]
        refine ⟨_, ho, rg_perm hp (rf_storeR (n := z0.size) (vs := c k0) ((put4_t a1 v hsz hk4).trans (hg k0 hk4 hbk')) ((put4_r a1 v Ox).trans (hc k0 hk4)) hT (hlen k0 hk4) (h1 k0 hk4) (L4_upd hk4 (by rw [hlen k0 hk4]; omega) hX0 hX1 hXo) (fun _ h => by cases h; exact L4_sub _ _) ?_)⟩
        intro w K
        refine ⟨_, K, L4_sub _ _, b, k0 + 1, g, v, by omega, fun i hi => ?_, ?_, ?_, rfl, hg, List.Perm.refl _⟩
        · rcases (by omega : i < k0 ∨ i = k0) with h | rfl
          · exact hb i h
          · exact hbk'
        · rcases lt4 hk4 with rfl | rfl | rfl | rfl <;> rfl
        · omega
  · rintro listed a s' ⟨b, k0, g, v, hk, hb, rfl, hn, rfl, hg, hp⟩
    have hk4 : k0 = 4 := by omega
    subst hk4
    have hc0 : cnt4 b = 0 := by omega
    have hok := chk4_at hchk (b 0) (b 1) (b 2) (b 3) hk (by simp [hb 0, hb 1, hb 2, hb 3])
    unfold ok4 at hok
    simp only [Bool.and_eq_true] at hok
    have e0 := hb 0 (by decide); have e1 := hb 1 (by decide); have e2 := hb 2 (by decide); have e3 := hb 3 (by decide)
    refine ⟨?_, ek_perm hp ?_⟩
    · have := hok.1
      rw [e0, e1, e2, e3] at this ⊢
      simpa using this
    · have hX : L4 (X4 T z0 c g b 4) s = (g 0, .cells (c 0).toArray T) :: (g 1, .cells (c 1).toArray T) :: (g 2, .cells (c 2).toArray T) :: (g 3, .cells (c 3).toArray T) :: s := by
        unfold L4 X4
        rw [e0, e1, e2, e3]
        rfl
      rw [hX]
      have hp4 : put4 a1 v = put4 a1 (sel4 (.pointer (some ⟨g 0, 0, none⟩)) (.pointer (some ⟨g 1, 0, none⟩)) (.pointer (some ⟨g 2, 0, none⟩)) (.pointer (some ⟨g 3, 0, none⟩))) := by
        unfold put4
        rw [hg 0 (by decide) e0, hg 1 (by decide) e1, hg 2 (by decide) e2, hg 3 (by decide) e3]
        rfl
      rw [hp4]
      exact k (g 0) (g 1) (g 2) (g 3)
end
end Go.Proofs.Ytjeijnjaleldkaa
namespace Go.Proofs.Ytjeijnjaleldkaa
set_option linter.all false
open Go.RowKit

theorem sm_ovr {T T' : Nat → Int} : setMany (smC T) 0 (smC T').toList = smC T' := by kernel_rfl
theorem co4_step (y : Nm) : co4 y.step = sel4 ((y.b + -y.d) / 2) ((y.a + y.c) / 2) ((y.b + y.d) / 2) ((y.c + -y.a) / 2) := by
  unfold co4 Nm.step
  dsimp only
  rw [Int.sub_eq_add_neg, Int.sub_eq_add_neg]
set_option maxRecDepth 100000 in
set_option maxHeartbeats 2000000 in
theorem reduced_sm (z : Nm) (hz : z.Fit 2462625387274654950767440006258975862817483704404090416746768337765357610718575663213391640930307227550414249394176) (hk : 0 ≤ z.k) (hk1 : z.k ≤ 100000) (w : World) : Calls Try.prog 116 #[.agg (smC (co4 z)), .int .i64 z.k] w fun e w' => e = .returned (.tuple #[nmV (wnum z).1, .bool (wnum z).2]) ∧ Below w.heap.size w w' := by
  have hB : In384 0 := by unfold In384; omega
  go_enter Try.func116, Try.ntmps116
  refine wk_start ?_
  refine wk_seq ?_
  refine wk_region [1, 1, 0] rfl Kx ?_
  simp only [qy]
  refine Rgn fun g1 => ?_
  simp only [qz]
  refine Rgn fun g2 => ?_
  simp only [qz]
  refine rg_assign ?_
  simp only [qz]
  refine rg_nil (ek_next ?_)
  refine wk_cutF [1, 6, 7, 8, 9, 15, 16, 17, 18, 19, 20, 21, 22, 23, 24, 25, 26, 27, 28, 29, 30, 31, 32, 33, 34, 35, 36, 37, 38, 39, 40, 41, 42, 43, 44, 45, 46, 47, 48, 49, 50, 51, 52, 53, 54, 55, 56, 57, 58, 59, 60, 61, 62, 63] (fun f s => ∃ (y : Nm), f 1 = .int .i64 y.k ∧ s = ((g2, .cells #[.int .i64 0, .int .i64 0, .int .i64 0, .int .i64 0, .int .i64 0] 29) :: ((g1, .cells (smC (co4 y)) 107) :: [])) ∧ Hid (z.nf = y) ∧ y.Fit 2462625387274654950767440006258975862817483704404090416746768337765357610718575663213391640930307227550414249394176 ∧ 0 ≤ y.k ∧ y.k ≤ 100000) ?_ ?_
  · refine wk_block ?_
    refine wk_loopF [1, 6, 7, 8, 9, 15, 16, 17, 18, 19, 20, 21, 22, 23, 24, 25, 26, 27, 28, 29, 30, 31, 32, 33, 34, 35, 36, 37, 38, 39, 40, 41, 42, 43, 44, 45, 46, 47, 48, 49, 50, 51, 52, 53, 54, 55, 56, 57, 58, 59, 60, 61, 62, 63] (fun mz f s => ∃ (y : Nm), f 1 = .int .i64 y.k ∧ s = ((g2, .cells #[.int .i64 0, .int .i64 0, .int .i64 0, .int .i64 0, .int .i64 0] 29) :: ((g1, .cells (smC (co4 y)) 107) :: [])) ∧ mz = y.k.toNat ∧ Hid (y.nf = z.nf) ∧ y.Fit 2462625387274654950767440006258975862817483704404090416746768337765357610718575663213391640930307227550414249394176 ∧ 0 ≤ y.k ∧ y.k ≤ 100000) ((fun (y : Nm) => y.k.toNat) (z)) ?_ Kx ?_
    · exact ⟨z, rfl, rfl, rfl, (Lib.hid rfl), hz, hk, hk1⟩
    rintro mz f1 s ⟨y, hs1_1, rfl, hn, hd1, hd2, hd3, hd4⟩
    simp only [Act.putF, List.foldl_cons, List.foldl_nil, hs1_1, Act.put, Act.eval, q1, q2, q3, q4, q5, q6, q7, q8, q9, q10, q11, q12, q13, q14, q15, q16, q17, q18, Nat.reduceAdd, Bool.not_true, Bool.not_false]
    clear hs1_1
    have hfa := hd2.a0; have hfa1 := hd2.a1; have hfb := hd2.b0; have hfb1 := hd2.b1; have hfc := hd2.c0; have hfc1 := hd2.c1; have hfd := hd2.d0; have hfd1 := hd2.d1
    refine wk_seq (wk_seq ?_)
    refine wk_draws _ _ [(0, 0), (1, 0), (2, 0), (3, 0), (4, 0), (6, 0), (7, 0), (5, 1), (8, 1), (9, 0), (10, 0), (11, 0), (12, 0), (13, 0), (15, 0), (16, 0), (14, 1), (17, 1), (18, 0), (19, 0)] [] Kx Kx (fun c d v a w h => by cases d <;> exact h) ((sc _ (sc _ sn))) (fun e => by first | exact absurd e (by decide) | rfl) ?_
    simp only [List.map_cons, List.map_nil, List.getD_cons_zero, List.getD_cons_succ]
    refine rg_move ?_
    simp only [qz]
    refine rfb_gtr rfl rfl rfl rfl ?_
    intro x h1
    cases x
    · (try simp only [qd, ne_eq] at h1)
      simp only [qz]
      refine rg_move ?_
      simp only [qz]
      refine rg_skip Rx ?_
      simp only [qz]
      refine rg_skip Rx ?_
      simp only [qz]
      refine rg_skip Rx ?_
      simp only [qz]
      refine rg_skip Rx ?_
      simp only [qz]
      refine rg_skip_h Rx (fun _ h => by cases h; exact (sc _ (sc _ sn))) ?_
      simp only [qz]
      refine rg_skip_h Rx (fun _ h => by cases h; exact (sc _ (sc _ sn))) ?_
      simp only [qz]
      refine rg_skip Rx ?_
      simp only [qz]
      refine rf_pick rfl rfl rfl ?_
      simp only [qz]
      refine rg_move ?_
      simp only [qz]
      refine rg_skip Rx ?_
      simp only [qz]
      refine rg_skip Rx ?_
      simp only [qz]
      refine rg_skip Rx ?_
      simp only [qz]
      refine rg_skip Rx ?_
      simp only [qz]
      refine rg_skip_h Rx (fun _ h => by cases h; exact (sc _ (sc _ sn))) ?_
      simp only [qz]
      refine rg_skip_h Rx (fun _ h => by cases h; exact (sc _ (sc _ sn))) ?_
      simp only [qz]
      refine rg_skip Rx ?_
      simp only [qz]
      refine rf_pick rfl rfl rfl ?_
      simp only [qz]
      refine rg_nil (ek_next (wk_cond_f rfl (wk_exit (ek_then_exit (ek_then_exit (ek_block_exit ?_))))))
      refine ek_midF Kx ?_
      exact ⟨y, rfl, by rfl, (Lib.hid (by rw [← hd1.out]; exact nf_stop (by rintro ⟨h1, h2, h3⟩; omega))), hd2, hd3, hd4⟩
    (try simp only [qd, ne_eq] at h1)
    simp only [qz]
    refine rg_move ?_
    simp only [qz]
    refine rf_indexA (n := 0) (sz := 6) (j := 0) rfl rfl rfl rfl Try.underlying107 Kx (by decide) rfl ?_
    simp only [qz]
    refine rf_loadC (n := 6) (vs := w6L (W6.of ((co4 y) 0))) rfl rfl rfl Try.underlying105 rfl Kx rfl (fun w hw => sm_row (Kn.hd0 (Kn.tl hw)) Ox) ?_
    simp only [qz]
    refine rf_indexA (n := 2) (sz := 6) (j := 12) rfl rfl rfl rfl Try.underlying107 Kx (by decide) rfl ?_
    simp only [qz]
    refine rf_loadC (n := 6) (vs := w6L (W6.of ((co4 y) 2))) rfl rfl rfl Try.underlying105 rfl Kx rfl (fun w hw => sm_row (Kn.hd0 (Kn.tl hw)) Ox) ?_
    simp only [qz]
    apply rg_pure Rx Kx
    case hargs => exact Ax
    case h => exact fun w hw => w6odd_any y.a w
    case hz => exact (fun _ h => by cases h; exact (sc _ (sc _ sn)))
    simp only [qz]
    apply rg_pure Rx Kx
    case hargs => exact Ax
    case h => exact fun w hw => w6odd_any y.c w
    case hz => exact (fun _ h => by cases h; exact (sc _ (sc _ sn)))
    simp only [qz]
    refine rfb_odd y.a y.c Try.underlying4 rfl rfl rfl rfl ?_
    intro x h2
    cases x
    · (try simp only [qd, ne_eq] at h2)
      simp only [qz]
      refine rf_pick rfl rfl rfl ?_
      simp only [qz]
      refine rg_move ?_
      simp only [qz]
      refine rg_skip Rx ?_
      simp only [qz]
      refine rg_skip Rx ?_
      simp only [qz]
      refine rg_skip Rx ?_
      simp only [qz]
      refine rg_skip Rx ?_
      simp only [qz]
      refine rg_skip_h Rx (fun _ h => by cases h; exact (sc _ (sc _ sn))) ?_
      simp only [qz]
      refine rg_skip_h Rx (fun _ h => by cases h; exact (sc _ (sc _ sn))) ?_
      simp only [qz]
      refine rg_skip Rx ?_
      simp only [qz]
      refine rf_pick rfl rfl rfl ?_
      simp only [qz]
      refine rg_nil (ek_next (wk_cond_f rfl (wk_exit (ek_then_exit (ek_then_exit (ek_block_exit ?_))))))
      refine ek_midF Kx ?_
      exact ⟨y, rfl, by rfl, (Lib.hid (by rw [← hd1.out]; exact nf_stop (by rintro ⟨h1, h2, h3⟩; omega))), hd2, hd3, hd4⟩
    (try simp only [qd, ne_eq] at h2)
    simp only [qz]
    refine rf_pick rfl rfl rfl ?_
    simp only [qz]
    refine rg_move ?_
    simp only [qz]
    refine rf_indexA (n := 1) (sz := 6) (j := 6) rfl rfl rfl rfl Try.underlying107 Kx (by decide) rfl ?_
    simp only [qz]
    refine rf_loadC (n := 6) (vs := w6L (W6.of ((co4 y) 1))) rfl rfl rfl Try.underlying105 rfl Kx rfl (fun w hw => sm_row (Kn.hd0 (Kn.tl hw)) Ox) ?_
    simp only [qz]
    refine rf_indexA (n := 3) (sz := 6) (j := 18) rfl rfl rfl rfl Try.underlying107 Kx (by decide) rfl ?_
    simp only [qz]
    refine rf_loadC (n := 6) (vs := w6L (W6.of ((co4 y) 3))) rfl rfl rfl Try.underlying105 rfl Kx rfl (fun w hw => sm_row (Kn.hd0 (Kn.tl hw)) Ox) ?_
    simp only [qz]
    apply rg_pure Rx Kx
    case hargs => exact Ax
    case h => exact fun w hw => w6odd_any y.b w
    case hz => exact (fun _ h => by cases h; exact (sc _ (sc _ sn)))
    simp only [qz]
    apply rg_pure Rx Kx
    case hargs => exact Ax
    case h => exact fun w hw => w6odd_any y.d w
    case hz => exact (fun _ h => by cases h; exact (sc _ (sc _ sn)))
    simp only [qz]
    refine rfb_odd y.b y.d Try.underlying4 rfl rfl rfl rfl ?_
    intro x h3
    cases x
    · (try simp only [qd, ne_eq] at h3)
      simp only [qz]
      refine rf_pick rfl rfl rfl ?_
      simp only [qz]
      refine rg_nil (ek_next (wk_cond_f rfl (wk_exit (ek_then_exit (ek_then_exit (ek_block_exit ?_))))))
      refine ek_midF Kx ?_
      exact ⟨y, rfl, by rfl, (Lib.hid (by rw [← hd1.out]; exact nf_stop (by rintro ⟨h1, h2, h3⟩; omega))), hd2, hd3, hd4⟩
    (try simp only [qd, ne_eq] at h3)
    simp only [qz]
    refine rf_pick rfl rfl rfl ?_
    simp only [qz]
    refine rg_nil (ek_next (wk_cond_t rfl (wk_skip (ek_next (wk_block (wk_seq ?_))))))
    refine wk_rt _ Kx (sc _ (sc _ sn)) ?_
    refine rt_soft (i := 0) rfl Kx (fun c d v a w h => by cases d <;> exact h) (sc _ (sc _ sn)) ?_
    refine rf_indexA (n := 0) (sz := 6) (j := 0) rfl rfl rfl rfl Try.underlying107 Kx (by decide) rfl ?_
    simp only [qz]
    refine rg_nil ?_
    refine ek_rt (sc _ (sc _ sn)) ?_
    refine rt_soft (i := 1) rfl Kx (fun c d v a w h => by cases d <;> exact h) (sc _ (sc _ sn)) ?_
    refine rf_loadC (n := 6) (vs := w6L (W6.of ((co4 y) 0))) rfl rfl rfl Try.underlying105 rfl Kx rfl (fun w hw => sm_row (Kn.hd0 (Kn.tl hw)) Ox) ?_
    simp only [qz]
    refine rg_nil ?_
    refine ek_rt (sc _ (sc _ sn)) ?_
    refine rt_soft (i := 2) rfl Kx (fun c d v a w h => by cases d <;> exact h) (sc _ (sc _ sn)) ?_
    refine rf_indexA (n := 1) (sz := 6) (j := 6) rfl rfl rfl rfl Try.underlying107 Kx (by decide) rfl ?_
    simp only [qz]
    refine rg_nil ?_
    refine ek_rt (sc _ (sc _ sn)) ?_
    refine rt_soft (i := 3) rfl Kx (fun c d v a w h => by cases d <;> exact h) (sc _ (sc _ sn)) ?_
    refine rf_loadC (n := 6) (vs := w6L (W6.of ((co4 y) 1))) rfl rfl rfl Try.underlying105 rfl Kx rfl (fun w hw => sm_row (Kn.hd0 (Kn.tl hw)) Ox) ?_
    simp only [qz]
    refine rg_nil ?_
    refine ek_rt (sc _ (sc _ sn)) ?_
    refine rt_soft (i := 4) rfl Kx (fun c d v a w h => by cases d <;> exact h) (sc _ (sc _ sn)) ?_
    refine rf_indexA (n := 2) (sz := 6) (j := 12) rfl rfl rfl rfl Try.underlying107 Kx (by decide) rfl ?_
    simp only [qz]
    refine rg_nil ?_
    refine ek_rt (sc _ (sc _ sn)) ?_
    refine rt_soft (i := 5) rfl Kx (fun c d v a w h => by cases d <;> exact h) (sc _ (sc _ sn)) ?_
    refine rf_loadC (n := 6) (vs := w6L (W6.of ((co4 y) 2))) rfl rfl rfl Try.underlying105 rfl Kx rfl (fun w hw => sm_row (Kn.hd0 (Kn.tl hw)) Ox) ?_
    simp only [qz]
    refine rg_nil ?_
    refine ek_rt (sc _ (sc _ sn)) ?_
    refine rt_soft (i := 6) rfl Kx (fun c d v a w h => by cases d <;> exact h) (sc _ (sc _ sn)) ?_
    refine rf_indexA (n := 3) (sz := 6) (j := 18) rfl rfl rfl rfl Try.underlying107 Kx (by decide) rfl ?_
    simp only [qz]
    refine rg_nil ?_
    refine ek_rt (sc _ (sc _ sn)) ?_
    refine rt_soft (i := 7) rfl Kx (fun c d v a w h => by cases d <;> exact h) (sc _ (sc _ sn)) ?_
    refine rf_loadC (n := 6) (vs := w6L (W6.of ((co4 y) 3))) rfl rfl rfl Try.underlying105 rfl Kx rfl (fun w hw => sm_row (Kn.hd0 (Kn.tl hw)) Ox) ?_
    simp only [qz]
    refine rg_nil ?_
    refine ek_rt (sc _ (sc _ sn)) ?_
    refine rt_4 (T := 105) (z0 := #[.int .u64 0, .int .u64 0, .int .u64 0, .int .u64 0, .int .u64 0, .int .u64 0]) (c := sel4 (w6L (W6.of y.a)) (w6L (W6.of y.b)) (w6L (W6.of y.c)) (w6L (W6.of y.d))) Kx (by simp) (fun j hj => by rcases lt4 hj with rfl | rfl | rfl | rfl <;> exact ⟨⟨_, _, _, rfl⟩, ⟨_, _, _, rfl⟩⟩) (fun ev d ty p af w => by first | (go_simp; done) | (go_simp; rfl)) (fun j hj => by rcases lt4 hj with rfl | rfl | rfl | rfl <;> rfl) (fun j hj => by rcases lt4 hj with rfl | rfl | rfl | rfl <;> rfl) Kx (fun j hj => by rcases lt4 hj with rfl | rfl | rfl | rfl <;> rfl) (fun j hj => by rcases lt4 hj with rfl | rfl | rfl | rfl <;> kernel_rfl) rfl (fun ga gb gc gd => ?_)
    simp only [put4, sel4]
    simp only [qz, Nat.reduceAdd]
    refine ek_next (wk_seq ?_)
    have hev : y.even := ⟨by omega, by omega⟩
    refine wk_draws_m (hz1 := (sc _ (sc _ (sc _ (sc _ (sc _ (sk _ sn))))))) [(0, 0), (1, 0), (5, 0), (6, 0), (9, 0), (10, 0), (13, 0), (14, 0), (2, 1), (3, 1), (4, 1), (7, 1), (8, 1), (11, 1), (12, 1), (15, 1), (16, 1), (17, 1), (18, 0), (19, 2)] 19 Kx Kx (fun c d v a w h => by cases d <;> exact h) ?_
    simp only [List.map_cons, List.map_nil, List.getD_cons_zero, List.getD_cons_succ]
    refine rf_loadC (n := 6) (vs := w6L (W6.of y.b)) rfl rfl rfl Try.underlying105 rfl Kx rfl (fun w hw => cells_range (Kn.hd0 (Kn.tl hw)) 0 6) ?_
    simp only [qz]
    refine rf_loadC (n := 6) (vs := w6L (W6.of y.d)) rfl rfl rfl Try.underlying105 rfl Kx rfl (fun w hw => cells_range (Kn.hd0 (Kn.tl (Kn.tl (Kn.tl hw)))) 0 6) ?_
    simp only [qz]
    refine rf_loadC (n := 6) (vs := w6L (W6.of y.a)) rfl rfl rfl Try.underlying105 rfl Kx rfl (fun w hw => cells_range (Kn.hd0 hw) 0 6) ?_
    simp only [qz]
    refine rf_loadC (n := 6) (vs := w6L (W6.of y.c)) rfl rfl rfl Try.underlying105 rfl Kx rfl (fun w hw => cells_range (Kn.hd0 (Kn.tl (Kn.tl hw))) 0 6) ?_
    simp only [qz]
    refine rf_loadC (n := 6) (vs := w6L (W6.of y.b)) rfl rfl rfl Try.underlying105 rfl Kx rfl (fun w hw => cells_range (Kn.hd0 (Kn.tl hw)) 0 6) ?_
    simp only [qz]
    refine rf_loadC (n := 6) (vs := w6L (W6.of y.d)) rfl rfl rfl Try.underlying105 rfl Kx rfl (fun w hw => cells_range (Kn.hd0 (Kn.tl (Kn.tl (Kn.tl hw)))) 0 6) ?_
    simp only [qz]
    refine rf_loadC (n := 6) (vs := w6L (W6.of y.c)) rfl rfl rfl Try.underlying105 rfl Kx rfl (fun w hw => cells_range (Kn.hd0 (Kn.tl (Kn.tl hw))) 0 6) ?_
    simp only [qz]
    refine rf_loadC (n := 6) (vs := w6L (W6.of y.a)) rfl rfl rfl Try.underlying105 rfl Kx rfl (fun w hw => cells_range (Kn.hd0 hw) 0 6) ?_
    simp only [qz]
    apply rg_pure Rx Kx
    case hargs => exact Ax
    case h => exact fun w hw => w6neg_any (y.d) w
    case hz => exact (fun _ h => by cases h; exact (sc _ (sc _ (sc _ (sc _ (sc _ (sc _ sn)))))))
    simp only [qz]
    apply rg_pure Rx Kx
    case hargs => exact Ax
    case h => exact fun w hw => w6add_any (y.b) (-y.d) w
    case hz => exact (fun _ h => by cases h; exact (sc _ (sc _ (sc _ (sc _ (sc _ (sc _ sn)))))))
    simp only [qz]
    apply rg_pure Rx Kx
    case hargs => exact Ax
    case h => exact fun w hw => w6half_any (y.b + -y.d) (by unfold In384; omega) (by obtain ⟨e1, e2⟩ := hev; omega) w
    case hz => exact (fun _ h => by cases h; exact (sc _ (sc _ (sc _ (sc _ (sc _ (sc _ sn)))))))
    simp only [qz]
    apply rg_pure Rx Kx
    case hargs => exact Ax
    case h => exact fun w hw => w6add_any (y.a) (y.c) w
    case hz => exact (fun _ h => by cases h; exact (sc _ (sc _ (sc _ (sc _ (sc _ (sc _ sn)))))))
    simp only [qz]
    apply rg_pure Rx Kx
    case hargs => exact Ax
    case h => exact fun w hw => w6half_any (y.a + y.c) (by unfold In384; omega) (by obtain ⟨e1, e2⟩ := hev; omega) w
    case hz => exact (fun _ h => by cases h; exact (sc _ (sc _ (sc _ (sc _ (sc _ (sc _ sn)))))))
    simp only [qz]
    apply rg_pure Rx Kx
    case hargs => exact Ax
    case h => exact fun w hw => w6add_any (y.b) (y.d) w
    case hz => exact (fun _ h => by cases h; exact (sc _ (sc _ (sc _ (sc _ (sc _ (sc _ sn)))))))
    simp only [qz]
    apply rg_pure Rx Kx
    case hargs => exact Ax
    case h => exact fun w hw => w6half_any (y.b + y.d) (by unfold In384; omega) (by obtain ⟨e1, e2⟩ := hev; omega) w
    case hz => exact (fun _ h => by cases h; exact (sc _ (sc _ (sc _ (sc _ (sc _ (sc _ sn)))))))
    simp only [qz]
    apply rg_pure Rx Kx
    case hargs => exact Ax
    case h => exact fun w hw => w6neg_any (y.a) w
    case hz => exact (fun _ h => by cases h; exact (sc _ (sc _ (sc _ (sc _ (sc _ (sc _ sn)))))))
    simp only [qz]
    apply rg_pure Rx Kx
    case hargs => exact Ax
    case h => exact fun w hw => w6add_any (y.c) (-y.a) w
    case hz => exact (fun _ h => by cases h; exact (sc _ (sc _ (sc _ (sc _ (sc _ (sc _ sn)))))))
    simp only [qz]
    apply rg_pure Rx Kx
    case hargs => exact Ax
    case h => exact fun w hw => w6half_any (y.c + -y.a) (by unfold In384; omega) (by obtain ⟨e1, e2⟩ := hev; omega) w
    case hz => exact (fun _ h => by cases h; exact (sc _ (sc _ (sc _ (sc _ (sc _ (sc _ sn)))))))
    simp only [qz]
    refine rf_build (cs := fun _ => smC (sel4 ((y.b + -y.d) / 2) ((y.a + y.c) / 2) ((y.b + y.d) / 2) ((y.c + -y.a) / 2))) rfl rfl Kx ?_
    simp only [qz]
    refine rf_storeRM (n := 24) (vs := (smC (sel4 ((y.b + -y.d) / 2) ((y.a + y.c) / 2) ((y.b + y.d) / 2) ((y.c + -y.a) / 2))).toList) rfl rfl Kx rfl rfl (UpdR.there _ (UpdR.there _ (UpdR.there _ (UpdR.there _ (UpdR.there _ (UpdR.here _ _ _ Nl)))))) (sc _ (sc _ (sc _ (sc _ (sc _ (sk _ sn)))))) ?_
    simp only [qz, Nat.reduceAdd]
    refine rg_nil (ek_next ?_)
    refine wk_region [0, 0, 0] rfl Kx ?_
    simp only [qy]
    refine rg_move ?_
    simp only [qz]
    refine rf_sub rfl rfl rfl rfl (wrap_ok Ox Ox) ?_
    simp only [qz]
    refine rg_assign ?_
    simp only [qz]
    refine rg_nil (ek_block ?_)
    refine ek_sub (sk _ (sk _ (sk _ (sk _ (sc _ (sc _ sn)))))) ?_
    refine ek_roundF ((y.k - 1).toNat) Ox Kx ?_
    exact ⟨y.step, rfl, (by rw [sm_ovr, ← co4_step]), by rfl, (Lib.hid (by rw [← nf_step Ox hev, hd1.out])), (Nm.step_fit hd2), (by simp only [Nm.step]; omega), (by simp only [Nm.step]; omega)⟩
  rintro f1 s ⟨y, hs1_1, rfl, hm1, hm2, hm3, hm4⟩
  simp only [Act.putF, List.foldl_cons, List.foldl_nil, hs1_1, Act.put, Act.eval, q1, q2, q3, q4, q5, q6, q7, q8, q9, q10, q11, q12, q13, q14, q15, q16, q17, q18, Nat.reduceAdd, Bool.not_true, Bool.not_false]
  clear hs1_1
  have hfa := hm2.a0; have hfa1 := hm2.a1; have hfb := hm2.b0; have hfb1 := hm2.b1; have hfc := hm2.c0; have hfc1 := hm2.c1; have hfd := hm2.d0; have hfd1 := hm2.d1
  refine wk_seq ?_
  refine wk_region [0, 0, 1, 1] rfl Kx ?_
  simp only [qy]
  refine rg_move ?_
  simp only [qz]
  refine rf_build (cs := fun a => #[.int .i64 0, .int .i64 0, .int .i64 0, .int .i64 0, a.eval (.tmp 64)]) rfl rfl Kx ?_
  simp only [qz]
  refine Rgn fun g3 => ?_
  simp only [qz]
  refine rf_storeR (n := 5) rfl rfl Kx rfl rfl (UpdR.here _ _ _ Nl) Nz ?_
  simp only [qz, Nat.reduceAdd]
  refine rg_nil (ek_next (wk_seq (wk_seq ?_)))
  refine wk_region [0, 0] rfl Kx ?_
  simp only [qy]
  refine rf_loadC (n := 24) (vs := (smC (co4 y)).toList) rfl rfl rfl Try.underlying107 rfl Kx rfl (fun w hw => sm_all (Kn.hd0 (Kn.tl (Kn.tl hw)))) ?_
  rw [show (smC (co4 y)).toList.toArray = smC (co4 y) by simp]
  simp only [qz]
  refine rg_move ?_
  simp only [qz]
  refine rg_nil (ek_next (wk_block ?_))
  refine wk_unroll 4 ?_
  refine wk_seq ?_
  refine wk_region [0] rfl Kx ?_
  simp only [qy]
  refine rf_lss (b := true) rfl rfl rfl rfl (by decide) ?_
  simp only [qz]
  refine rg_nil (ek_next (wk_seq (wk_cond_t rfl (wk_skip (ek_next (wk_seq (wk_block (wk_seq ?_))))))))
  refine wk_region [0, 0, 1, 0, 1] rfl Kx ?_
  simp only [qy]
  refine rg_move ?_
  simp only [qz]
  refine rf_idxR (n := 0) (sz := 6) rfl rfl rfl rfl Try.underlying107 Try.underlying105 rfl Kx (by decide) (sm_idx (by decide)) ?_
  simp only [qz]
  refine Rgn fun g4 => ?_
  simp only [qz]
  refine rg_assign ?_
  simp only [qz]
  refine rf_storeR (n := 6) rfl rfl Kx rfl rfl (UpdR.here _ _ _ Nl) Nz ?_
  simp only [qz, Nat.reduceAdd]
  refine rg_nil (ek_next (wk_seq ?_))
  refine wk_region [0, 1, 0, 0, 0, 0, 0] rfl Kx ?_
  simp only [qy]
  refine rf_loadR (n := 6) rfl rfl rfl Try.underlying105 rfl Kx (fun w hw => Kn.hd0 hw) rfl rfl ?_
  simp only [qz]
  apply rg_or (X := fun v => ∃ n, v = .tuple #[.int .i64 n, .bool (smB y.a)] ∧ (smB y.a = true → n = y.a)) Rx Kx
  case hargs => exact Ax
  case h => exact fun w hw => (w6small_any y.a (by unfold In384; omega) w).mono (fun e w' ⟨n, he, hn, hb⟩ => ⟨_, he, ⟨n, rfl, hn⟩, hb⟩)
  case hz => exact Nz
  rintro _ ⟨n, rfl, hn⟩
  rcases hsa : smB y.a with _ | _
  · clear hn
    simp only [qz]
    refine rg_move ?_
    simp only [qz]
    refine rf_extract rfl rfl rfl rfl ?_
    simp only [qz]
    refine rf_extract rfl rfl rfl rfl ?_
    simp only [qz]
    refine rg_assign ?_
    simp only [qz]
    refine rg_assign ?_
    simp only [qz]
    refine rg_nil (ek_next (wk_seq (wk_seq ?_)))
    refine wk_region [0, 0] rfl Kx ?_
    simp only [qy]
    refine rg_move ?_
    simp only [qz]
    refine rf_not rfl rfl rfl ?_
    simp only [qz]
    refine rg_nil (ek_next (wk_cond_t rfl (wk_seq ?_)))
    refine wk_region [0, 1, 0] rfl Kx ?_
    simp only [qy]
    refine rf_build (cs := fun a => #[.int .i64 0, .int .i64 0, .int .i64 0, .int .i64 0, .int .i64 0]) rfl rfl Kx ?_
    simp only [qz]
    refine rf_storeR (n := 5) rfl rfl Kx rfl rfl (UpdR.there _ (UpdR.there _ (UpdR.here _ _ _ Nl))) Nz ?_
    simp only [qz, Nat.reduceAdd]
    refine rg_assign ?_
    simp only [qz]
    refine rg_nil (ek_next (wk_ret (ek_then_ret (ek_block_ret (ek_then_ret (ek_then_ret (ek_block_ret (ek_then_ret ?_))))))))
    refine ek_ret (fun w hw => ⟨rfl, _, run_results2 rfl rfl (Kn.hd0 (Kn.tl (Kn.tl hw))) Try.underlying29 rfl Kx, ?_⟩)
    (try simp only [qz])
    exact ⟨by unfold wnum; rw [hm1.out, if_neg (by unfold numOk; simp [hsa])]; rfl, hw.below⟩
  rw [hsa] at hn
  obtain rfl := hn rfl
  simp only [qz]
  refine rg_move ?_
  simp only [qz]
  refine rf_extract rfl rfl rfl rfl ?_
  simp only [qz]
  refine rf_extract rfl rfl rfl rfl ?_
  simp only [qz]
  refine rg_assign ?_
  simp only [qz]
  refine rg_assign ?_
  simp only [qz]
  refine rg_nil (ek_next (wk_seq (wk_seq ?_)))
  refine wk_region [0, 0] rfl Kx ?_
  simp only [qy]
  refine rg_move ?_
  simp only [qz]
  refine rf_not rfl rfl rfl ?_
  simp only [qz]
  refine rg_nil (ek_next (wk_cond_f rfl (wk_skip (ek_next ?_))))
  refine wk_region [0, 0, 0, 0, 1] rfl Kx ?_
  simp only [qy]
  refine rg_move ?_
  simp only [qz]
  refine rg_move ?_
  simp only [qz]
  refine rf_field (n := 3) (j := 0) rfl rfl rfl Try.underlying29 rfl Kx rfl ?_
  simp only [qz]
  refine rf_indexA (n := 0) (sz := 1) (j := 0) rfl rfl rfl rfl Try.underlying27 Kx (by decide) rfl ?_
  simp only [qz]
  refine rf_store rfl rfl Kx rfl rfl (UpdR.there _ (UpdR.here _ _ _ Nl)) Nz ?_
  simp only [qz]
  refine rg_nil (ek_block (ek_next ?_))
  refine wk_region [0, 0] rfl Kx ?_
  simp only [qy]
  refine rf_add (r := 1) rfl rfl rfl rfl (by decide) ?_
  simp only [qz]
  refine rg_move ?_
  simp only [qz]
  refine rg_nil (ek_again (wk_seq ?_))
  refine wk_region [0] rfl Kx ?_
  simp only [qy]
  refine rf_lss (b := true) rfl rfl rfl rfl (by decide) ?_
  simp only [qz]
  refine rg_nil (ek_next (wk_seq (wk_cond_t rfl (wk_skip (ek_next (wk_seq (wk_block (wk_seq ?_))))))))
  refine wk_region [0, 0, 1, 0, 1] rfl Kx ?_
  simp only [qy]
  refine rg_move ?_
  simp only [qz]
  refine rf_idxR (n := 1) (sz := 6) rfl rfl rfl rfl Try.underlying107 Try.underlying105 rfl Kx (by decide) (sm_idx (by decide)) ?_
  simp only [qz]
  refine Rgn fun g5 => ?_
  simp only [qz]
  refine rg_assign ?_
  simp only [qz]
  refine rf_storeR (n := 6) rfl rfl Kx rfl rfl (UpdR.here _ _ _ Nl) Nz ?_
  simp only [qz, Nat.reduceAdd]
  refine rg_nil (ek_next (wk_seq ?_))
  refine wk_region [0, 1, 0, 0, 0, 0, 0] rfl Kx ?_
  simp only [qy]
  refine rf_loadR (n := 6) rfl rfl rfl Try.underlying105 rfl Kx (fun w hw => Kn.hd0 hw) rfl rfl ?_
  simp only [qz]
  apply rg_or (X := fun v => ∃ n, v = .tuple #[.int .i64 n, .bool (smB y.b)] ∧ (smB y.b = true → n = y.b)) Rx Kx
  case hargs => exact Ax
  case h => exact fun w hw => (w6small_any y.b (by unfold In384; omega) w).mono (fun e w' ⟨n, he, hn, hb⟩ => ⟨_, he, ⟨n, rfl, hn⟩, hb⟩)
  case hz => exact Nz
  rintro _ ⟨n, rfl, hn⟩
  rcases hsb : smB y.b with _ | _
  · clear hn
    simp only [qz]
    refine rg_move ?_
    simp only [qz]
    refine rf_extract rfl rfl rfl rfl ?_
    simp only [qz]
    refine rf_extract rfl rfl rfl rfl ?_
    simp only [qz]
    refine rg_assign ?_
    simp only [qz]
    refine rg_assign ?_
    simp only [qz]
    refine rg_nil (ek_next (wk_seq (wk_seq ?_)))
    refine wk_region [0, 0] rfl Kx ?_
    simp only [qy]
    refine rg_move ?_
    simp only [qz]
    refine rf_not rfl rfl rfl ?_
    simp only [qz]
    refine rg_nil (ek_next (wk_cond_t rfl (wk_seq ?_)))
    refine wk_region [0, 1, 0] rfl Kx ?_
    simp only [qy]
    refine rf_build (cs := fun a => #[.int .i64 0, .int .i64 0, .int .i64 0, .int .i64 0, .int .i64 0]) rfl rfl Kx ?_
    simp only [qz]
    refine rf_storeR (n := 5) rfl rfl Kx rfl rfl (UpdR.there _ (UpdR.there _ (UpdR.there _ (UpdR.here _ _ _ Nl)))) Nz ?_
    simp only [qz, Nat.reduceAdd]
    refine rg_assign ?_
    simp only [qz]
    refine rg_nil (ek_next (wk_ret (ek_then_ret (ek_block_ret (ek_then_ret (ek_then_ret (ek_block_ret (ek_then_ret ?_))))))))
    refine ek_ret (fun w hw => ⟨rfl, _, run_results2 rfl rfl (Kn.hd0 (Kn.tl (Kn.tl (Kn.tl hw)))) Try.underlying29 rfl Kx, ?_⟩)
    (try simp only [qz])
    exact ⟨by unfold wnum; rw [hm1.out, if_neg (by unfold numOk; simp [hsb])]; rfl, hw.below⟩
  rw [hsb] at hn
  obtain rfl := hn rfl
  simp only [qz]
  refine rg_move ?_
  simp only [qz]
  refine rf_extract rfl rfl rfl rfl ?_
  simp only [qz]
  refine rf_extract rfl rfl rfl rfl ?_
  simp only [qz]
  refine rg_assign ?_
  simp only [qz]
  refine rg_assign ?_
  simp only [qz]
  refine rg_nil (ek_next (wk_seq (wk_seq ?_)))
  refine wk_region [0, 0] rfl Kx ?_
  simp only [qy]
  refine rg_move ?_
  simp only [qz]
  refine rf_not rfl rfl rfl ?_
  simp only [qz]
  refine rg_nil (ek_next (wk_cond_f rfl (wk_skip (ek_next ?_))))
  refine wk_region [0, 0, 0, 0, 1] rfl Kx ?_
  simp only [qy]
  refine rg_move ?_
  simp only [qz]
  refine rg_move ?_
  simp only [qz]
  refine rf_field (n := 3) (j := 0) rfl rfl rfl Try.underlying29 rfl Kx rfl ?_
  simp only [qz]
  refine rf_indexA (n := 1) (sz := 1) (j := 1) rfl rfl rfl rfl Try.underlying27 Kx (by decide) rfl ?_
  simp only [qz]
  refine rf_store rfl rfl Kx rfl rfl (UpdR.there _ (UpdR.there _ (UpdR.here _ _ _ Nl))) Nz ?_
  simp only [qz]
  refine rg_nil (ek_block (ek_next ?_))
  refine wk_region [0, 0] rfl Kx ?_
  simp only [qy]
  refine rf_add (r := 2) rfl rfl rfl rfl (by decide) ?_
  simp only [qz]
  refine rg_move ?_
  simp only [qz]
  refine rg_nil (ek_again (wk_seq ?_))
  refine wk_region [0] rfl Kx ?_
  simp only [qy]
  refine rf_lss (b := true) rfl rfl rfl rfl (by decide) ?_
  simp only [qz]
  refine rg_nil (ek_next (wk_seq (wk_cond_t rfl (wk_skip (ek_next (wk_seq (wk_block (wk_seq ?_))))))))
  refine wk_region [0, 0, 1, 0, 1] rfl Kx ?_
  simp only [qy]
  refine rg_move ?_
  simp only [qz]
  refine rf_idxR (n := 2) (sz := 6) rfl rfl rfl rfl Try.underlying107 Try.underlying105 rfl Kx (by decide) (sm_idx (by decide)) ?_
  simp only [qz]
  refine Rgn fun g6 => ?_
  simp only [qz]
  refine rg_assign ?_
  simp only [qz]
  refine rf_storeR (n := 6) rfl rfl Kx rfl rfl (UpdR.here _ _ _ Nl) Nz ?_
  simp only [qz, Nat.reduceAdd]
  refine rg_nil (ek_next (wk_seq ?_))
  refine wk_region [0, 1, 0, 0, 0, 0, 0] rfl Kx ?_
  simp only [qy]
  refine rf_loadR (n := 6) rfl rfl rfl Try.underlying105 rfl Kx (fun w hw => Kn.hd0 hw) rfl rfl ?_
  simp only [qz]
  apply rg_or (X := fun v => ∃ n, v = .tuple #[.int .i64 n, .bool (smB y.c)] ∧ (smB y.c = true → n = y.c)) Rx Kx
  case hargs => exact Ax
  case h => exact fun w hw => (w6small_any y.c (by unfold In384; omega) w).mono (fun e w' ⟨n, he, hn, hb⟩ => ⟨_, he, ⟨n, rfl, hn⟩, hb⟩)
  case hz => exact Nz
  rintro _ ⟨n, rfl, hn⟩
  rcases hsc : smB y.c with _ | _
  · clear hn
    simp only [qz]
    refine rg_move ?_
    simp only [qz]
    refine rf_extract rfl rfl rfl rfl ?_
    simp only [qz]
    refine rf_extract rfl rfl rfl rfl ?_
    simp only [qz]
    refine rg_assign ?_
    simp only [qz]
    refine rg_assign ?_
    simp only [qz]
    refine rg_nil (ek_next (wk_seq (wk_seq ?_)))
    refine wk_region [0, 0] rfl Kx ?_
    simp only [qy]
    refine rg_move ?_
    simp only [qz]
    refine rf_not rfl rfl rfl ?_
    simp only [qz]
    refine rg_nil (ek_next (wk_cond_t rfl (wk_seq ?_)))
    refine wk_region [0, 1, 0] rfl Kx ?_
    simp only [qy]
    refine rf_build (cs := fun a => #[.int .i64 0, .int .i64 0, .int .i64 0, .int .i64 0, .int .i64 0]) rfl rfl Kx ?_
    simp only [qz]
    refine rf_storeR (n := 5) rfl rfl Kx rfl rfl (UpdR.there _ (UpdR.there _ (UpdR.there _ (UpdR.there _ (UpdR.here _ _ _ Nl))))) Nz ?_
    simp only [qz, Nat.reduceAdd]
    refine rg_assign ?_
    simp only [qz]
    refine rg_nil (ek_next (wk_ret (ek_then_ret (ek_block_ret (ek_then_ret (ek_then_ret (ek_block_ret (ek_then_ret ?_))))))))
    refine ek_ret (fun w hw => ⟨rfl, _, run_results2 rfl rfl (Kn.hd0 (Kn.tl (Kn.tl (Kn.tl (Kn.tl hw))))) Try.underlying29 rfl Kx, ?_⟩)
    (try simp only [qz])
    exact ⟨by unfold wnum; rw [hm1.out, if_neg (by unfold numOk; simp [hsc])]; rfl, hw.below⟩
  rw [hsc] at hn
  obtain rfl := hn rfl
  simp only [qz]
  refine rg_move ?_
  simp only [qz]
  refine rf_extract rfl rfl rfl rfl ?_
  simp only [qz]
  refine rf_extract rfl rfl rfl rfl ?_
  simp only [qz]
  refine rg_assign ?_
  simp only [qz]
  refine rg_assign ?_
  simp only [qz]
  refine rg_nil (ek_next (wk_seq (wk_seq ?_)))
  refine wk_region [0, 0] rfl Kx ?_
  simp only [qy]
  refine rg_move ?_
  simp only [qz]
  refine rf_not rfl rfl rfl ?_
  simp only [qz]
  refine rg_nil (ek_next (wk_cond_f rfl (wk_skip (ek_next ?_))))
  refine wk_region [0, 0, 0, 0, 1] rfl Kx ?_
  simp only [qy]
  refine rg_move ?_
  simp only [qz]
  refine rg_move ?_
  simp only [qz]
  refine rf_field (n := 3) (j := 0) rfl rfl rfl Try.underlying29 rfl Kx rfl ?_
  simp only [qz]
  refine rf_indexA (n := 2) (sz := 1) (j := 2) rfl rfl rfl rfl Try.underlying27 Kx (by decide) rfl ?_
  simp only [qz]
  refine rf_store rfl rfl Kx rfl rfl (UpdR.there _ (UpdR.there _ (UpdR.there _ (UpdR.here _ _ _ Nl)))) Nz ?_
  simp only [qz]
  refine rg_nil (ek_block (ek_next ?_))
  refine wk_region [0, 0] rfl Kx ?_
  simp only [qy]
  refine rf_add (r := 3) rfl rfl rfl rfl (by decide) ?_
  simp only [qz]
  refine rg_move ?_
  simp only [qz]
  refine rg_nil (ek_again (wk_seq ?_))
  refine wk_region [0] rfl Kx ?_
  simp only [qy]
  refine rf_lss (b := true) rfl rfl rfl rfl (by decide) ?_
  simp only [qz]
  refine rg_nil (ek_next (wk_seq (wk_cond_t rfl (wk_skip (ek_next (wk_seq (wk_block (wk_seq ?_))))))))
  refine wk_region [0, 0, 1, 0, 1] rfl Kx ?_
  simp only [qy]
  refine rg_move ?_
  simp only [qz]
  refine rf_idxR (n := 3) (sz := 6) rfl rfl rfl rfl Try.underlying107 Try.underlying105 rfl Kx (by decide) (sm_idx (by decide)) ?_
  simp only [qz]
  refine Rgn fun g7 => ?_
  simp only [qz]
  refine rg_assign ?_
  simp only [qz]
  refine rf_storeR (n := 6) rfl rfl Kx rfl rfl (UpdR.here _ _ _ Nl) Nz ?_
  simp only [qz, Nat.reduceAdd]
  refine rg_nil (ek_next (wk_seq ?_))
  refine wk_region [0, 1, 0, 0, 0, 0, 0] rfl Kx ?_
  simp only [qy]
  refine rf_loadR (n := 6) rfl rfl rfl Try.underlying105 rfl Kx (fun w hw => Kn.hd0 hw) rfl rfl ?_
  simp only [qz]
  apply rg_or (X := fun v => ∃ n, v = .tuple #[.int .i64 n, .bool (smB y.d)] ∧ (smB y.d = true → n = y.d)) Rx Kx
  case hargs => exact Ax
  case h => exact fun w hw => (w6small_any y.d (by unfold In384; omega) w).mono (fun e w' ⟨n, he, hn, hb⟩ => ⟨_, he, ⟨n, rfl, hn⟩, hb⟩)
  case hz => exact Nz
  rintro _ ⟨n, rfl, hn⟩
  rcases hsd : smB y.d with _ | _
  · clear hn
    simp only [qz]
    refine rg_move ?_
    simp only [qz]
    refine rf_extract rfl rfl rfl rfl ?_
    simp only [qz]
    refine rf_extract rfl rfl rfl rfl ?_
    simp only [qz]
    refine rg_assign ?_
    simp only [qz]
    refine rg_assign ?_
    simp only [qz]
    refine rg_nil (ek_next (wk_seq (wk_seq ?_)))
    refine wk_region [0, 0] rfl Kx ?_
    simp only [qy]
    refine rg_move ?_
    simp only [qz]
    refine rf_not rfl rfl rfl ?_
    simp only [qz]
    refine rg_nil (ek_next (wk_cond_t rfl (wk_seq ?_)))
    refine wk_region [0, 1, 0] rfl Kx ?_
    simp only [qy]
    refine rf_build (cs := fun a => #[.int .i64 0, .int .i64 0, .int .i64 0, .int .i64 0, .int .i64 0]) rfl rfl Kx ?_
    simp only [qz]
    refine rf_storeR (n := 5) rfl rfl Kx rfl rfl (UpdR.there _ (UpdR.there _ (UpdR.there _ (UpdR.there _ (UpdR.there _ (UpdR.here _ _ _ Nl)))))) Nz ?_
    simp only [qz, Nat.reduceAdd]
    refine rg_assign ?_
    simp only [qz]
    refine rg_nil (ek_next (wk_ret (ek_then_ret (ek_block_ret (ek_then_ret (ek_then_ret (ek_block_ret (ek_then_ret ?_))))))))
    refine ek_ret (fun w hw => ⟨rfl, _, run_results2 rfl rfl (Kn.hd0 (Kn.tl (Kn.tl (Kn.tl (Kn.tl (Kn.tl hw)))))) Try.underlying29 rfl Kx, ?_⟩)
    (try simp only [qz])
    exact ⟨by unfold wnum; rw [hm1.out, if_neg (by unfold numOk; simp [hsd])]; rfl, hw.below⟩
  rw [hsd] at hn
  obtain rfl := hn rfl
  simp only [qz]
  refine rg_move ?_
  simp only [qz]
  refine rf_extract rfl rfl rfl rfl ?_
  simp only [qz]
  refine rf_extract rfl rfl rfl rfl ?_
  simp only [qz]
  refine rg_assign ?_
  simp only [qz]
  refine rg_assign ?_
  simp only [qz]
  refine rg_nil (ek_next (wk_seq (wk_seq ?_)))
  refine wk_region [0, 0] rfl Kx ?_
  simp only [qy]
  refine rg_move ?_
  simp only [qz]
  refine rf_not rfl rfl rfl ?_
  simp only [qz]
  refine rg_nil (ek_next (wk_cond_f rfl (wk_skip (ek_next ?_))))
  refine wk_region [0, 0, 0, 0, 1] rfl Kx ?_
  simp only [qy]
  refine rg_move ?_
  simp only [qz]
  refine rg_move ?_
  simp only [qz]
  refine rf_field (n := 3) (j := 0) rfl rfl rfl Try.underlying29 rfl Kx rfl ?_
  simp only [qz]
  refine rf_indexA (n := 3) (sz := 1) (j := 3) rfl rfl rfl rfl Try.underlying27 Kx (by decide) rfl ?_
  simp only [qz]
  refine rf_store rfl rfl Kx rfl rfl (UpdR.there _ (UpdR.there _ (UpdR.there _ (UpdR.there _ (UpdR.here _ _ _ Nl))))) Nz ?_
  simp only [qz]
  refine rg_nil (ek_block (ek_next ?_))
  refine wk_region [0, 0] rfl Kx ?_
  simp only [qy]
  refine rf_add (r := 4) rfl rfl rfl rfl (by decide) ?_
  simp only [qz]
  refine rg_move ?_
  simp only [qz]
  refine rg_nil (ek_again (wk_seq ?_))
  refine wk_region [0] rfl Kx ?_
  simp only [qy]
  refine rf_lss (b := false) rfl rfl rfl rfl (by decide) ?_
  simp only [qz]
  refine rg_nil (ek_next (wk_seq (wk_cond_f rfl (wk_exit (ek_then_exit (ek_then_exit (ek_block_exit (ek_next (wk_seq ?_)))))))))
  refine wk_region [0, 0, 0, 1, 0] rfl Kx ?_
  simp only [qy]
  refine rf_loadR (n := 5) rfl rfl rfl Try.underlying29 rfl Kx (fun w hw => Kn.hd0 (Kn.tl (Kn.tl (Kn.tl (Kn.tl hw))))) rfl rfl ?_
  simp only [qz]
  refine rg_move ?_
  simp only [qz]
  refine rf_leq rfl rfl rfl rfl rfl ?_
  simp only [qz]
  refine rf_storeR (n := 5) rfl rfl Kx rfl rfl (UpdR.there _ (UpdR.there _ (UpdR.there _ (UpdR.there _ (UpdR.there _ (UpdR.here _ _ _ Nl)))))) Nz ?_
  simp only [qz, Nat.reduceAdd]
  refine rg_assign ?_
  simp only [qz]
  refine rg_nil (ek_next (wk_ret ?_))
  refine ek_ret (fun w hw => ⟨rfl, _, run_results2 rfl rfl (Kn.hd0 (Kn.tl (Kn.tl (Kn.tl (Kn.tl (Kn.tl hw)))))) Try.underlying29 rfl Kx, ?_⟩)
  (try simp only [qz])
  exact ⟨by unfold wnum; rw [hm1.out, if_pos (by unfold numOk; simp [hsa, hsb, hsc, hsd])]; rfl, hw.below⟩

end Go.Proofs.Ytjeijnjaleldkaa
namespace Go.Proofs.Ytjeijnjaleldkaa
set_option linter.all false
open Go.RowKit

theorem and_u (x : Int) (m : Nat) (h0 : 0 ≤ x) (h1 : x < 18446744073709551616) (hm : m < 18446744073709551616) : bits .and .u64 x (m : Int) = ((x.toNat &&& m : Nat) : Int) := by
  show IntKind.u64.wrap ((BitVec.ofInt 64 x &&& BitVec.ofInt 64 (m : Int)).toNat : Int) = _
  have e1 : (BitVec.ofInt 64 x).toNat = x.toNat := by rw [BitVec.toNat_ofInt]; omega
  have e2 : (BitVec.ofInt 64 (m : Int)).toNat = m := by rw [BitVec.toNat_ofInt]; omega
  have e3 : x.toNat &&& m ≤ x.toNat := Nat.and_le_left
  rw [BitVec.toNat_and, e1, e2, IntKind.wrap_u64]
  omega
theorem and127 (x : Int) : bits .and .i64 x 127 = x % 128 := and_mask x 7 (by decide)
/-- How many of the lowest six bits are 1. -/
def pc (S : Nat) : Nat := (S.testBit 0).toNat + (S.testBit 1).toNat + (S.testBit 2).toNat + (S.testBit 3).toNat + (S.testBit 4).toNat + (S.testBit 5).toNat
def oc (S : Nat) : Nat :=
  let c1 : Int := ((((S : Int) / 2).toNat &&& 6148914691236517205 : Nat) : Int) + (((S : Int).toNat &&& 6148914691236517205 : Nat) : Int)
  let c2 : Int := (((c1 / 4).toNat &&& 3689348814741910323 : Nat) : Int) + ((c1.toNat &&& 3689348814741910323 : Nat) : Int)
  let c3 : Int := (((c2 / 16 + c2).toNat &&& 1085102592571150095 : Nat) : Int)
  let c4 : Int := c3 + c3 / 256
  let c5 : Int := c4 + c4 / 65536
  let c6 : Int := c5 + c5 / 4294967296
  (c6 % 128).toNat
theorem oc_all : ((List.range 64).all fun S => decide (oc S = pc S)) = true := by kernel_rfl
theorem oc_pc {S : Nat} (h : S < 64) : oc S = pc S := of_decide_eq_true (List.all_eq_true.1 oc_all S (List.mem_range.2 h))
set_option maxRecDepth 100000 in
set_option maxHeartbeats 1000000 in
theorem ones64_any (S : Nat) (hS : S < 64) (w : World) : Calls Try.prog 143 #[.int .u64 S] w fun e w' => e = .returned (.int .i64 (pc S)) ∧ Below w.heap.size w w' := by
  go_enter Try.func143, Try.ntmps143
  refine wk_start ?_
  refine wk_seq ?_
  refine wk_region [0] rfl Kx ?_
  simp only [qy]
  refine rg_assign ?_
  simp only [qz]
  refine rg_nil (ek_next (wk_seq ?_))
  refine wk_region [0, 0, 0, 0, 0, 0, 0] rfl Kx ?_
  simp only [qy]
  refine rg_move ?_
  simp only [qz]
  refine rf_shr (c := 1) (q := 2) rfl rfl rfl rfl rfl (by decide) ?_
  simp only [qz]
  obtain ⟨a1, ha1⟩ : ∃ A : Nat, (((S : Int) / 2).toNat &&& 6148914691236517205 : Nat) = A := ⟨_, rfl⟩
  have ba1 : a1 ≤ ((S : Int) / 2).toNat := ha1 ▸ Nat.and_le_left
  refine rf_and (r := (a1 : Int)) rfl rfl rfl rfl ((and_u ((S : Int) / 2) 6148914691236517205 Ox Ox (by decide)).trans (by rw [ha1])) ?_
  simp only [qz]
  refine rg_move ?_
  simp only [qz]
  obtain ⟨b1, hb1⟩ : ∃ A : Nat, (((S : Int)).toNat &&& 6148914691236517205 : Nat) = A := ⟨_, rfl⟩
  have bb1 : b1 ≤ ((S : Int)).toNat := hb1 ▸ Nat.and_le_left
  refine rf_and (r := (b1 : Int)) rfl rfl rfl rfl ((and_u ((S : Int)) 6148914691236517205 Ox Ox (by decide)).trans (by rw [hb1])) ?_
  simp only [qz]
  refine rf_add rfl rfl rfl rfl (wrap_okU Ox Ox) ?_
  simp only [qz]
  refine rg_assign ?_
  simp only [qz]
  refine rg_nil (ek_next (wk_seq ?_))
  refine wk_region [0, 0, 0, 0, 0, 0, 0] rfl Kx ?_
  simp only [qy]
  refine rg_move ?_
  simp only [qz]
  refine rf_shr (c := 2) (q := 4) rfl rfl rfl rfl rfl (by decide) ?_
  simp only [qz]
  obtain ⟨a2, ha2⟩ : ∃ A : Nat, ((((a1 : Int) + b1) / 4).toNat &&& 3689348814741910323 : Nat) = A := ⟨_, rfl⟩
  have ba2 : a2 ≤ (((a1 : Int) + b1) / 4).toNat := ha2 ▸ Nat.and_le_left
  refine rf_and (r := (a2 : Int)) rfl rfl rfl rfl ((and_u (((a1 : Int) + b1) / 4) 3689348814741910323 Ox Ox (by decide)).trans (by rw [ha2])) ?_
  simp only [qz]
  refine rg_move ?_
  simp only [qz]
  obtain ⟨b2, hb2⟩ : ∃ A : Nat, (((a1 : Int) + b1).toNat &&& 3689348814741910323 : Nat) = A := ⟨_, rfl⟩
  have bb2 : b2 ≤ ((a1 : Int) + b1).toNat := hb2 ▸ Nat.and_le_left
  refine rf_and (r := (b2 : Int)) rfl rfl rfl rfl ((and_u ((a1 : Int) + b1) 3689348814741910323 Ox Ox (by decide)).trans (by rw [hb2])) ?_
  simp only [qz]
  refine rf_add rfl rfl rfl rfl (wrap_okU Ox Ox) ?_
  simp only [qz]
  refine rg_assign ?_
  simp only [qz]
  refine rg_nil (ek_next (wk_seq ?_))
  refine wk_region [0, 0, 0, 0, 0, 0] rfl Kx ?_
  simp only [qy]
  refine rg_move ?_
  simp only [qz]
  refine rf_shr (c := 4) (q := 16) rfl rfl rfl rfl rfl (by decide) ?_
  simp only [qz]
  refine rg_move ?_
  simp only [qz]
  refine rf_add rfl rfl rfl rfl (wrap_okU Ox Ox) ?_
  simp only [qz]
  obtain ⟨a3, ha3⟩ : ∃ A : Nat, ((((a2 : Int) + b2) / 16 + ((a2 : Int) + b2)).toNat &&& 1085102592571150095 : Nat) = A := ⟨_, rfl⟩
  have ba3 : a3 ≤ (((a2 : Int) + b2) / 16 + ((a2 : Int) + b2)).toNat := ha3 ▸ Nat.and_le_left
  refine rf_and (r := (a3 : Int)) rfl rfl rfl rfl ((and_u (((a2 : Int) + b2) / 16 + ((a2 : Int) + b2)) 1085102592571150095 Ox Ox (by decide)).trans (by rw [ha3])) ?_
  simp only [qz]
  refine rg_assign ?_
  simp only [qz]
  refine rg_nil (ek_next (wk_seq ?_))
  refine wk_region [0, 0, 0, 0, 0] rfl Kx ?_
  simp only [qy]
  refine rg_move ?_
  simp only [qz]
  refine rg_move ?_
  simp only [qz]
  refine rf_shr (c := 8) (q := 256) rfl rfl rfl rfl rfl (by decide) ?_
  simp only [qz]
  refine rf_add rfl rfl rfl rfl (wrap_okU Ox Ox) ?_
  simp only [qz]
  refine rg_assign ?_
  simp only [qz]
  refine rg_nil (ek_next (wk_seq ?_))
  refine wk_region [0, 0, 0, 0, 0] rfl Kx ?_
  simp only [qy]
  refine rg_move ?_
  simp only [qz]
  refine rg_move ?_
  simp only [qz]
  refine rf_shr (c := 16) (q := 65536) rfl rfl rfl rfl rfl (by decide) ?_
  simp only [qz]
  refine rf_add rfl rfl rfl rfl (wrap_okU Ox Ox) ?_
  simp only [qz]
  refine rg_assign ?_
  simp only [qz]
  refine rg_nil (ek_next (wk_seq ?_))
  refine wk_region [0, 0, 0, 0, 0] rfl Kx ?_
  simp only [qy]
  refine rg_move ?_
  simp only [qz]
  refine rg_move ?_
  simp only [qz]
  refine rf_shr (c := 32) (q := 4294967296) rfl rfl rfl rfl rfl (by decide) ?_
  simp only [qz]
  refine rf_add rfl rfl rfl rfl (wrap_okU Ox Ox) ?_
  simp only [qz]
  refine rg_assign ?_
  simp only [qz]
  refine rg_nil (ek_next (wk_seq ?_))
  refine wk_region [0, 0, 0, 0] rfl Kx ?_
  simp only [qy]
  refine rg_move ?_
  simp only [qz]
  refine rf_conv rfl rfl rfl Try.underlying103 Try.underlying3 (wrap_ok Ox Ox) ?_
  simp only [qz]
  refine rf_and (r := ((((a3 : Int) + (a3 : Int) / 256) + ((a3 : Int) + (a3 : Int) / 256) / 65536) + (((a3 : Int) + (a3 : Int) / 256) + ((a3 : Int) + (a3 : Int) / 256) / 65536) / 4294967296) % 128) rfl rfl rfl rfl (and127 _) ?_
  simp only [qz]
  refine rg_assign ?_
  simp only [qz]
  refine rg_nil (ek_next (wk_ret ?_))
  refine ek_ret (fun w hw => ⟨rfl, _, res_t _ rfl, ?_⟩)
  (try simp only [qz])
  have ht := oc_pc hS
  unfold oc at ht
  simp only [ha1, hb1, ha2, hb2, ha3] at ht
  exact ⟨by rw [← ht, Int.toNat_of_nonneg Ox], hw.below⟩

set_option maxRecDepth 100000 in
set_option maxHeartbeats 1000000 in
theorem ones_any (S : Nat) (hS : S < 64) (w : World) : Calls Try.prog 115 #[.int .u64 S] w fun e w' => e = .returned (.int .i64 (pc S)) ∧ Below w.heap.size w w' := by
  go_enter Try.func115, Try.ntmps115
  refine wk_start ?_
  refine wk_seq ?_
  refine wk_region [0] rfl Kx ?_
  simp only [qy]
  refine rg_assign ?_
  simp only [qz]
  refine rg_nil (ek_next (wk_seq (wk_cond_f rfl (wk_skip (ek_next (wk_seq ?_))))))
  refine wk_region [0, 1, 0] rfl Kx ?_
  simp only [qy]
  refine rg_move ?_
  simp only [qz]
  apply rg_pure Rx Kx
  case hargs => exact Ax
  case h => exact fun w hw => ones64_any S hS w
  case hz => exact Nz
  simp only [qz]
  refine rg_assign ?_
  simp only [qz]
  refine rg_nil (ek_next (wk_ret ?_))
  refine ek_ret (fun w hw => ⟨rfl, _, res_t _ rfl, ?_⟩)
  (try simp only [qz])
  first | exact ⟨rfl, hw.below⟩ | exact ⟨trivial, hw.below⟩ | exact hw.below

theorem pc_all : ((List.range 64).all fun S => (List.range 6).all fun k => !S.testBit k || (decide (pc (S - 2 ^ k) + 1 = pc S) && decide (2 ^ k ≤ S) && decide (bits .andNot .i64 (S : Int) ((2 ^ k : Nat) : Int) = ((S - 2 ^ k : Nat) : Int)))) = true := by kernel_rfl
theorem pc_out {S k : Nat} (h : S < 64) (hk : k < 6) (hb : S.testBit k = true) : pc (S - 2 ^ k) + 1 = pc S ∧ 2 ^ k ≤ S ∧ bits .andNot .i64 (S : Int) ((2 ^ k : Nat) : Int) = ((S - 2 ^ k : Nat) : Int) := by
  have h1 := List.all_eq_true.1 (List.all_eq_true.1 pc_all S (List.mem_range.2 h)) k (List.mem_range.2 hk)
  rw [hb] at h1
  simp only [Bool.not_true, Bool.false_or, Bool.and_eq_true, decide_eq_true_eq] at h1
  exact ⟨h1.1.1, h1.1.2, h1.2⟩
theorem pc_rng : ((List.range 7).all fun n => (List.range (2 ^ n)).all fun S => decide (pc S ≤ n) && (decide (S = 0) || decide (1 ≤ pc S))) = true := by kernel_rfl
theorem pc_le {S n : Nat} (hn : n ≤ 6) (h : S < 2 ^ n) : pc S ≤ n ∧ (S = 0 ∨ 1 ≤ pc S) := by
  have h1 := List.all_eq_true.1 (List.all_eq_true.1 pc_rng n (List.mem_range.2 Ox)) S (List.mem_range.2 h)
  simpa using h1
theorem pc_full {n : Nat} (hn : n ≤ 6) : pc (2 ^ n - 1) = n := by
  have : n = 0 ∨ n = 1 ∨ n = 2 ∨ n = 3 ∨ n = 4 ∨ n = 5 ∨ n = 6 := by omega
  rcases this with rfl | rfl | rfl | rfl | rfl | rfl | rfl <;> rfl
theorem pow_6 {n : Nat} (hn : n ≤ 6) : 1 ≤ 2 ^ n ∧ 2 ^ n ≤ 64 := by
  have : n = 0 ∨ n = 1 ∨ n = 2 ∨ n = 3 ∨ n = 4 ∨ n = 5 ∨ n = 6 := by omega
  rcases this with rfl | rfl | rfl | rfl | rfl | rfl | rfl <;> decide
/-- The bit k of S, as the program asks for it. -/
theorem bit_at (S k : Nat) : bits .and .i64 ((S : Int) / (2 ^ k : Nat)) 1 = (if S.testBit k then 1 else 0) := by
  have e : ((S : Int) / (2 ^ k : Nat)) = ((S / 2 ^ k : Nat) : Int) := by rw [Int.natCast_ediv]
  have := and_mask ((S : Int) / (2 ^ k : Nat)) 1 (by decide)
  have h1 : ((2 ^ 1 - 1 : Nat) : Int) = 1 := rfl
  rw [h1] at this
  have h2 : (S.testBit k) = decide (S / 2 ^ k % 2 = 1) := by rw [Nat.testBit_eq_decide_div_mod_eq]
  have h3 : ((2 ^ 1 : Nat) : Int) = 2 := rfl
  rw [this, e, h2, h3]
  generalize S / 2 ^ k = q
  by_cases h : q % 2 = 1
  · rw [decide_eq_true h, if_pos rfl]; omega
  rw [decide_eq_false h, if_neg (by decide)]; omega
end Go.Proofs.Ytjeijnjaleldkaa
