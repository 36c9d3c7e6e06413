/- Texts in one: Pe1, Pe2, Pe3, Pe4, PrA, Ch2, Pe5, Ch3. -/
import Derived.Test.YthjjkajjpejcdaaGreatLPhG
namespace Go.Proofs.YthjjkajjpejcdaaGreat
set_option linter.all false
set_option maxRecDepth 100000
set_option maxHeartbeats 1000000
open Go.RowKit
theorem bit1 (x : Int) : bits .and .u64 x 1 = x % 2 := by
 show IntKind.u64.wrap ((BitVec.ofInt 64 x &&& BitVec.ofInt 64 1).toNat : Int) = _
 have h1 : (BitVec.ofInt 64 (1 : Int)).toNat = 2 ^ 1 - 1 := by decide
 rw [BitVec.toNat_and, h1, Nat.and_two_pow_sub_one_eq_mod, BitVec.toNat_ofInt, IntKind.wrap_u64]
 omega
theorem or_high {x y : Int} (hx : 0 ≤ x) (hx1 : x < 9223372036854775808) (hy : y = 0 ∨ y = 9223372036854775808) : bits .or .u64 x y = x + y := by
 show IntKind.u64.wrap ((BitVec.ofInt 64 x ||| BitVec.ofInt 64 y).toNat : Int) = _
 rcases hy with rfl | rfl
 ·rw [show BitVec.ofInt 64 (0 : Int) = 0#64 from rfl, BitVec.or_zero, BitVec.toNat_ofInt, IntKind.wrap_u64]
  omega
 have h1 : (BitVec.ofInt 64 (9223372036854775808 : Int)).toNat = 2 ^ 63 * 1 := by decide
 have h2 : (BitVec.ofInt 64 x).toNat = x.toNat := by rw [BitVec.toNat_ofInt]; omega
 have h3 : x.toNat < 2 ^ 63 := by omega
 rw [BitVec.toNat_or, h1, h2, Nat.or_comm, ← Nat.two_pow_add_eq_or_of_lt h3, IntKind.wrap_u64]
 omega
theorem w6half_any (m : Int) (hm : In384 m) (he : m % 2 = 0) (w : World) : Calls Tryz.prog 148 #[w6V (W6.of m)] w fun e w' => e = .returned (w6V (W6.of (m / 2))) ∧ Below w.heap.size w w' := by
 obtain ⟨⟨x0, x1, x2, x3, x4, x5⟩, hx⟩ : ∃ r, W6.of m = r := ⟨_, rfl⟩
 have wx := W6.of_wf m
 rw [hx] at wx
 obtain ⟨xa0, xb0, xa1, xb1, xa2, xb2, xa3, xb3, xa4, xb4, xa5, xb5⟩ := wx
 dsimp only at xa0 xb0 xa1 xb1 xa2 xb2 xa3 xb3 xa4 xb4 xa5 xb5
 have heq : (⟨x0 / 2 + x1 % 2 * 9223372036854775808, x1 / 2 + x2 % 2 * 9223372036854775808, x2 / 2 + x3 % 2 * 9223372036854775808, x3 / 2 + x4 % 2 * 9223372036854775808, x4 / 2 + x5 % 2 * 9223372036854775808, x5 / 2 + x5 / 9223372036854775808 * 9223372036854775808⟩ : W6) = W6.of (m / 2) := by (have := W6.half_eq hm he; rw [hx] at this; exact this)
 rw [hx]
 replace heq := Lib.hid heq
 clear hx hm he
 go_enter Tryz.func148, Tryz.ntmps148
 refine wk_start ?_
 refine wk_seq ?_
 refine wk_region [1, 1] rfl Kx ?_
 simp only [qy]
 refine Rgn fun g1 => ?_
 simp only [qz]
 refine Rgn fun g2 => ?_
 simp only [qz]
 refine rg_nil (ek_next (wk_seq (wk_seq ?_)))
 refine wk_region [0] rfl Kx ?_
 simp only [qy]
 refine rg_move ?_
 simp only [qz]
 refine rg_nil (ek_next (wk_block ?_))
 refine wk_unroll 6 ?_
 refine wk_seq ?_
 refine wk_region [0] rfl Kx ?_
 simp only [qy]
 refine rf_lss (b := true) rfl rfl rfl rfl (by decide) ?_
 simp only [qz]
 refine rg_nil (ek_next (wk_seq (wk_cond_t rfl (wk_skip (ek_next (wk_seq (wk_block (wk_seq ?_))))))))
 refine wk_region [0, 0] rfl Kx ?_
 simp only [qy]
 refine rg_move ?_
 simp only [qz]
 refine rg_assign ?_
 simp only [qz]
 refine rg_nil (ek_next (wk_seq ?_))
 refine wk_region [0, 0, 0, 0, 0, 0] rfl Kx ?_
 simp only [qy]
 refine rg_move ?_
 simp only [qz]
 refine rf_indexA (n := 0) (sz := 1) (j := 0) rfl rfl rfl rfl UU166 Kx (by decide) rfl ?_
 simp only [qz]
 refine rf_load rfl rfl rfl UU140 rfl (fun w hw => (Kn.hd0 (Kn.tl hw)).at rfl) ?_
 simp only [qz]
 refine rf_shr (c := 63) (q := 9223372036854775808) rfl rfl rfl rfl rfl (by decide) ?_
 simp only [qz]
 refine rf_shl (c := 63) (q := 9223372036854775808) (r := x0 / 9223372036854775808 * 9223372036854775808) rfl rfl rfl rfl rfl (by decide) (wrap_okU Ox Ox) ?_
 simp only [qz]
 refine rg_assign ?_
 simp only [qz]
 refine rg_nil (ek_next (wk_seq (wk_seq ?_)))
 refine wk_region [0, 0, 0] rfl Kx ?_
 simp only [qy]
 refine rg_move ?_
 simp only [qz]
 refine rf_add (r := 1) rfl rfl rfl rfl (by decide) ?_
 simp only [qz]
 refine rf_lss (b := true) rfl rfl rfl rfl (by decide) ?_
 simp only [qz]
 refine rg_nil (ek_next (wk_cond_t rfl ?_))
 refine wk_region [0, 0, 0, 0, 0, 0] rfl Kx ?_
 simp only [qy]
 refine rg_move ?_
 simp only [qz]
 refine rf_add (r := 1) rfl rfl rfl rfl (by decide) ?_
 simp only [qz]
 refine rf_indexA (n := 1) (sz := 1) (j := 1) rfl rfl rfl rfl UU166 Kx (by decide) rfl ?_
 simp only [qz]
 refine rf_load rfl rfl rfl UU140 rfl (fun w hw => (Kn.hd0 (Kn.tl hw)).at rfl) ?_
 simp only [qz]
 refine rf_shl (c := 63) (q := 9223372036854775808) (r := x1 % 2 * 9223372036854775808) rfl rfl rfl rfl rfl (by decide) ((IntKind.wrap_u64 _).trans Ox) ?_
 simp only [qz]
 refine rg_assign ?_
 simp only [qz]
 refine rg_nil (ek_next ?_)
 refine wk_region [0, 0, 0, 0, 0, 0, 0, 0, 1] rfl Kx ?_
 simp only [qy]
 refine rg_move ?_
 simp only [qz]
 refine rg_move ?_
 simp only [qz]
 refine rf_indexA (n := 0) (sz := 1) (j := 0) rfl rfl rfl rfl UU166 Kx (by decide) rfl ?_
 simp only [qz]
 refine rf_load rfl rfl rfl UU140 rfl (fun w hw => (Kn.hd0 (Kn.tl hw)).at rfl) ?_
 simp only [qz]
 refine rf_shr (c := 1) (q := 2) rfl rfl rfl rfl rfl (by decide) ?_
 simp only [qz]
 refine rg_move ?_
 simp only [qz]
 refine rf_or (r := x0 / 2 + x1 % 2 * 9223372036854775808) rfl rfl rfl rfl (or_high Ox Ox Ox) ?_
 simp only [qz]
 refine rf_indexA (n := 0) (sz := 1) (j := 0) rfl rfl rfl rfl UU166 Kx (by decide) rfl ?_
 simp only [qz]
 refine rf_store rfl rfl Kx rfl rfl (UpdR.there _ (UpdR.here _ _ _ Nl)) Nz ?_
 simp only [qz]
 refine rg_nil (ek_block (ek_next ?_))
 refine wk_region [0, 0] rfl Kx ?_
 simp only [qy]
 refine rf_add (r := 1) rfl rfl rfl rfl (by decide) ?_
 simp only [qz]
 refine rg_move ?_
 simp only [qz]
 refine rg_nil (ek_again (wk_seq ?_))
 refine wk_region [0] rfl Kx ?_
 simp only [qy]
 refine rf_lss (b := true) rfl rfl rfl rfl (by decide) ?_
 simp only [qz]
 refine rg_nil (ek_next (wk_seq (wk_cond_t rfl (wk_skip (ek_next (wk_seq (wk_block (wk_seq ?_))))))))
 refine wk_region [0, 0] rfl Kx ?_
 simp only [qy]
 refine rg_move ?_
 simp only [qz]
 refine rg_assign ?_
 simp only [qz]
 refine rg_nil (ek_next (wk_seq ?_))
 refine wk_region [0, 0, 0, 0, 0, 0] rfl Kx ?_
 simp only [qy]
 refine rg_move ?_
 simp only [qz]
 refine rf_indexA (n := 1) (sz := 1) (j := 1) rfl rfl rfl rfl UU166 Kx (by decide) rfl ?_
 simp only [qz]
 refine rf_load rfl rfl rfl UU140 rfl (fun w hw => (Kn.hd0 (Kn.tl hw)).at rfl) ?_
 simp only [qz]
 refine rf_shr (c := 63) (q := 9223372036854775808) rfl rfl rfl rfl rfl (by decide) ?_
 simp only [qz]
 refine rf_shl (c := 63) (q := 9223372036854775808) (r := x1 / 9223372036854775808 * 9223372036854775808) rfl rfl rfl rfl rfl (by decide) (wrap_okU Ox Ox) ?_
 simp only [qz]
 refine rg_assign ?_
 simp only [qz]
 refine rg_nil (ek_next (wk_seq (wk_seq ?_)))
 refine wk_region [0, 0, 0] rfl Kx ?_
 simp only [qy]
 refine rg_move ?_
 simp only [qz]
 refine rf_add (r := 2) rfl rfl rfl rfl (by decide) ?_
 simp only [qz]
 refine rf_lss (b := true) rfl rfl rfl rfl (by decide) ?_
 simp only [qz]
 refine rg_nil (ek_next (wk_cond_t rfl ?_))
 refine wk_region [0, 0, 0, 0, 0, 0] rfl Kx ?_
 simp only [qy]
 refine rg_move ?_
 simp only [qz]
 refine rf_add (r := 2) rfl rfl rfl rfl (by decide) ?_
 simp only [qz]
 refine rf_indexA (n := 2) (sz := 1) (j := 2) rfl rfl rfl rfl UU166 Kx (by decide) rfl ?_
 simp only [qz]
 refine rf_load rfl rfl rfl UU140 rfl (fun w hw => (Kn.hd0 (Kn.tl hw)).at rfl) ?_
 simp only [qz]
 refine rf_shl (c := 63) (q := 9223372036854775808) (r := x2 % 2 * 9223372036854775808) rfl rfl rfl rfl rfl (by decide) ((IntKind.wrap_u64 _).trans Ox) ?_
 simp only [qz]
 refine rg_assign ?_
 simp only [qz]
 refine rg_nil (ek_next ?_)
 refine wk_region [0, 0, 0, 0, 0, 0, 0, 0, 1] rfl Kx ?_
 simp only [qy]
 refine rg_move ?_
 simp only [qz]
 refine rg_move ?_
 simp only [qz]
 refine rf_indexA (n := 1) (sz := 1) (j := 1) rfl rfl rfl rfl UU166 Kx (by decide) rfl ?_
 simp only [qz]
 refine rf_load rfl rfl rfl UU140 rfl (fun w hw => (Kn.hd0 (Kn.tl hw)).at rfl) ?_
 simp only [qz]
 refine rf_shr (c := 1) (q := 2) rfl rfl rfl rfl rfl (by decide) ?_
 simp only [qz]
 refine rg_move ?_
 simp only [qz]
 refine rf_or (r := x1 / 2 + x2 % 2 * 9223372036854775808) rfl rfl rfl rfl (or_high Ox Ox Ox) ?_
 simp only [qz]
 refine rf_indexA (n := 1) (sz := 1) (j := 1) rfl rfl rfl rfl UU166 Kx (by decide) rfl ?_
 simp only [qz]
 refine rf_store rfl rfl Kx rfl rfl (UpdR.there _ (UpdR.here _ _ _ Nl)) Nz ?_
 simp only [qz]
 refine rg_nil (ek_block (ek_next ?_))
 refine wk_region [0, 0] rfl Kx ?_
 simp only [qy]
 refine rf_add (r := 2) rfl rfl rfl rfl (by decide) ?_
 simp only [qz]
 refine rg_move ?_
 simp only [qz]
 refine rg_nil (ek_again (wk_seq ?_))
 refine wk_region [0] rfl Kx ?_
 simp only [qy]
 refine rf_lss (b := true) rfl rfl rfl rfl (by decide) ?_
 simp only [qz]
 refine rg_nil (ek_next (wk_seq (wk_cond_t rfl (wk_skip (ek_next (wk_seq (wk_block (wk_seq ?_))))))))
 refine wk_region [0, 0] rfl Kx ?_
 simp only [qy]
 refine rg_move ?_
 simp only [qz]
 refine rg_assign ?_
 simp only [qz]
 refine rg_nil (ek_next (wk_seq ?_))
 refine wk_region [0, 0, 0, 0, 0, 0] rfl Kx ?_
 simp only [qy]
 refine rg_move ?_
 simp only [qz]
 refine rf_indexA (n := 2) (sz := 1) (j := 2) rfl rfl rfl rfl UU166 Kx (by decide) rfl ?_
 simp only [qz]
 refine rf_load rfl rfl rfl UU140 rfl (fun w hw => (Kn.hd0 (Kn.tl hw)).at rfl) ?_
 simp only [qz]
 refine rf_shr (c := 63) (q := 9223372036854775808) rfl rfl rfl rfl rfl (by decide) ?_
 simp only [qz]
 refine rf_shl (c := 63) (q := 9223372036854775808) (r := x2 / 9223372036854775808 * 9223372036854775808) rfl rfl rfl rfl rfl (by decide) (wrap_okU Ox Ox) ?_
 simp only [qz]
 refine rg_assign ?_
 simp only [qz]
 refine rg_nil (ek_next (wk_seq (wk_seq ?_)))
 refine wk_region [0, 0, 0] rfl Kx ?_
 simp only [qy]
 refine rg_move ?_
 simp only [qz]
 refine rf_add (r := 3) rfl rfl rfl rfl (by decide) ?_
 simp only [qz]
 refine rf_lss (b := true) rfl rfl rfl rfl (by decide) ?_
 simp only [qz]
 refine rg_nil (ek_next (wk_cond_t rfl ?_))
 refine wk_region [0, 0, 0, 0, 0, 0] rfl Kx ?_
 simp only [qy]
 refine rg_move ?_
 simp only [qz]
 refine rf_add (r := 3) rfl rfl rfl rfl (by decide) ?_
 simp only [qz]
 refine rf_indexA (n := 3) (sz := 1) (j := 3) rfl rfl rfl rfl UU166 Kx (by decide) rfl ?_
 simp only [qz]
 refine rf_load rfl rfl rfl UU140 rfl (fun w hw => (Kn.hd0 (Kn.tl hw)).at rfl) ?_
 simp only [qz]
 refine rf_shl (c := 63) (q := 9223372036854775808) (r := x3 % 2 * 9223372036854775808) rfl rfl rfl rfl rfl (by decide) ((IntKind.wrap_u64 _).trans Ox) ?_
 simp only [qz]
 refine rg_assign ?_
 simp only [qz]
 refine rg_nil (ek_next ?_)
 refine wk_region [0, 0, 0, 0, 0, 0, 0, 0, 1] rfl Kx ?_
 simp only [qy]
 refine rg_move ?_
 simp only [qz]
 refine rg_move ?_
 simp only [qz]
 refine rf_indexA (n := 2) (sz := 1) (j := 2) rfl rfl rfl rfl UU166 Kx (by decide) rfl ?_
 simp only [qz]
 refine rf_load rfl rfl rfl UU140 rfl (fun w hw => (Kn.hd0 (Kn.tl hw)).at rfl) ?_
 simp only [qz]
 refine rf_shr (c := 1) (q := 2) rfl rfl rfl rfl rfl (by decide) ?_
 simp only [qz]
 refine rg_move ?_
 simp only [qz]
 refine rf_or (r := x2 / 2 + x3 % 2 * 9223372036854775808) rfl rfl rfl rfl (or_high Ox Ox Ox) ?_
 simp only [qz]
 refine rf_indexA (n := 2) (sz := 1) (j := 2) rfl rfl rfl rfl UU166 Kx (by decide) rfl ?_
 simp only [qz]
 refine rf_store rfl rfl Kx rfl rfl (UpdR.there _ (UpdR.here _ _ _ Nl)) Nz ?_
 simp only [qz]
 refine rg_nil (ek_block (ek_next ?_))
 refine wk_region [0, 0] rfl Kx ?_
 simp only [qy]
 refine rf_add (r := 3) rfl rfl rfl rfl (by decide) ?_
 simp only [qz]
 refine rg_move ?_
 simp only [qz]
 refine rg_nil (ek_again (wk_seq ?_))
 refine wk_region [0] rfl Kx ?_
 simp only [qy]
 refine rf_lss (b := true) rfl rfl rfl rfl (by decide) ?_
 simp only [qz]
 refine rg_nil (ek_next (wk_seq (wk_cond_t rfl (wk_skip (ek_next (wk_seq (wk_block (wk_seq ?_))))))))
 refine wk_region [0, 0] rfl Kx ?_
 simp only [qy]
 refine rg_move ?_
 simp only [qz]
 refine rg_assign ?_
 simp only [qz]
 refine rg_nil (ek_next (wk_seq ?_))
 refine wk_region [0, 0, 0, 0, 0, 0] rfl Kx ?_
 simp only [qy]
 refine rg_move ?_
 simp only [qz]
 refine rf_indexA (n := 3) (sz := 1) (j := 3) rfl rfl rfl rfl UU166 Kx (by decide) rfl ?_
 simp only [qz]
 refine rf_load rfl rfl rfl UU140 rfl (fun w hw => (Kn.hd0 (Kn.tl hw)).at rfl) ?_
 simp only [qz]
 refine rf_shr (c := 63) (q := 9223372036854775808) rfl rfl rfl rfl rfl (by decide) ?_
 simp only [qz]
 refine rf_shl (c := 63) (q := 9223372036854775808) (r := x3 / 9223372036854775808 * 9223372036854775808) rfl rfl rfl rfl rfl (by decide) (wrap_okU Ox Ox) ?_
 simp only [qz]
 refine rg_assign ?_
 simp only [qz]
 refine rg_nil (ek_next (wk_seq (wk_seq ?_)))
 refine wk_region [0, 0, 0] rfl Kx ?_
 simp only [qy]
 refine rg_move ?_
 simp only [qz]
 refine rf_add (r := 4) rfl rfl rfl rfl (by decide) ?_
 simp only [qz]
 refine rf_lss (b := true) rfl rfl rfl rfl (by decide) ?_
 simp only [qz]
 refine rg_nil (ek_next (wk_cond_t rfl ?_))
 refine wk_region [0, 0, 0, 0, 0, 0] rfl Kx ?_
 simp only [qy]
 refine rg_move ?_
 simp only [qz]
 refine rf_add (r := 4) rfl rfl rfl rfl (by decide) ?_
 simp only [qz]
 refine rf_indexA (n := 4) (sz := 1) (j := 4) rfl rfl rfl rfl UU166 Kx (by decide) rfl ?_
 simp only [qz]
 refine rf_load rfl rfl rfl UU140 rfl (fun w hw => (Kn.hd0 (Kn.tl hw)).at rfl) ?_
 simp only [qz]
 refine rf_shl (c := 63) (q := 9223372036854775808) (r := x4 % 2 * 9223372036854775808) rfl rfl rfl rfl rfl (by decide) ((IntKind.wrap_u64 _).trans Ox) ?_
 simp only [qz]
 refine rg_assign ?_
 simp only [qz]
 refine rg_nil (ek_next ?_)
 refine wk_region [0, 0, 0, 0, 0, 0, 0, 0, 1] rfl Kx ?_
 simp only [qy]
 refine rg_move ?_
 simp only [qz]
 refine rg_move ?_
 simp only [qz]
 refine rf_indexA (n := 3) (sz := 1) (j := 3) rfl rfl rfl rfl UU166 Kx (by decide) rfl ?_
 simp only [qz]
 refine rf_load rfl rfl rfl UU140 rfl (fun w hw => (Kn.hd0 (Kn.tl hw)).at rfl) ?_
 simp only [qz]
 refine rf_shr (c := 1) (q := 2) rfl rfl rfl rfl rfl (by decide) ?_
 simp only [qz]
 refine rg_move ?_
 simp only [qz]
 refine rf_or (r := x3 / 2 + x4 % 2 * 9223372036854775808) rfl rfl rfl rfl (or_high Ox Ox Ox) ?_
 simp only [qz]
 refine rf_indexA (n := 3) (sz := 1) (j := 3) rfl rfl rfl rfl UU166 Kx (by decide) rfl ?_
 simp only [qz]
 refine rf_store rfl rfl Kx rfl rfl (UpdR.there _ (UpdR.here _ _ _ Nl)) Nz ?_
 simp only [qz]
 refine rg_nil (ek_block (ek_next ?_))
 refine wk_region [0, 0] rfl Kx ?_
 simp only [qy]
 refine rf_add (r := 4) rfl rfl rfl rfl (by decide) ?_
 simp only [qz]
 refine rg_move ?_
 simp only [qz]
 refine rg_nil (ek_again (wk_seq ?_))
 refine wk_region [0] rfl Kx ?_
 simp only [qy]
 refine rf_lss (b := true) rfl rfl rfl rfl (by decide) ?_
 simp only [qz]
 refine rg_nil (ek_next (wk_seq (wk_cond_t rfl (wk_skip (ek_next (wk_seq (wk_block (wk_seq ?_))))))))
 refine wk_region [0, 0] rfl Kx ?_
 simp only [qy]
 refine rg_move ?_
 simp only [qz]
 refine rg_assign ?_
 simp only [qz]
 refine rg_nil (ek_next (wk_seq ?_))
 refine wk_region [0, 0, 0, 0, 0, 0] rfl Kx ?_
 simp only [qy]
 refine rg_move ?_
 simp only [qz]
 refine rf_indexA (n := 4) (sz := 1) (j := 4) rfl rfl rfl rfl UU166 Kx (by decide) rfl ?_
 simp only [qz]
 refine rf_load rfl rfl rfl UU140 rfl (fun w hw => (Kn.hd0 (Kn.tl hw)).at rfl) ?_
 simp only [qz]
 refine rf_shr (c := 63) (q := 9223372036854775808) rfl rfl rfl rfl rfl (by decide) ?_
 simp only [qz]
 refine rf_shl (c := 63) (q := 9223372036854775808) (r := x4 / 9223372036854775808 * 9223372036854775808) rfl rfl rfl rfl rfl (by decide) (wrap_okU Ox Ox) ?_
 simp only [qz]
 refine rg_assign ?_
 simp only [qz]
 refine rg_nil (ek_next (wk_seq (wk_seq ?_)))
 refine wk_region [0, 0, 0] rfl Kx ?_
 simp only [qy]
 refine rg_move ?_
 simp only [qz]
 refine rf_add (r := 5) rfl rfl rfl rfl (by decide) ?_
 simp only [qz]
 refine rf_lss (b := true) rfl rfl rfl rfl (by decide) ?_
 simp only [qz]
 refine rg_nil (ek_next (wk_cond_t rfl ?_))
 refine wk_region [0, 0, 0, 0, 0, 0] rfl Kx ?_
 simp only [qy]
 refine rg_move ?_
 simp only [qz]
 refine rf_add (r := 5) rfl rfl rfl rfl (by decide) ?_
 simp only [qz]
 refine rf_indexA (n := 5) (sz := 1) (j := 5) rfl rfl rfl rfl UU166 Kx (by decide) rfl ?_
 simp only [qz]
 refine rf_load rfl rfl rfl UU140 rfl (fun w hw => (Kn.hd0 (Kn.tl hw)).at rfl) ?_
 simp only [qz]
 refine rf_shl (c := 63) (q := 9223372036854775808) (r := x5 % 2 * 9223372036854775808) rfl rfl rfl rfl rfl (by decide) ((IntKind.wrap_u64 _).trans Ox) ?_
 simp only [qz]
 refine rg_assign ?_
 simp only [qz]
 refine rg_nil (ek_next ?_)
 refine wk_region [0, 0, 0, 0, 0, 0, 0, 0, 1] rfl Kx ?_
 simp only [qy]
 refine rg_move ?_
 simp only [qz]
 refine rg_move ?_
 simp only [qz]
 refine rf_indexA (n := 4) (sz := 1) (j := 4) rfl rfl rfl rfl UU166 Kx (by decide) rfl ?_
 simp only [qz]
 refine rf_load rfl rfl rfl UU140 rfl (fun w hw => (Kn.hd0 (Kn.tl hw)).at rfl) ?_
 simp only [qz]
 refine rf_shr (c := 1) (q := 2) rfl rfl rfl rfl rfl (by decide) ?_
 simp only [qz]
 refine rg_move ?_
 simp only [qz]
 refine rf_or (r := x4 / 2 + x5 % 2 * 9223372036854775808) rfl rfl rfl rfl (or_high Ox Ox Ox) ?_
 simp only [qz]
 refine rf_indexA (n := 4) (sz := 1) (j := 4) rfl rfl rfl rfl UU166 Kx (by decide) rfl ?_
 simp only [qz]
 refine rf_store rfl rfl Kx rfl rfl (UpdR.there _ (UpdR.here _ _ _ Nl)) Nz ?_
 simp only [qz]
 refine rg_nil (ek_block (ek_next ?_))
 refine wk_region [0, 0] rfl Kx ?_
 simp only [qy]
 refine rf_add (r := 5) rfl rfl rfl rfl (by decide) ?_
 simp only [qz]
 refine rg_move ?_
 simp only [qz]
 refine rg_nil (ek_again (wk_seq ?_))
 refine wk_region [0] rfl Kx ?_
 simp only [qy]
 refine rf_lss (b := true) rfl rfl rfl rfl (by decide) ?_
 simp only [qz]
 refine rg_nil (ek_next (wk_seq (wk_cond_t rfl (wk_skip (ek_next (wk_seq (wk_block (wk_seq ?_))))))))
 refine wk_region [0, 0] rfl Kx ?_
 simp only [qy]
 refine rg_move ?_
 simp only [qz]
 refine rg_assign ?_
 simp only [qz]
 refine rg_nil (ek_next (wk_seq ?_))
 refine wk_region [0, 0, 0, 0, 0, 0] rfl Kx ?_
 simp only [qy]
 refine rg_move ?_
 simp only [qz]
 refine rf_indexA (n := 5) (sz := 1) (j := 5) rfl rfl rfl rfl UU166 Kx (by decide) rfl ?_
 simp only [qz]
 refine rf_load rfl rfl rfl UU140 rfl (fun w hw => (Kn.hd0 (Kn.tl hw)).at rfl) ?_
 simp only [qz]
 refine rf_shr (c := 63) (q := 9223372036854775808) rfl rfl rfl rfl rfl (by decide) ?_
 simp only [qz]
 refine rf_shl (c := 63) (q := 9223372036854775808) (r := x5 / 9223372036854775808 * 9223372036854775808) rfl rfl rfl rfl rfl (by decide) (wrap_okU Ox Ox) ?_
 simp only [qz]
 refine rg_assign ?_
 simp only [qz]
 refine rg_nil (ek_next (wk_seq (wk_seq ?_)))
 refine wk_region [0, 0, 0] rfl Kx ?_
 simp only [qy]
 refine rg_move ?_
 simp only [qz]
 refine rf_add (r := 6) rfl rfl rfl rfl (by decide) ?_
 simp only [qz]
 refine rf_lss (b := false) rfl rfl rfl rfl (by decide) ?_
 simp only [qz]
 refine rg_nil (ek_next (wk_cond_f rfl (wk_skip (ek_next ?_))))
 refine wk_region [0, 0, 0, 0, 0, 0, 0, 0, 1] rfl Kx ?_
 simp only [qy]
 refine rg_move ?_
 simp only [qz]
 refine rg_move ?_
 simp only [qz]
 refine rf_indexA (n := 5) (sz := 1) (j := 5) rfl rfl rfl rfl UU166 Kx (by decide) rfl ?_
 simp only [qz]
 refine rf_load rfl rfl rfl UU140 rfl (fun w hw => (Kn.hd0 (Kn.tl hw)).at rfl) ?_
 simp only [qz]
 refine rf_shr (c := 1) (q := 2) rfl rfl rfl rfl rfl (by decide) ?_
 simp only [qz]
 refine rg_move ?_
 simp only [qz]
 refine rf_or (r := x5 / 2 + x5 / 9223372036854775808 * 9223372036854775808) rfl rfl rfl rfl (or_high Ox Ox Ox) ?_
 simp only [qz]
 refine rf_indexA (n := 5) (sz := 1) (j := 5) rfl rfl rfl rfl UU166 Kx (by decide) rfl ?_
 simp only [qz]
 refine rf_store rfl rfl Kx rfl rfl (UpdR.there _ (UpdR.here _ _ _ Nl)) Nz ?_
 simp only [qz]
 refine rg_nil (ek_block (ek_next ?_))
 refine wk_region [0, 0] rfl Kx ?_
 simp only [qy]
 refine rf_add (r := 6) rfl rfl rfl rfl (by decide) ?_
 simp only [qz]
 refine rg_move ?_
 simp only [qz]
 refine rg_nil (ek_again (wk_seq ?_))
 refine wk_region [0] rfl Kx ?_
 simp only [qy]
 refine rf_lss (b := false) rfl rfl rfl rfl (by decide) ?_
 simp only [qz]
 refine rg_nil (ek_next (wk_seq (wk_cond_f rfl (wk_exit (ek_then_exit (ek_then_exit (ek_block_exit (ek_next (wk_seq ?_)))))))))
 refine wk_region [0, 1] rfl Kx ?_
 simp only [qy]
 refine rf_loadR (n := 6) rfl rfl rfl UU166 rfl Kx (fun w hw => Kn.hd0 (Kn.tl hw)) rfl rfl ?_
 simp only [qz]
 refine rf_storeR (n := 6) rfl rfl Kx rfl rfl (UpdR.here _ _ _ Nl) Nz ?_
 simp only [qz, Nat.reduceAdd]
 refine rg_nil (ek_next (wk_ret ?_))
 refine ek_ret (fun w hw => ⟨rfl, _, run_results1 rfl rfl (Kn.hd0 hw) UU166 rfl Kx, ?_⟩)
 (try simp only [qz])
 exact ⟨by rw [← heq.out] <;> rfl, hw.below⟩
theorem w6odd_any (m : Int) (w : World) : Calls Tryz.prog 146 #[w6V (W6.of m)] w fun e w' => e = .returned (.bool (decide (m % 2 = 1))) ∧ Below w.heap.size w w' := by
 go_enter Tryz.func146, Tryz.ntmps146
 refine wk_start ?_
 refine wk_seq ?_
 refine wk_region [1, 0] rfl Kx ?_
 simp only [qy]
 refine Rgn fun g1 => ?_
 simp only [qz]
 refine rg_assign ?_
 simp only [qz]
 refine rg_nil (ek_next (wk_seq ?_))
 refine wk_region [0, 0, 0, 0, 0] rfl Kx ?_
 simp only [qy]
 refine rf_indexA (n := 0) (sz := 1) (j := 0) rfl rfl rfl rfl UU166 Kx (by decide) rfl ?_
 simp only [qz]
 refine rf_load rfl rfl rfl UU140 rfl (fun w hw => (Kn.hd0 hw).at rfl) ?_
 simp only [qz]
 refine rf_and (r := (W6.of m).w0 % 2) rfl rfl rfl rfl (bit1 _) ?_
 simp only [qz]
 refine rf_eql rfl rfl rfl rfl rfl ?_
 simp only [qz]
 refine rg_assign ?_
 simp only [qz]
 refine rg_nil (ek_next (wk_ret ?_))
 refine ek_ret (fun w hw => ⟨rfl, _, res_t _ rfl, ?_⟩)
 (try simp only [qz])
 exact ⟨by rw [W6.odd_eq m], hw.below⟩
theorem w6_eqTop (x y : W6) (w : World) : (Op.equalIn 10000 166 (w6V x) (w6V y)).run Tryz.prog w = .ok (decide (x = y)) w := by
 have u3 := UU140
 have a3 := Tryz.isAgg140
 have z3 := Tryz.sizeOf140
 obtain ⟨x0, x1, x2, x3, x4, x5⟩ := x
 obtain ⟨y0, y1, y2, y3, y4, y5⟩ := y
 rw [show (10000 : Nat) = 9999 + 1 from rfl, Op.equalIn]
 simp only [Sem.run_bind, run_underlying UU166, Result.andThen_ok]
 simp only [Std.Legacy.Range.forIn_eq_forIn_range', Std.Legacy.Range.size, Nat.sub_zero, Nat.add_sub_cancel, Nat.div_one, List.range'_succ, List.range'_zero, List.forIn_cons, List.forIn_nil]
 go_simp
 by_cases h0 : x0 = y0
 ·by_cases h1 : x1 = y1
  ·by_cases h2 : x2 = y2
   ·by_cases h3 : x3 = y3
    ·by_cases h4 : x4 = y4
     ·by_cases h5 : x5 = y5 <;> simp [h0, h1, h2, h3, h4, h5]
     simp [h0, h1, h2, h3, h4]
    simp [h0, h1, h2, h3]
   simp [h0, h1, h2]
  simp [h0, h1]
 simp [h0]
theorem w6_guard (op : BinOp) (u v : Operand) (x y : W6) (w : World) : (eqGuard op 166 u v (w6V x) (w6V y)).run Tryz.prog w = .ok () w := by
 have h : (Tryz.prog.eqGuardType Tryz.prog.depth 166) = false := by kernel_rfl
 unfold eqGuard
 cases op <;> simp [h]
section
variable {R : Option Nat} {ops : Array Oper} {Q : Exit → Act → World → Prop} {B : World} {F : List Nat} {s0 : Option (List Blk × List Blk)} {P : Program}
variable {l : List (Oper × Nat)} {a : Act} {s : List Blk} {d : Option Tmp} {t : TypeId} {p : String} {af : Array Edge} {gd : Option (Nat × Bool)} {m : Nat}
theorem rfb_eqW {x y : Operand} {z : TypeId} (u v : W6) (hm : soft03 m = true) (hg : Region.wanted ⟨d, .binOp .eql 166 x y z, t, p, af, gd⟩ (yielded ops a.tmps) = true)
    (hx : a.eval x = w6V u) (hy : a.eval y = w6V v) (h : ∀ b, decide (u = v) = b → Rg R Tryz.prog ops Q B F s0 l (a.put d (.bool b)) s) : Rg R Tryz.prog ops Q B F s0 ((⟨d, .binOp .eql 166 x y z, t, p, af, gd⟩, m) :: l) a s := by
  refine rg_any hm hg (fun w => ?_) (h _ rfl)
  unfold Yld
  have hb : (binOp .eql 166 (w6V u) (w6V v)).run Tryz.prog w = .ok (.bool (decide (u = v))) w := by rw [run_eql_struct, w6_eqTop]; rfl
  have hgd := w6_guard .eql x y u v w
  show ((eqGuard .eql _ x y (a.eval x) (a.eval y) >>= fun _ => binOp .eql _ (a.eval x) (a.eval y)) >>= fun r => pure (Next.value r)).run Tryz.prog w = _
  rw [hx, hy, Sem.run_bind, Sem.run_bind, hgd, Result.andThen_ok, hb]
  rfl
theorem rfb_odd {T : TypeId} {x y : Operand} {z : TypeId} (i j : Int) (hu : P.underlying T = some .bool) (hm : soft03 m = true) (hg : Region.wanted ⟨d, .binOp .eql T x y z, t, p, af, gd⟩ (yielded ops a.tmps) = true)
    (hx : a.eval x = .bool (decide (i % 2 = 1))) (hy : a.eval y = .bool (decide (j % 2 = 1))) (h : ∀ b, decide ((i + j) % 2 = 0) = b → Rg R P ops Q B F s0 l (a.put d (.bool b)) s) : Rg R P ops Q B F s0 ((⟨d, .binOp .eql T x y z, t, p, af, gd⟩, m) :: l) a s := by
  refine rg_any hm hg (fun w => ?_) (h _ rfl)
  unfold Yld
  by_cases h1 : i % 2 = 1 <;> by_cases h2 : j % 2 = 1 <;> by_cases h3 : (i + j) % 2 = 0 <;> first | (exfalso; omega) | (simp [execOp, hx, hy, eqGuard, binOp, h1, h2, h3, run_equal_bool w T _ _ hu])
end
theorem w6small_any (m : Int) (hm : In384 m) (w : World) : Calls Tryz.prog 149 #[w6V (W6.of m)] w fun e w' => ∃ n, e = .returned (.tuple #[.int .i64 n, .bool (smB m)]) ∧ (smB m = true → n = m) ∧ Below w.heap.size w w' := by
 obtain ⟨n, hn⟩ : ∃ n, IntKind.i64.wrap (W6.of m).w0 = n := ⟨_, rfl⟩
 have hn2 := hn
 rw [IntKind.wrap_i64] at hn2
 have hnr : -9223372036854775808 ≤ n ∧ n < 9223372036854775808 := by omega
 have hmn : (m - n) % 18446744073709551616 = 0 := by (have : (W6.of m).w0 = m % 18446744073709551616 := rfl; omega)
 clear hn2
 go_enter Tryz.func149, Tryz.ntmps149
 refine wk_start ?_
 refine wk_seq ?_
 refine wk_region [1, 0, 0] rfl Kx ?_
 simp only [qy]
 refine Rgn fun g1 => ?_
 simp only [qz]
 refine rg_assign ?_
 simp only [qz]
 refine rg_assign ?_
 simp only [qz]
 refine rg_nil (ek_next (wk_seq ?_))
 refine wk_region [0, 0, 0, 0] rfl Kx ?_
 simp only [qy]
 refine rf_indexA (n := 0) (sz := 1) (j := 0) rfl rfl rfl rfl UU166 Kx (by decide) rfl ?_
 simp only [qz]
 refine rf_load rfl rfl rfl UU140 rfl (fun w hw => (Kn.hd0 hw).at rfl) ?_
 simp only [qz]
 refine rf_conv rfl rfl rfl UU140 UU3 (hn) ?_
 simp only [qz]
 refine rg_assign ?_
 simp only [qz]
 refine rg_nil (ek_next (wk_seq ?_))
 refine wk_draws _ _ [(0, 0), (1, 0), (3, 0), (2, 1), (4, 0), (5, 0), (6, 0), (7, 0), (8, 0), (9, 0), (10, 0), (11, 0), (12, 0), (13, 0), (14, 0)] [] Kx Kx (fun c d v a w h => by cases d <;> exact h) ((sc _ sn)) (fun e => by first | exact absurd e (by decide) | rfl) ?_
 simp only [List.map_cons, List.map_nil, List.getD_cons_zero, List.getD_cons_succ]
 refine rg_move ?_
 simp only [qz]
 refine rg_move ?_
 simp only [qz]
 refine rf_loadR (n := 6) rfl rfl rfl UU166 rfl Kx (fun w hw => Kn.hd0 hw) rfl rfl ?_
 simp only [qz]
 apply rg_pure Rx Kx
 case hargs => exact Ax
 case h => exact fun w hw => w6whole_any n Ox Ox w
 case hz => exact (fun _ h => by cases h; exact (sc _ sn))
 simp only [qz]
 refine rfb_eqW (W6.of n) (W6.of m) rfl rfl rfl rfl ?_
 intro x h1
 cases x
 ·(try simp only [qd, ne_eq] at h1)
  simp only [qz]
  have hnm : n ≠ m := fun e => h1 (by rw [e])
  refine rg_move ?_
  simp only [qz]
  refine rg_skip Rx ?_
  simp only [qz]
  refine rg_skip Rx ?_
  simp only [qz]
  refine rf_pick rfl rfl rfl ?_
  simp only [qz]
  refine rg_move ?_
  simp only [qz]
  refine rg_skip Rx ?_
  simp only [qz]
  refine rg_skip Rx ?_
  simp only [qz]
  refine rf_pick rfl rfl rfl ?_
  simp only [qz]
  refine rg_assign ?_
  simp only [qz]
  refine rg_assign ?_
  simp only [qz]
  refine rg_nil (ek_next (wk_ret ?_))
  refine ek_ret (fun w hw => ⟨rfl, _, res_tt _ _ rfl, ?_⟩)
  (try simp only [qz])
  exact ⟨n, by (have : smB m = _ := rfl; unfold smB; congr 3; simp; omega), (fun h => by simp [smB] at h; omega), hw.below⟩
 (try simp only [qd, ne_eq] at h1)
 simp only [qz]
 have hnm : n = m := W6.of_inj (by unfold In384; omega) hm h1
 refine rg_move ?_
 simp only [qz]
 apply rg_soft_g
 case hg => rfl
 case hy => (intro w hw; go_simp; (try go_bits); exact Yld.mk _ _)
 simp only [qz]
 refine rfb_geq rfl rfl rfl rfl ?_
 intro x h2
 cases x
 ·(try simp only [qd, ne_eq] at h2)
  simp only [qz]
  refine rf_pick rfl rfl rfl ?_
  simp only [qz]
  refine rg_move ?_
  simp only [qz]
  refine rg_skip Rx ?_
  simp only [qz]
  refine rg_skip Rx ?_
  simp only [qz]
  refine rf_pick rfl rfl rfl ?_
  simp only [qz]
  refine rg_assign ?_
  simp only [qz]
  refine rg_assign ?_
  simp only [qz]
  refine rg_nil (ek_next (wk_ret ?_))
  refine ek_ret (fun w hw => ⟨rfl, _, res_tt _ _ rfl, ?_⟩)
  (try simp only [qz])
  exact ⟨n, by (have : smB m = _ := rfl; unfold smB; congr 3; simp; omega), (fun h => by simp [smB] at h; omega), hw.below⟩
 (try simp only [qd, ne_eq] at h2)
 simp only [qz]
 refine rf_pick rfl rfl rfl ?_
 simp only [qz]
 refine rg_move ?_
 simp only [qz]
 apply rg_soft_g
 case hg => rfl
 case hy => (intro w hw; go_simp; (try go_bits); exact Yld.mk _ _)
 simp only [qz]
 refine rf_leq rfl rfl rfl rfl rfl ?_
 simp only [qz]
 refine rf_pick rfl rfl rfl ?_
 simp only [qz]
 refine rg_assign ?_
 simp only [qz]
 refine rg_assign ?_
 simp only [qz]
 refine rg_nil (ek_next (wk_ret ?_))
 refine ek_ret (fun w hw => ⟨rfl, _, res_tt _ _ rfl, ?_⟩)
 (try simp only [qz])
 exact ⟨n, by (have : smB m = _ := rfl; unfold smB; congr 3; simp; omega), (fun h => by simp [smB] at h; omega), hw.below⟩
theorem sm_ovr {T T' : Nat → Int} : setMany (smC T) 0 (smC T').toList = smC T' := by kernel_rfl
theorem co4_step (y : Nm) : co4 y.step = sel4 ((y.b + -y.d) / 2) ((y.a + y.c) / 2) ((y.b + y.d) / 2) ((y.c + -y.a) / 2) := by
 unfold co4 Nm.step
 dsimp only
 rw [Int.sub_eq_add_neg, Int.sub_eq_add_neg]
set_option maxHeartbeats 2000000 in
theorem reduced_sm (z : Nm) (hz : z.Fit 2462625387274654950767440006258975862817483704404090416746768337765357610718575663213391640930307227550414249394176) (hk : 0 ≤ z.k) (hk1 : z.k ≤ 100000) (w : World) : Calls Tryz.prog 129 #[.agg (smC (co4 z)), .int .i64 z.k] w fun e w' => e = .returned (.tuple #[nmV (wnum z).1, .bool (wnum z).2]) ∧ Below w.heap.size w w' := by
 have hB : In384 0 := by unfold In384; omega
 go_enter Tryz.func129, Tryz.ntmps129
 refine wk_start ?_
 refine wk_seq ?_
 refine wk_region [1, 1, 0] rfl Kx ?_
 simp only [qy]
 refine Rgn fun g1 => ?_
 simp only [qz]
 refine Rgn fun g2 => ?_
 simp only [qz]
 refine rg_assign ?_
 simp only [qz]
 refine rg_nil (ek_next ?_)
 refine wk_cutF [1, 6, 7, 8, 9, 15, 16, 17, 18, 19, 20, 21, 22, 23, 24, 25, 26, 27, 28, 29, 30, 31, 32, 33, 34, 35, 36, 37, 38, 39, 40, 41, 42, 43, 44, 45, 46, 47, 48, 49, 50, 51, 52, 53, 54, 55, 56, 57, 58, 59, 60, 61, 62, 63] (fun f s => ∃ (y : Nm), f 1 = .int .i64 y.k ∧ s = ((g2, .cells #[.int .i64 0, .int .i64 0, .int .i64 0, .int .i64 0, .int .i64 0] 44) :: ((g1, .cells (smC (co4 y)) 168) :: [])) ∧ Hid (z.nf = y) ∧ y.Fit 2462625387274654950767440006258975862817483704404090416746768337765357610718575663213391640930307227550414249394176 ∧ 0 ≤ y.k ∧ y.k ≤ 100000) ?_ ?_
 ·refine wk_block ?_
  refine wk_loopF [1, 6, 7, 8, 9, 15, 16, 17, 18, 19, 20, 21, 22, 23, 24, 25, 26, 27, 28, 29, 30, 31, 32, 33, 34, 35, 36, 37, 38, 39, 40, 41, 42, 43, 44, 45, 46, 47, 48, 49, 50, 51, 52, 53, 54, 55, 56, 57, 58, 59, 60, 61, 62, 63] (fun mz f s => ∃ (y : Nm), f 1 = .int .i64 y.k ∧ s = ((g2, .cells #[.int .i64 0, .int .i64 0, .int .i64 0, .int .i64 0, .int .i64 0] 44) :: ((g1, .cells (smC (co4 y)) 168) :: [])) ∧ mz = y.k.toNat ∧ Hid (y.nf = z.nf) ∧ y.Fit 2462625387274654950767440006258975862817483704404090416746768337765357610718575663213391640930307227550414249394176 ∧ 0 ≤ y.k ∧ y.k ≤ 100000) ((fun (y : Nm) => y.k.toNat) (z)) ?_ Kx ?_
  ·exact ⟨z, rfl, rfl, rfl, (Lib.hid rfl), hz, hk, hk1⟩
  rintro mz f1 s ⟨y, hs1_1, rfl, hn, hd1, hd2, hd3, hd4⟩
  simp only [Act.putF, List.foldl_cons, List.foldl_nil, hs1_1, Act.put, Act.eval, q1, q2, q3, q4, q5, q6, q7, q8, q9, q10, q11, q12, q13, q14, q15, q16, q17, q18, Nat.reduceAdd, Bool.not_true, Bool.not_false]
  clear hs1_1
  have hfa := hd2.a0; have hfa1 := hd2.a1; have hfb := hd2.b0; have hfb1 := hd2.b1; have hfc := hd2.c0; have hfc1 := hd2.c1; have hfd := hd2.d0; have hfd1 := hd2.d1
  refine wk_seq (wk_seq ?_)
  refine wk_draws _ _ [(0, 0), (1, 0), (2, 0), (3, 0), (4, 0), (6, 0), (7, 0), (5, 1), (8, 1), (9, 0), (10, 0), (11, 0), (12, 0), (13, 0), (15, 0), (16, 0), (14, 1), (17, 1), (18, 0), (19, 0)] [] Kx Kx (fun c d v a w h => by cases d <;> exact h) ((sc _ (sc _ sn))) (fun e => by first | exact absurd e (by decide) | rfl) ?_
  simp only [List.map_cons, List.map_nil, List.getD_cons_zero, List.getD_cons_succ]
  refine rg_move ?_
  simp only [qz]
  refine rfb_gtr rfl rfl rfl rfl ?_
  intro x h1
  cases x
  ·(try simp only [qd, ne_eq] at h1)
   simp only [qz]
   refine rg_move ?_
   simp only [qz]
   refine rg_skip Rx ?_
   simp only [qz]
   refine rg_skip Rx ?_
   simp only [qz]
   refine rg_skip Rx ?_
   simp only [qz]
   refine rg_skip Rx ?_
   simp only [qz]
   refine rg_skip_h Rx (fun _ h => by cases h; exact (sc _ (sc _ sn))) ?_
   simp only [qz]
   refine rg_skip_h Rx (fun _ h => by cases h; exact (sc _ (sc _ sn))) ?_
   simp only [qz]
   refine rg_skip Rx ?_
   simp only [qz]
   refine rf_pick rfl rfl rfl ?_
   simp only [qz]
   refine rg_move ?_
   simp only [qz]
   refine rg_skip Rx ?_
   simp only [qz]
   refine rg_skip Rx ?_
   simp only [qz]
   refine rg_skip Rx ?_
   simp only [qz]
   refine rg_skip Rx ?_
   simp only [qz]
   refine rg_skip_h Rx (fun _ h => by cases h; exact (sc _ (sc _ sn))) ?_
   simp only [qz]
   refine rg_skip_h Rx (fun _ h => by cases h; exact (sc _ (sc _ sn))) ?_
   simp only [qz]
   refine rg_skip Rx ?_
   simp only [qz]
   refine rf_pick rfl rfl rfl ?_
   simp only [qz]
   refine rg_nil (ek_next (wk_cond_f rfl (wk_exit (ek_then_exit (ek_then_exit (ek_block_exit ?_))))))
   refine ek_midF Kx ?_
   exact ⟨y, rfl, by rfl, (Lib.hid (by rw [← hd1.out]; exact nf_stop (by rintro ⟨h1, h2, h3⟩; omega))), hd2, hd3, hd4⟩
  (try simp only [qd, ne_eq] at h1)
  simp only [qz]
  refine rg_move ?_
  simp only [qz]
  refine rf_indexA (n := 0) (sz := 6) (j := 0) rfl rfl rfl rfl UU168 Kx (by decide) rfl ?_
  simp only [qz]
  refine rf_loadC (n := 6) (vs := w6L (W6.of ((co4 y) 0))) rfl rfl rfl UU166 rfl Kx rfl (fun w hw => sm_row (Kn.hd0 (Kn.tl hw)) Ox) ?_
  simp only [qz]
  refine rf_indexA (n := 2) (sz := 6) (j := 12) rfl rfl rfl rfl UU168 Kx (by decide) rfl ?_
  simp only [qz]
  refine rf_loadC (n := 6) (vs := w6L (W6.of ((co4 y) 2))) rfl rfl rfl UU166 rfl Kx rfl (fun w hw => sm_row (Kn.hd0 (Kn.tl hw)) Ox) ?_
  simp only [qz]
  apply rg_pure Rx Kx
  case hargs => exact Ax
  case h => exact fun w hw => w6odd_any y.a w
  case hz => exact (fun _ h => by cases h; exact (sc _ (sc _ sn)))
  simp only [qz]
  apply rg_pure Rx Kx
  case hargs => exact Ax
  case h => exact fun w hw => w6odd_any y.c w
  case hz => exact (fun _ h => by cases h; exact (sc _ (sc _ sn)))
  simp only [qz]
  refine rfb_odd y.a y.c UU4 rfl rfl rfl rfl ?_
  intro x h2
  cases x
  ·(try simp only [qd, ne_eq] at h2)
   simp only [qz]
   refine rf_pick rfl rfl rfl ?_
   simp only [qz]
   refine rg_move ?_
   simp only [qz]
   refine rg_skip Rx ?_
   simp only [qz]
   refine rg_skip Rx ?_
   simp only [qz]
   refine rg_skip Rx ?_
   simp only [qz]
   refine rg_skip Rx ?_
   simp only [qz]
   refine rg_skip_h Rx (fun _ h => by cases h; exact (sc _ (sc _ sn))) ?_
   simp only [qz]
   refine rg_skip_h Rx (fun _ h => by cases h; exact (sc _ (sc _ sn))) ?_
   simp only [qz]
   refine rg_skip Rx ?_
   simp only [qz]
   refine rf_pick rfl rfl rfl ?_
   simp only [qz]
   refine rg_nil (ek_next (wk_cond_f rfl (wk_exit (ek_then_exit (ek_then_exit (ek_block_exit ?_))))))
   refine ek_midF Kx ?_
   exact ⟨y, rfl, by rfl, (Lib.hid (by rw [← hd1.out]; exact nf_stop (by rintro ⟨h1, h2, h3⟩; omega))), hd2, hd3, hd4⟩
  (try simp only [qd, ne_eq] at h2)
  simp only [qz]
  refine rf_pick rfl rfl rfl ?_
  simp only [qz]
  refine rg_move ?_
  simp only [qz]
  refine rf_indexA (n := 1) (sz := 6) (j := 6) rfl rfl rfl rfl UU168 Kx (by decide) rfl ?_
  simp only [qz]
  refine rf_loadC (n := 6) (vs := w6L (W6.of ((co4 y) 1))) rfl rfl rfl UU166 rfl Kx rfl (fun w hw => sm_row (Kn.hd0 (Kn.tl hw)) Ox) ?_
  simp only [qz]
  refine rf_indexA (n := 3) (sz := 6) (j := 18) rfl rfl rfl rfl UU168 Kx (by decide) rfl ?_
  simp only [qz]
  refine rf_loadC (n := 6) (vs := w6L (W6.of ((co4 y) 3))) rfl rfl rfl UU166 rfl Kx rfl (fun w hw => sm_row (Kn.hd0 (Kn.tl hw)) Ox) ?_
  simp only [qz]
  apply rg_pure Rx Kx
  case hargs => exact Ax
  case h => exact fun w hw => w6odd_any y.b w
  case hz => exact (fun _ h => by cases h; exact (sc _ (sc _ sn)))
  simp only [qz]
  apply rg_pure Rx Kx
  case hargs => exact Ax
  case h => exact fun w hw => w6odd_any y.d w
  case hz => exact (fun _ h => by cases h; exact (sc _ (sc _ sn)))
  simp only [qz]
  refine rfb_odd y.b y.d UU4 rfl rfl rfl rfl ?_
  intro x h3
  cases x
  ·(try simp only [qd, ne_eq] at h3)
   simp only [qz]
   refine rf_pick rfl rfl rfl ?_
   simp only [qz]
   refine rg_nil (ek_next (wk_cond_f rfl (wk_exit (ek_then_exit (ek_then_exit (ek_block_exit ?_))))))
   refine ek_midF Kx ?_
   exact ⟨y, rfl, by rfl, (Lib.hid (by rw [← hd1.out]; exact nf_stop (by rintro ⟨h1, h2, h3⟩; omega))), hd2, hd3, hd4⟩
  (try simp only [qd, ne_eq] at h3)
  simp only [qz]
  refine rf_pick rfl rfl rfl ?_
  simp only [qz]
  refine rg_nil (ek_next (wk_cond_t rfl (wk_skip (ek_next (wk_block (wk_seq ?_))))))
  refine wk_rt _ Kx (sc _ (sc _ sn)) ?_
  refine rt_soft (i := 0) rfl Kx (fun c d v a w h => by cases d <;> exact h) (sc _ (sc _ sn)) ?_
  refine rf_indexA (n := 0) (sz := 6) (j := 0) rfl rfl rfl rfl UU168 Kx (by decide) rfl ?_
  simp only [qz]
  refine rg_nil ?_
  refine ek_rt (sc _ (sc _ sn)) ?_
  refine rt_soft (i := 1) rfl Kx (fun c d v a w h => by cases d <;> exact h) (sc _ (sc _ sn)) ?_
  refine rf_loadC (n := 6) (vs := w6L (W6.of ((co4 y) 0))) rfl rfl rfl UU166 rfl Kx rfl (fun w hw => sm_row (Kn.hd0 (Kn.tl hw)) Ox) ?_
  simp only [qz]
  refine rg_nil ?_
  refine ek_rt (sc _ (sc _ sn)) ?_
  refine rt_soft (i := 2) rfl Kx (fun c d v a w h => by cases d <;> exact h) (sc _ (sc _ sn)) ?_
  refine rf_indexA (n := 1) (sz := 6) (j := 6) rfl rfl rfl rfl UU168 Kx (by decide) rfl ?_
  simp only [qz]
  refine rg_nil ?_
  refine ek_rt (sc _ (sc _ sn)) ?_
  refine rt_soft (i := 3) rfl Kx (fun c d v a w h => by cases d <;> exact h) (sc _ (sc _ sn)) ?_
  refine rf_loadC (n := 6) (vs := w6L (W6.of ((co4 y) 1))) rfl rfl rfl UU166 rfl Kx rfl (fun w hw => sm_row (Kn.hd0 (Kn.tl hw)) Ox) ?_
  simp only [qz]
  refine rg_nil ?_
  refine ek_rt (sc _ (sc _ sn)) ?_
  refine rt_soft (i := 4) rfl Kx (fun c d v a w h => by cases d <;> exact h) (sc _ (sc _ sn)) ?_
  refine rf_indexA (n := 2) (sz := 6) (j := 12) rfl rfl rfl rfl UU168 Kx (by decide) rfl ?_
  simp only [qz]
  refine rg_nil ?_
  refine ek_rt (sc _ (sc _ sn)) ?_
  refine rt_soft (i := 5) rfl Kx (fun c d v a w h => by cases d <;> exact h) (sc _ (sc _ sn)) ?_
  refine rf_loadC (n := 6) (vs := w6L (W6.of ((co4 y) 2))) rfl rfl rfl UU166 rfl Kx rfl (fun w hw => sm_row (Kn.hd0 (Kn.tl hw)) Ox) ?_
  simp only [qz]
  refine rg_nil ?_
  refine ek_rt (sc _ (sc _ sn)) ?_
  refine rt_soft (i := 6) rfl Kx (fun c d v a w h => by cases d <;> exact h) (sc _ (sc _ sn)) ?_
  refine rf_indexA (n := 3) (sz := 6) (j := 18) rfl rfl rfl rfl UU168 Kx (by decide) rfl ?_
  simp only [qz]
  refine rg_nil ?_
  refine ek_rt (sc _ (sc _ sn)) ?_
  refine rt_soft (i := 7) rfl Kx (fun c d v a w h => by cases d <;> exact h) (sc _ (sc _ sn)) ?_
  refine rf_loadC (n := 6) (vs := w6L (W6.of ((co4 y) 3))) rfl rfl rfl UU166 rfl Kx rfl (fun w hw => sm_row (Kn.hd0 (Kn.tl hw)) Ox) ?_
  simp only [qz]
  refine rg_nil ?_
  refine ek_rt (sc _ (sc _ sn)) ?_
  refine rt_4 (T := 166) (z0 := #[.int .u64 0, .int .u64 0, .int .u64 0, .int .u64 0, .int .u64 0, .int .u64 0]) (c := sel4 (w6L (W6.of y.a)) (w6L (W6.of y.b)) (w6L (W6.of y.c)) (w6L (W6.of y.d))) Kx (by simp) (fun j hj => by rcases lt4 hj with rfl | rfl | rfl | rfl <;> exact ⟨⟨_, _, _, rfl⟩, ⟨_, _, _, rfl⟩⟩) (fun ev d ty p af w => by first | (go_simp; done) | (go_simp; rfl)) (fun j hj => by rcases lt4 hj with rfl | rfl | rfl | rfl <;> rfl) (fun j hj => by rcases lt4 hj with rfl | rfl | rfl | rfl <;> rfl) Kx (fun j hj => by rcases lt4 hj with rfl | rfl | rfl | rfl <;> rfl) (fun j hj => by rcases lt4 hj with rfl | rfl | rfl | rfl <;> kernel_rfl) rfl (fun ga gb gc gd => ?_)
  simp only [put4, sel4]
  simp only [qz, Nat.reduceAdd]
  refine ek_next (wk_seq ?_)
  have hev : y.even := ⟨by omega, by omega⟩
  refine wk_draws_m (hz1 := (sc _ (sc _ (sc _ (sc _ (sc _ (sk _ sn))))))) [(0, 0), (1, 0), (5, 0), (6, 0), (9, 0), (10, 0), (13, 0), (14, 0), (2, 1), (3, 1), (4, 1), (7, 1), (8, 1), (11, 1), (12, 1), (15, 1), (16, 1), (17, 1), (18, 0), (19, 2)] 19 Kx Kx (fun c d v a w h => by cases d <;> exact h) ?_
  simp only [List.map_cons, List.map_nil, List.getD_cons_zero, List.getD_cons_succ]
  refine rf_loadC (n := 6) (vs := w6L (W6.of y.b)) rfl rfl rfl UU166 rfl Kx rfl (fun w hw => cells_range (Kn.hd0 (Kn.tl hw)) 0 6) ?_
  simp only [qz]
  refine rf_loadC (n := 6) (vs := w6L (W6.of y.d)) rfl rfl rfl UU166 rfl Kx rfl (fun w hw => cells_range (Kn.hd0 (Kn.tl (Kn.tl (Kn.tl hw)))) 0 6) ?_
  simp only [qz]
  refine rf_loadC (n := 6) (vs := w6L (W6.of y.a)) rfl rfl rfl UU166 rfl Kx rfl (fun w hw => cells_range (Kn.hd0 hw) 0 6) ?_
  simp only [qz]
  refine rf_loadC (n := 6) (vs := w6L (W6.of y.c)) rfl rfl rfl UU166 rfl Kx rfl (fun w hw => cells_range (Kn.hd0 (Kn.tl (Kn.tl hw))) 0 6) ?_
  simp only [qz]
  refine rf_loadC (n := 6) (vs := w6L (W6.of y.b)) rfl rfl rfl UU166 rfl Kx rfl (fun w hw => cells_range (Kn.hd0 (Kn.tl hw)) 0 6) ?_
  simp only [qz]
  refine rf_loadC (n := 6) (vs := w6L (W6.of y.d)) rfl rfl rfl UU166 rfl Kx rfl (fun w hw => cells_range (Kn.hd0 (Kn.tl (Kn.tl (Kn.tl hw)))) 0 6) ?_
  simp only [qz]
  refine rf_loadC (n := 6) (vs := w6L (W6.of y.c)) rfl rfl rfl UU166 rfl Kx rfl (fun w hw => cells_range (Kn.hd0 (Kn.tl (Kn.tl hw))) 0 6) ?_
  simp only [qz]
  refine rf_loadC (n := 6) (vs := w6L (W6.of y.a)) rfl rfl rfl UU166 rfl Kx rfl (fun w hw => cells_range (Kn.hd0 hw) 0 6) ?_
  simp only [qz]
  apply rg_pure Rx Kx
  case hargs => exact Ax
  case h => exact fun w hw => w6neg_any (y.d) w
  case hz => exact (fun _ h => by cases h; exact (sc _ (sc _ (sc _ (sc _ (sc _ (sc _ sn)))))))
  simp only [qz]
  apply rg_pure Rx Kx
  case hargs => exact Ax
  case h => exact fun w hw => w6add_any (y.b) (-y.d) w
  case hz => exact (fun _ h => by cases h; exact (sc _ (sc _ (sc _ (sc _ (sc _ (sc _ sn)))))))
  simp only [qz]
  apply rg_pure Rx Kx
  case hargs => exact Ax
  case h => exact fun w hw => w6half_any (y.b + -y.d) (by unfold In384; omega) (by obtain ⟨e1, e2⟩ := hev; omega) w
  case hz => exact (fun _ h => by cases h; exact (sc _ (sc _ (sc _ (sc _ (sc _ (sc _ sn)))))))
  simp only [qz]
  apply rg_pure Rx Kx
  case hargs => exact Ax
  case h => exact fun w hw => w6add_any (y.a) (y.c) w
  case hz => exact (fun _ h => by cases h; exact (sc _ (sc _ (sc _ (sc _ (sc _ (sc _ sn)))))))
  simp only [qz]
  apply rg_pure Rx Kx
  case hargs => exact Ax
  case h => exact fun w hw => w6half_any (y.a + y.c) (by unfold In384; omega) (by obtain ⟨e1, e2⟩ := hev; omega) w
  case hz => exact (fun _ h => by cases h; exact (sc _ (sc _ (sc _ (sc _ (sc _ (sc _ sn)))))))
  simp only [qz]
  apply rg_pure Rx Kx
  case hargs => exact Ax
  case h => exact fun w hw => w6add_any (y.b) (y.d) w
  case hz => exact (fun _ h => by cases h; exact (sc _ (sc _ (sc _ (sc _ (sc _ (sc _ sn)))))))
  simp only [qz]
  apply rg_pure Rx Kx
  case hargs => exact Ax
  case h => exact fun w hw => w6half_any (y.b + y.d) (by unfold In384; omega) (by obtain ⟨e1, e2⟩ := hev; omega) w
  case hz => exact (fun _ h => by cases h; exact (sc _ (sc _ (sc _ (sc _ (sc _ (sc _ sn)))))))
  simp only [qz]
  apply rg_pure Rx Kx
  case hargs => exact Ax
  case h => exact fun w hw => w6neg_any (y.a) w
  case hz => exact (fun _ h => by cases h; exact (sc _ (sc _ (sc _ (sc _ (sc _ (sc _ sn)))))))
  simp only [qz]
  apply rg_pure Rx Kx
  case hargs => exact Ax
  case h => exact fun w hw => w6add_any (y.c) (-y.a) w
  case hz => exact (fun _ h => by cases h; exact (sc _ (sc _ (sc _ (sc _ (sc _ (sc _ sn)))))))
  simp only [qz]
  apply rg_pure Rx Kx
  case hargs => exact Ax
  case h => exact fun w hw => w6half_any (y.c + -y.a) (by unfold In384; omega) (by obtain ⟨e1, e2⟩ := hev; omega) w
  case hz => exact (fun _ h => by cases h; exact (sc _ (sc _ (sc _ (sc _ (sc _ (sc _ sn)))))))
  simp only [qz]
  refine rf_build (cs := fun _ => smC (sel4 ((y.b + -y.d) / 2) ((y.a + y.c) / 2) ((y.b + y.d) / 2) ((y.c + -y.a) / 2))) rfl rfl Kx ?_
  simp only [qz]
  refine rf_storeRM (n := 24) (vs := (smC (sel4 ((y.b + -y.d) / 2) ((y.a + y.c) / 2) ((y.b + y.d) / 2) ((y.c + -y.a) / 2))).toList) rfl rfl Kx rfl rfl (UpdR.there _ (UpdR.there _ (UpdR.there _ (UpdR.there _ (UpdR.there _ (UpdR.here _ _ _ Nl)))))) (sc _ (sc _ (sc _ (sc _ (sc _ (sk _ sn)))))) ?_
  simp only [qz, Nat.reduceAdd]
  refine rg_nil (ek_next ?_)
  refine wk_region [0, 0, 0] rfl Kx ?_
  simp only [qy]
  refine rg_move ?_
  simp only [qz]
  refine rf_sub rfl rfl rfl rfl (wrap_ok Ox Ox) ?_
  simp only [qz]
  refine rg_assign ?_
  simp only [qz]
  refine rg_nil (ek_block ?_)
  refine ek_sub (sk _ (sk _ (sk _ (sk _ (sc _ (sc _ sn)))))) ?_
  refine ek_roundF ((y.k - 1).toNat) Ox Kx ?_
  exact ⟨y.step, rfl, (by rw [sm_ovr, ← co4_step]), by rfl, (Lib.hid (by rw [← nf_step Ox hev, hd1.out])), (Nm.step_fit hd2), (by simp only [Nm.step]; omega), (by simp only [Nm.step]; omega)⟩
 rintro f1 s ⟨y, hs1_1, rfl, hm1, hm2, hm3, hm4⟩
 simp only [Act.putF, List.foldl_cons, List.foldl_nil, hs1_1, Act.put, Act.eval, q1, q2, q3, q4, q5, q6, q7, q8, q9, q10, q11, q12, q13, q14, q15, q16, q17, q18, Nat.reduceAdd, Bool.not_true, Bool.not_false]
 clear hs1_1
 have hfa := hm2.a0; have hfa1 := hm2.a1; have hfb := hm2.b0; have hfb1 := hm2.b1; have hfc := hm2.c0; have hfc1 := hm2.c1; have hfd := hm2.d0; have hfd1 := hm2.d1
 refine wk_seq ?_
 refine wk_region [0, 0, 1, 1] rfl Kx ?_
 simp only [qy]
 refine rg_move ?_
 simp only [qz]
 refine rf_build (cs := fun a => #[.int .i64 0, .int .i64 0, .int .i64 0, .int .i64 0, a.eval (.tmp 64)]) rfl rfl Kx ?_
 simp only [qz]
 refine Rgn fun g3 => ?_
 simp only [qz]
 refine rf_storeR (n := 5) rfl rfl Kx rfl rfl (UpdR.here _ _ _ Nl) Nz ?_
 simp only [qz, Nat.reduceAdd]
 refine rg_nil (ek_next (wk_seq (wk_seq ?_)))
 refine wk_region [0, 0] rfl Kx ?_
 simp only [qy]
 refine rf_loadC (n := 24) (vs := (smC (co4 y)).toList) rfl rfl rfl UU168 rfl Kx rfl (fun w hw => sm_all (Kn.hd0 (Kn.tl (Kn.tl hw)))) ?_
 rw [show (smC (co4 y)).toList.toArray = smC (co4 y) by simp]
 simp only [qz]
 refine rg_move ?_
 simp only [qz]
 refine rg_nil (ek_next (wk_block ?_))
 refine wk_unroll 4 ?_
 refine wk_seq ?_
 refine wk_region [0] rfl Kx ?_
 simp only [qy]
 refine rf_lss (b := true) rfl rfl rfl rfl (by decide) ?_
 simp only [qz]
 refine rg_nil (ek_next (wk_seq (wk_cond_t rfl (wk_skip (ek_next (wk_seq (wk_block (wk_seq ?_))))))))
 refine wk_region [0, 0, 1, 0, 1] rfl Kx ?_
 simp only [qy]
 refine rg_move ?_
 simp only [qz]
 refine rf_idxR (n := 0) (sz := 6) rfl rfl rfl rfl UU168 UU166 rfl Kx (by decide) (sm_idx (by decide)) ?_
 simp only [qz]
 refine Rgn fun g4 => ?_
 simp only [qz]
 refine rg_assign ?_
 simp only [qz]
 refine rf_storeR (n := 6) rfl rfl Kx rfl rfl (UpdR.here _ _ _ Nl) Nz ?_
 simp only [qz, Nat.reduceAdd]
 refine rg_nil (ek_next (wk_seq ?_))
 refine wk_region [0, 1, 0, 0, 0, 0, 0] rfl Kx ?_
 simp only [qy]
 refine rf_loadR (n := 6) rfl rfl rfl UU166 rfl Kx (fun w hw => Kn.hd0 hw) rfl rfl ?_
 simp only [qz]
 apply rg_or (X := fun v => ∃ n, v = .tuple #[.int .i64 n, .bool (smB y.a)] ∧ (smB y.a = true → n = y.a)) Rx Kx
 case hargs => exact Ax
 case h => exact fun w hw => (w6small_any y.a (by unfold In384; omega) w).mono (fun e w' ⟨n, he, hn, hb⟩ => ⟨_, he, ⟨n, rfl, hn⟩, hb⟩)
 case hz => exact Nz
 rintro _ ⟨n, rfl, hn⟩
 rcases hsa : smB y.a with _ | _
 ·clear hn
  simp only [qz]
  refine rg_move ?_
  simp only [qz]
  refine rf_extract rfl rfl rfl rfl ?_
  simp only [qz]
  refine rf_extract rfl rfl rfl rfl ?_
  simp only [qz]
  refine rg_assign ?_
  simp only [qz]
  refine rg_assign ?_
  simp only [qz]
  refine rg_nil (ek_next (wk_seq (wk_seq ?_)))
  refine wk_region [0, 0] rfl Kx ?_
  simp only [qy]
  refine rg_move ?_
  simp only [qz]
  refine rf_not rfl rfl rfl ?_
  simp only [qz]
  refine rg_nil (ek_next (wk_cond_t rfl (wk_seq ?_)))
  refine wk_region [0, 1, 0] rfl Kx ?_
  simp only [qy]
  refine rf_build (cs := fun a => #[.int .i64 0, .int .i64 0, .int .i64 0, .int .i64 0, .int .i64 0]) rfl rfl Kx ?_
  simp only [qz]
  refine rf_storeR (n := 5) rfl rfl Kx rfl rfl (UpdR.there _ (UpdR.there _ (UpdR.here _ _ _ Nl))) Nz ?_
  simp only [qz, Nat.reduceAdd]
  refine rg_assign ?_
  simp only [qz]
  refine rg_nil (ek_next (wk_ret (ek_then_ret (ek_block_ret (ek_then_ret (ek_then_ret (ek_block_ret (ek_then_ret ?_))))))))
  refine ek_ret (fun w hw => ⟨rfl, _, run_results2 rfl rfl (Kn.hd0 (Kn.tl (Kn.tl hw))) UU44 rfl Kx, ?_⟩)
  (try simp only [qz])
  exact ⟨by unfold wnum; rw [hm1.out, if_neg (by unfold numOk; simp [hsa])]; rfl, hw.below⟩
 rw [hsa] at hn
 obtain rfl := hn rfl
 simp only [qz]
 refine rg_move ?_
 simp only [qz]
 refine rf_extract rfl rfl rfl rfl ?_
 simp only [qz]
 refine rf_extract rfl rfl rfl rfl ?_
 simp only [qz]
 refine rg_assign ?_
 simp only [qz]
 refine rg_assign ?_
 simp only [qz]
 refine rg_nil (ek_next (wk_seq (wk_seq ?_)))
 refine wk_region [0, 0] rfl Kx ?_
 simp only [qy]
 refine rg_move ?_
 simp only [qz]
 refine rf_not rfl rfl rfl ?_
 simp only [qz]
 refine rg_nil (ek_next (wk_cond_f rfl (wk_skip (ek_next ?_))))
 refine wk_region [0, 0, 0, 0, 1] rfl Kx ?_
 simp only [qy]
 refine rg_move ?_
 simp only [qz]
 refine rg_move ?_
 simp only [qz]
 refine rf_field (n := 3) (j := 0) rfl rfl rfl UU44 rfl Kx rfl ?_
 simp only [qz]
 refine rf_indexA (n := 0) (sz := 1) (j := 0) rfl rfl rfl rfl UU42 Kx (by decide) rfl ?_
 simp only [qz]
 refine rf_store rfl rfl Kx rfl rfl (UpdR.there _ (UpdR.here _ _ _ Nl)) Nz ?_
 simp only [qz]
 refine rg_nil (ek_block (ek_next ?_))
 refine wk_region [0, 0] rfl Kx ?_
 simp only [qy]
 refine rf_add (r := 1) rfl rfl rfl rfl (by decide) ?_
 simp only [qz]
 refine rg_move ?_
 simp only [qz]
 refine rg_nil (ek_again (wk_seq ?_))
 refine wk_region [0] rfl Kx ?_
 simp only [qy]
 refine rf_lss (b := true) rfl rfl rfl rfl (by decide) ?_
 simp only [qz]
 refine rg_nil (ek_next (wk_seq (wk_cond_t rfl (wk_skip (ek_next (wk_seq (wk_block (wk_seq ?_))))))))
 refine wk_region [0, 0, 1, 0, 1] rfl Kx ?_
 simp only [qy]
 refine rg_move ?_
 simp only [qz]
 refine rf_idxR (n := 1) (sz := 6) rfl rfl rfl rfl UU168 UU166 rfl Kx (by decide) (sm_idx (by decide)) ?_
 simp only [qz]
 refine Rgn fun g5 => ?_
 simp only [qz]
 refine rg_assign ?_
 simp only [qz]
 refine rf_storeR (n := 6) rfl rfl Kx rfl rfl (UpdR.here _ _ _ Nl) Nz ?_
 simp only [qz, Nat.reduceAdd]
 refine rg_nil (ek_next (wk_seq ?_))
 refine wk_region [0, 1, 0, 0, 0, 0, 0] rfl Kx ?_
 simp only [qy]
 refine rf_loadR (n := 6) rfl rfl rfl UU166 rfl Kx (fun w hw => Kn.hd0 hw) rfl rfl ?_
 simp only [qz]
 apply rg_or (X := fun v => ∃ n, v = .tuple #[.int .i64 n, .bool (smB y.b)] ∧ (smB y.b = true → n = y.b)) Rx Kx
 case hargs => exact Ax
 case h => exact fun w hw => (w6small_any y.b (by unfold In384; omega) w).mono (fun e w' ⟨n, he, hn, hb⟩ => ⟨_, he, ⟨n, rfl, hn⟩, hb⟩)
 case hz => exact Nz
 rintro _ ⟨n, rfl, hn⟩
 rcases hsb : smB y.b with _ | _
 ·clear hn
  simp only [qz]
  refine rg_move ?_
  simp only [qz]
  refine rf_extract rfl rfl rfl rfl ?_
  simp only [qz]
  refine rf_extract rfl rfl rfl rfl ?_
  simp only [qz]
  refine rg_assign ?_
  simp only [qz]
  refine rg_assign ?_
  simp only [qz]
  refine rg_nil (ek_next (wk_seq (wk_seq ?_)))
  refine wk_region [0, 0] rfl Kx ?_
  simp only [qy]
  refine rg_move ?_
  simp only [qz]
  refine rf_not rfl rfl rfl ?_
  simp only [qz]
  refine rg_nil (ek_next (wk_cond_t rfl (wk_seq ?_)))
  refine wk_region [0, 1, 0] rfl Kx ?_
  simp only [qy]
  refine rf_build (cs := fun a => #[.int .i64 0, .int .i64 0, .int .i64 0, .int .i64 0, .int .i64 0]) rfl rfl Kx ?_
  simp only [qz]
  refine rf_storeR (n := 5) rfl rfl Kx rfl rfl (UpdR.there _ (UpdR.there _ (UpdR.there _ (UpdR.here _ _ _ Nl)))) Nz ?_
  simp only [qz, Nat.reduceAdd]
  refine rg_assign ?_
  simp only [qz]
  refine rg_nil (ek_next (wk_ret (ek_then_ret (ek_block_ret (ek_then_ret (ek_then_ret (ek_block_ret (ek_then_ret ?_))))))))
  refine ek_ret (fun w hw => ⟨rfl, _, run_results2 rfl rfl (Kn.hd0 (Kn.tl (Kn.tl (Kn.tl hw)))) UU44 rfl Kx, ?_⟩)
  (try simp only [qz])
  exact ⟨by unfold wnum; rw [hm1.out, if_neg (by unfold numOk; simp [hsb])]; rfl, hw.below⟩
 rw [hsb] at hn
 obtain rfl := hn rfl
 simp only [qz]
 refine rg_move ?_
 simp only [qz]
 refine rf_extract rfl rfl rfl rfl ?_
 simp only [qz]
 refine rf_extract rfl rfl rfl rfl ?_
 simp only [qz]
 refine rg_assign ?_
 simp only [qz]
 refine rg_assign ?_
 simp only [qz]
 refine rg_nil (ek_next (wk_seq (wk_seq ?_)))
 refine wk_region [0, 0] rfl Kx ?_
 simp only [qy]
 refine rg_move ?_
 simp only [qz]
 refine rf_not rfl rfl rfl ?_
 simp only [qz]
 refine rg_nil (ek_next (wk_cond_f rfl (wk_skip (ek_next ?_))))
 refine wk_region [0, 0, 0, 0, 1] rfl Kx ?_
 simp only [qy]
 refine rg_move ?_
 simp only [qz]
 refine rg_move ?_
 simp only [qz]
 refine rf_field (n := 3) (j := 0) rfl rfl rfl UU44 rfl Kx rfl ?_
 simp only [qz]
 refine rf_indexA (n := 1) (sz := 1) (j := 1) rfl rfl rfl rfl UU42 Kx (by decide) rfl ?_
 simp only [qz]
 refine rf_store rfl rfl Kx rfl rfl (UpdR.there _ (UpdR.there _ (UpdR.here _ _ _ Nl))) Nz ?_
 simp only [qz]
 refine rg_nil (ek_block (ek_next ?_))
 refine wk_region [0, 0] rfl Kx ?_
 simp only [qy]
 refine rf_add (r := 2) rfl rfl rfl rfl (by decide) ?_
 simp only [qz]
 refine rg_move ?_
 simp only [qz]
 refine rg_nil (ek_again (wk_seq ?_))
 refine wk_region [0] rfl Kx ?_
 simp only [qy]
 refine rf_lss (b := true) rfl rfl rfl rfl (by decide) ?_
 simp only [qz]
 refine rg_nil (ek_next (wk_seq (wk_cond_t rfl (wk_skip (ek_next (wk_seq (wk_block (wk_seq ?_))))))))
 refine wk_region [0, 0, 1, 0, 1] rfl Kx ?_
 simp only [qy]
 refine rg_move ?_
 simp only [qz]
 refine rf_idxR (n := 2) (sz := 6) rfl rfl rfl rfl UU168 UU166 rfl Kx (by decide) (sm_idx (by decide)) ?_
 simp only [qz]
 refine Rgn fun g6 => ?_
 simp only [qz]
 refine rg_assign ?_
 simp only [qz]
 refine rf_storeR (n := 6) rfl rfl Kx rfl rfl (UpdR.here _ _ _ Nl) Nz ?_
 simp only [qz, Nat.reduceAdd]
 refine rg_nil (ek_next (wk_seq ?_))
 refine wk_region [0, 1, 0, 0, 0, 0, 0] rfl Kx ?_
 simp only [qy]
 refine rf_loadR (n := 6) rfl rfl rfl UU166 rfl Kx (fun w hw => Kn.hd0 hw) rfl rfl ?_
 simp only [qz]
 apply rg_or (X := fun v => ∃ n, v = .tuple #[.int .i64 n, .bool (smB y.c)] ∧ (smB y.c = true → n = y.c)) Rx Kx
 case hargs => exact Ax
 case h => exact fun w hw => (w6small_any y.c (by unfold In384; omega) w).mono (fun e w' ⟨n, he, hn, hb⟩ => ⟨_, he, ⟨n, rfl, hn⟩, hb⟩)
 case hz => exact Nz
 rintro _ ⟨n, rfl, hn⟩
 rcases hsc : smB y.c with _ | _
 ·clear hn
  simp only [qz]
  refine rg_move ?_
  simp only [qz]
  refine rf_extract rfl rfl rfl rfl ?_
  simp only [qz]
  refine rf_extract rfl rfl rfl rfl ?_
  simp only [qz]
  refine rg_assign ?_
  simp only [qz]
  refine rg_assign ?_
  simp only [qz]
  refine rg_nil (ek_next (wk_seq (wk_seq ?_)))
  refine wk_region [0, 0] rfl Kx ?_
  simp only [qy]
  refine rg_move ?_
  simp only [qz]
  refine rf_not rfl rfl rfl ?_
  simp only [qz]
  refine rg_nil (ek_next (wk_cond_t rfl (wk_seq ?_)))
  refine wk_region [0, 1, 0] rfl Kx ?_
  simp only [qy]
  refine rf_build (cs := fun a => #[.int .i64 0, .int .i64 0, .int .i64 0, .int .i64 0, .int .i64 0]) rfl rfl Kx ?_
  simp only [qz]
  refine rf_storeR (n := 5) rfl rfl Kx rfl rfl (UpdR.there _ (UpdR.there _ (UpdR.there _ (UpdR.there _ (UpdR.here _ _ _ Nl))))) Nz ?_
  simp only [qz, Nat.reduceAdd]
  refine rg_assign ?_
  simp only [qz]
  refine rg_nil (ek_next (wk_ret (ek_then_ret (ek_block_ret (ek_then_ret (ek_then_ret (ek_block_ret (ek_then_ret ?_))))))))
  refine ek_ret (fun w hw => ⟨rfl, _, run_results2 rfl rfl (Kn.hd0 (Kn.tl (Kn.tl (Kn.tl (Kn.tl hw))))) UU44 rfl Kx, ?_⟩)
  (try simp only [qz])
  exact ⟨by unfold wnum; rw [hm1.out, if_neg (by unfold numOk; simp [hsc])]; rfl, hw.below⟩
 rw [hsc] at hn
 obtain rfl := hn rfl
 simp only [qz]
 refine rg_move ?_
 simp only [qz]
 refine rf_extract rfl rfl rfl rfl ?_
 simp only [qz]
 refine rf_extract rfl rfl rfl rfl ?_
 simp only [qz]
 refine rg_assign ?_
 simp only [qz]
 refine rg_assign ?_
 simp only [qz]
 refine rg_nil (ek_next (wk_seq (wk_seq ?_)))
 refine wk_region [0, 0] rfl Kx ?_
 simp only [qy]
 refine rg_move ?_
 simp only [qz]
 refine rf_not rfl rfl rfl ?_
 simp only [qz]
 refine rg_nil (ek_next (wk_cond_f rfl (wk_skip (ek_next ?_))))
 refine wk_region [0, 0, 0, 0, 1] rfl Kx ?_
 simp only [qy]
 refine rg_move ?_
 simp only [qz]
 refine rg_move ?_
 simp only [qz]
 refine rf_field (n := 3) (j := 0) rfl rfl rfl UU44 rfl Kx rfl ?_
 simp only [qz]
 refine rf_indexA (n := 2) (sz := 1) (j := 2) rfl rfl rfl rfl UU42 Kx (by decide) rfl ?_
 simp only [qz]
 refine rf_store rfl rfl Kx rfl rfl (UpdR.there _ (UpdR.there _ (UpdR.there _ (UpdR.here _ _ _ Nl)))) Nz ?_
 simp only [qz]
 refine rg_nil (ek_block (ek_next ?_))
 refine wk_region [0, 0] rfl Kx ?_
 simp only [qy]
 refine rf_add (r := 3) rfl rfl rfl rfl (by decide) ?_
 simp only [qz]
 refine rg_move ?_
 simp only [qz]
 refine rg_nil (ek_again (wk_seq ?_))
 refine wk_region [0] rfl Kx ?_
 simp only [qy]
 refine rf_lss (b := true) rfl rfl rfl rfl (by decide) ?_
 simp only [qz]
 refine rg_nil (ek_next (wk_seq (wk_cond_t rfl (wk_skip (ek_next (wk_seq (wk_block (wk_seq ?_))))))))
 refine wk_region [0, 0, 1, 0, 1] rfl Kx ?_
 simp only [qy]
 refine rg_move ?_
 simp only [qz]
 refine rf_idxR (n := 3) (sz := 6) rfl rfl rfl rfl UU168 UU166 rfl Kx (by decide) (sm_idx (by decide)) ?_
 simp only [qz]
 refine Rgn fun g7 => ?_
 simp only [qz]
 refine rg_assign ?_
 simp only [qz]
 refine rf_storeR (n := 6) rfl rfl Kx rfl rfl (UpdR.here _ _ _ Nl) Nz ?_
 simp only [qz, Nat.reduceAdd]
 refine rg_nil (ek_next (wk_seq ?_))
 refine wk_region [0, 1, 0, 0, 0, 0, 0] rfl Kx ?_
 simp only [qy]
 refine rf_loadR (n := 6) rfl rfl rfl UU166 rfl Kx (fun w hw => Kn.hd0 hw) rfl rfl ?_
 simp only [qz]
 apply rg_or (X := fun v => ∃ n, v = .tuple #[.int .i64 n, .bool (smB y.d)] ∧ (smB y.d = true → n = y.d)) Rx Kx
 case hargs => exact Ax
 case h => exact fun w hw => (w6small_any y.d (by unfold In384; omega) w).mono (fun e w' ⟨n, he, hn, hb⟩ => ⟨_, he, ⟨n, rfl, hn⟩, hb⟩)
 case hz => exact Nz
 rintro _ ⟨n, rfl, hn⟩
 rcases hsd : smB y.d with _ | _
 ·clear hn
  simp only [qz]
  refine rg_move ?_
  simp only [qz]
  refine rf_extract rfl rfl rfl rfl ?_
  simp only [qz]
  refine rf_extract rfl rfl rfl rfl ?_
  simp only [qz]
  refine rg_assign ?_
  simp only [qz]
  refine rg_assign ?_
  simp only [qz]
  refine rg_nil (ek_next (wk_seq (wk_seq ?_)))
  refine wk_region [0, 0] rfl Kx ?_
  simp only [qy]
  refine rg_move ?_
  simp only [qz]
  refine rf_not rfl rfl rfl ?_
  simp only [qz]
  refine rg_nil (ek_next (wk_cond_t rfl (wk_seq ?_)))
  refine wk_region [0, 1, 0] rfl Kx ?_
  simp only [qy]
  refine rf_build (cs := fun a => #[.int .i64 0, .int .i64 0, .int .i64 0, .int .i64 0, .int .i64 0]) rfl rfl Kx ?_
  simp only [qz]
  refine rf_storeR (n := 5) rfl rfl Kx rfl rfl (UpdR.there _ (UpdR.there _ (UpdR.there _ (UpdR.there _ (UpdR.there _ (UpdR.here _ _ _ Nl)))))) Nz ?_
  simp only [qz, Nat.reduceAdd]
  refine rg_assign ?_
  simp only [qz]
  refine rg_nil (ek_next (wk_ret (ek_then_ret (ek_block_ret (ek_then_ret (ek_then_ret (ek_block_ret (ek_then_ret ?_))))))))
  refine ek_ret (fun w hw => ⟨rfl, _, run_results2 rfl rfl (Kn.hd0 (Kn.tl (Kn.tl (Kn.tl (Kn.tl (Kn.tl hw)))))) UU44 rfl Kx, ?_⟩)
  (try simp only [qz])
  exact ⟨by unfold wnum; rw [hm1.out, if_neg (by unfold numOk; simp [hsd])]; rfl, hw.below⟩
 rw [hsd] at hn
 obtain rfl := hn rfl
 simp only [qz]
 refine rg_move ?_
 simp only [qz]
 refine rf_extract rfl rfl rfl rfl ?_
 simp only [qz]
 refine rf_extract rfl rfl rfl rfl ?_
 simp only [qz]
 refine rg_assign ?_
 simp only [qz]
 refine rg_assign ?_
 simp only [qz]
 refine rg_nil (ek_next (wk_seq (wk_seq ?_)))
 refine wk_region [0, 0] rfl Kx ?_
 simp only [qy]
 refine rg_move ?_
 simp only [qz]
 refine rf_not rfl rfl rfl ?_
 simp only [qz]
 refine rg_nil (ek_next (wk_cond_f rfl (wk_skip (ek_next ?_))))
 refine wk_region [0, 0, 0, 0, 1] rfl Kx ?_
 simp only [qy]
 refine rg_move ?_
 simp only [qz]
 refine rg_move ?_
 simp only [qz]
 refine rf_field (n := 3) (j := 0) rfl rfl rfl UU44 rfl Kx rfl ?_
 simp only [qz]
 refine rf_indexA (n := 3) (sz := 1) (j := 3) rfl rfl rfl rfl UU42 Kx (by decide) rfl ?_
 simp only [qz]
 refine rf_store rfl rfl Kx rfl rfl (UpdR.there _ (UpdR.there _ (UpdR.there _ (UpdR.there _ (UpdR.here _ _ _ Nl))))) Nz ?_
 simp only [qz]
 refine rg_nil (ek_block (ek_next ?_))
 refine wk_region [0, 0] rfl Kx ?_
 simp only [qy]
 refine rf_add (r := 4) rfl rfl rfl rfl (by decide) ?_
 simp only [qz]
 refine rg_move ?_
 simp only [qz]
 refine rg_nil (ek_again (wk_seq ?_))
 refine wk_region [0] rfl Kx ?_
 simp only [qy]
 refine rf_lss (b := false) rfl rfl rfl rfl (by decide) ?_
 simp only [qz]
 refine rg_nil (ek_next (wk_seq (wk_cond_f rfl (wk_exit (ek_then_exit (ek_then_exit (ek_block_exit (ek_next (wk_seq ?_)))))))))
 refine wk_region [0, 0, 0, 1, 0] rfl Kx ?_
 simp only [qy]
 refine rf_loadR (n := 5) rfl rfl rfl UU44 rfl Kx (fun w hw => Kn.hd0 (Kn.tl (Kn.tl (Kn.tl (Kn.tl hw))))) rfl rfl ?_
 simp only [qz]
 refine rg_move ?_
 simp only [qz]
 refine rf_leq rfl rfl rfl rfl rfl ?_
 simp only [qz]
 refine rf_storeR (n := 5) rfl rfl Kx rfl rfl (UpdR.there _ (UpdR.there _ (UpdR.there _ (UpdR.there _ (UpdR.there _ (UpdR.here _ _ _ Nl)))))) Nz ?_
 simp only [qz, Nat.reduceAdd]
 refine rg_assign ?_
 simp only [qz]
 refine rg_nil (ek_next (wk_ret ?_))
 refine ek_ret (fun w hw => ⟨rfl, _, run_results2 rfl rfl (Kn.hd0 (Kn.tl (Kn.tl (Kn.tl (Kn.tl (Kn.tl hw)))))) UU44 rfl Kx, ?_⟩)
 (try simp only [qz])
 exact ⟨by unfold wnum; rw [hm1.out, if_pos (by unfold numOk; simp [hsa, hsb, hsc, hsd])]; rfl, hw.below⟩
theorem and_u (x : Int) (m : Nat) (h0 : 0 ≤ x) (h1 : x < 18446744073709551616) (hm : m < 18446744073709551616) : bits .and .u64 x (m : Int) = ((x.toNat &&& m : Nat) : Int) := by
 show IntKind.u64.wrap ((BitVec.ofInt 64 x &&& BitVec.ofInt 64 (m : Int)).toNat : Int) = _
 have e1 : (BitVec.ofInt 64 x).toNat = x.toNat := by rw [BitVec.toNat_ofInt]; omega
 have e2 : (BitVec.ofInt 64 (m : Int)).toNat = m := by rw [BitVec.toNat_ofInt]; omega
 have e3 : x.toNat &&& m ≤ x.toNat := Nat.and_le_left
 rw [BitVec.toNat_and, e1, e2, IntKind.wrap_u64]
 omega
theorem and127 (x : Int) : bits .and .i64 x 127 = x % 128 := and_mask x 7 (by decide)
def pc (S : Nat) : Nat := (S.testBit 0).toNat + (S.testBit 1).toNat + (S.testBit 2).toNat + (S.testBit 3).toNat + (S.testBit 4).toNat + (S.testBit 5).toNat
def oc (S : Nat) : Nat :=
  let c1 : Int := ((((S : Int) / 2).toNat &&& 6148914691236517205 : Nat) : Int) + (((S : Int).toNat &&& 6148914691236517205 : Nat) : Int)
  let c2 : Int := (((c1 / 4).toNat &&& 3689348814741910323 : Nat) : Int) + ((c1.toNat &&& 3689348814741910323 : Nat) : Int)
  let c3 : Int := (((c2 / 16 + c2).toNat &&& 1085102592571150095 : Nat) : Int)
  let c4 : Int := c3 + c3 / 256
  let c5 : Int := c4 + c4 / 65536
  let c6 : Int := c5 + c5 / 4294967296
  (c6 % 128).toNat
theorem oc_all : ((List.range 64).all fun S => decide (oc S = pc S)) = true := by kernel_rfl
theorem oc_pc {S : Nat} (h : S < 64) : oc S = pc S := of_decide_eq_true (List.all_eq_true.1 oc_all S (List.mem_range.2 h))
theorem ones64_any (S : Nat) (hS : S < 64) (w : World) : Calls Tryz.prog 143 #[.int .u64 S] w fun e w' => e = .returned (.int .i64 (pc S)) ∧ Below w.heap.size w w' := by
 go_enter Tryz.func143, Tryz.ntmps143
 refine wk_start ?_
 refine wk_seq ?_
 refine wk_region [0] rfl Kx ?_
 simp only [qy]
 refine rg_assign ?_
 simp only [qz]
 refine rg_nil (ek_next (wk_seq ?_))
 refine wk_region [0, 0, 0, 0, 0, 0, 0] rfl Kx ?_
 simp only [qy]
 refine rg_move ?_
 simp only [qz]
 refine rf_shr (c := 1) (q := 2) rfl rfl rfl rfl rfl (by decide) ?_
 simp only [qz]
 obtain ⟨a1, ha1⟩ : ∃ A : Nat, (((S : Int) / 2).toNat &&& 6148914691236517205 : Nat) = A := ⟨_, rfl⟩
 have ba1 : a1 ≤ ((S : Int) / 2).toNat := ha1 ▸ Nat.and_le_left
 refine rf_and (r := (a1 : Int)) rfl rfl rfl rfl ((and_u ((S : Int) / 2) 6148914691236517205 Ox Ox (by decide)).trans (by rw [ha1])) ?_
 simp only [qz]
 refine rg_move ?_
 simp only [qz]
 obtain ⟨b1, hb1⟩ : ∃ A : Nat, (((S : Int)).toNat &&& 6148914691236517205 : Nat) = A := ⟨_, rfl⟩
 have bb1 : b1 ≤ ((S : Int)).toNat := hb1 ▸ Nat.and_le_left
 refine rf_and (r := (b1 : Int)) rfl rfl rfl rfl ((and_u ((S : Int)) 6148914691236517205 Ox Ox (by decide)).trans (by rw [hb1])) ?_
 simp only [qz]
 refine rf_add rfl rfl rfl rfl (wrap_okU Ox Ox) ?_
 simp only [qz]
 refine rg_assign ?_
 simp only [qz]
 refine rg_nil (ek_next (wk_seq ?_))
 refine wk_region [0, 0, 0, 0, 0, 0, 0] rfl Kx ?_
 simp only [qy]
 refine rg_move ?_
 simp only [qz]
 refine rf_shr (c := 2) (q := 4) rfl rfl rfl rfl rfl (by decide) ?_
 simp only [qz]
 obtain ⟨a2, ha2⟩ : ∃ A : Nat, ((((a1 : Int) + b1) / 4).toNat &&& 3689348814741910323 : Nat) = A := ⟨_, rfl⟩
 have ba2 : a2 ≤ (((a1 : Int) + b1) / 4).toNat := ha2 ▸ Nat.and_le_left
 refine rf_and (r := (a2 : Int)) rfl rfl rfl rfl ((and_u (((a1 : Int) + b1) / 4) 3689348814741910323 Ox Ox (by decide)).trans (by rw [ha2])) ?_
 simp only [qz]
 refine rg_move ?_
 simp only [qz]
 obtain ⟨b2, hb2⟩ : ∃ A : Nat, (((a1 : Int) + b1).toNat &&& 3689348814741910323 : Nat) = A := ⟨_, rfl⟩
 have bb2 : b2 ≤ ((a1 : Int) + b1).toNat := hb2 ▸ Nat.and_le_left
 refine rf_and (r := (b2 : Int)) rfl rfl rfl rfl ((and_u ((a1 : Int) + b1) 3689348814741910323 Ox Ox (by decide)).trans (by rw [hb2])) ?_
 simp only [qz]
 refine rf_add rfl rfl rfl rfl (wrap_okU Ox Ox) ?_
 simp only [qz]
 refine rg_assign ?_
 simp only [qz]
 refine rg_nil (ek_next (wk_seq ?_))
 refine wk_region [0, 0, 0, 0, 0, 0] rfl Kx ?_
 simp only [qy]
 refine rg_move ?_
 simp only [qz]
 refine rf_shr (c := 4) (q := 16) rfl rfl rfl rfl rfl (by decide) ?_
 simp only [qz]
 refine rg_move ?_
 simp only [qz]
 refine rf_add rfl rfl rfl rfl (wrap_okU Ox Ox) ?_
 simp only [qz]
 obtain ⟨a3, ha3⟩ : ∃ A : Nat, ((((a2 : Int) + b2) / 16 + ((a2 : Int) + b2)).toNat &&& 1085102592571150095 : Nat) = A := ⟨_, rfl⟩
 have ba3 : a3 ≤ (((a2 : Int) + b2) / 16 + ((a2 : Int) + b2)).toNat := ha3 ▸ Nat.and_le_left
 refine rf_and (r := (a3 : Int)) rfl rfl rfl rfl ((and_u (((a2 : Int) + b2) / 16 + ((a2 : Int) + b2)) 1085102592571150095 Ox Ox (by decide)).trans (by rw [ha3])) ?_
 simp only [qz]
 refine rg_assign ?_
 simp only [qz]
 refine rg_nil (ek_next (wk_seq ?_))
 refine wk_region [0, 0, 0, 0, 0] rfl Kx ?_
 simp only [qy]
 refine rg_move ?_
 simp only [qz]
 refine rg_move ?_
 simp only [qz]
 refine rf_shr (c := 8) (q := 256) rfl rfl rfl rfl rfl (by decide) ?_
 simp only [qz]
 refine rf_add rfl rfl rfl rfl (wrap_okU Ox Ox) ?_
 simp only [qz]
 refine rg_assign ?_
 simp only [qz]
 refine rg_nil (ek_next (wk_seq ?_))
 refine wk_region [0, 0, 0, 0, 0] rfl Kx ?_
 simp only [qy]
 refine rg_move ?_
 simp only [qz]
 refine rg_move ?_
 simp only [qz]
 refine rf_shr (c := 16) (q := 65536) rfl rfl rfl rfl rfl (by decide) ?_
 simp only [qz]
 refine rf_add rfl rfl rfl rfl (wrap_okU Ox Ox) ?_
 simp only [qz]
 refine rg_assign ?_
 simp only [qz]
 refine rg_nil (ek_next (wk_seq ?_))
 refine wk_region [0, 0, 0, 0, 0] rfl Kx ?_
 simp only [qy]
 refine rg_move ?_
 simp only [qz]
 refine rg_move ?_
 simp only [qz]
 refine rf_shr (c := 32) (q := 4294967296) rfl rfl rfl rfl rfl (by decide) ?_
 simp only [qz]
 refine rf_add rfl rfl rfl rfl (wrap_okU Ox Ox) ?_
 simp only [qz]
 refine rg_assign ?_
 simp only [qz]
 refine rg_nil (ek_next (wk_seq ?_))
 refine wk_region [0, 0, 0, 0] rfl Kx ?_
 simp only [qy]
 refine rg_move ?_
 simp only [qz]
 refine rf_conv rfl rfl rfl UU140 UU3 (wrap_ok Ox Ox) ?_
 simp only [qz]
 refine rf_and (r := ((((a3 : Int) + (a3 : Int) / 256) + ((a3 : Int) + (a3 : Int) / 256) / 65536) + (((a3 : Int) + (a3 : Int) / 256) + ((a3 : Int) + (a3 : Int) / 256) / 65536) / 4294967296) % 128) rfl rfl rfl rfl (and127 _) ?_
 simp only [qz]
 refine rg_assign ?_
 simp only [qz]
 refine rg_nil (ek_next (wk_ret ?_))
 refine ek_ret (fun w hw => ⟨rfl, _, res_t _ rfl, ?_⟩)
 (try simp only [qz])
 have ht := oc_pc hS
 unfold oc at ht
 simp only [ha1, hb1, ha2, hb2, ha3] at ht
 exact ⟨by rw [← ht, Int.toNat_of_nonneg Ox], hw.below⟩
theorem ones_any (S : Nat) (hS : S < 64) (w : World) : Calls Tryz.prog 125 #[.int .u64 S] w fun e w' => e = .returned (.int .i64 (pc S)) ∧ Below w.heap.size w w' := by
 go_enter Tryz.func125, Tryz.ntmps125
 refine wk_start ?_
 refine wk_seq ?_
 refine wk_region [0] rfl Kx ?_
 simp only [qy]
 refine rg_assign ?_
 simp only [qz]
 refine rg_nil (ek_next (wk_seq (wk_cond_f rfl (wk_skip (ek_next (wk_seq ?_))))))
 refine wk_region [0, 1, 0] rfl Kx ?_
 simp only [qy]
 refine rg_move ?_
 simp only [qz]
 apply rg_pure Rx Kx
 case hargs => exact Ax
 case h => exact fun w hw => ones64_any S hS w
 case hz => exact Nz
 simp only [qz]
 refine rg_assign ?_
 simp only [qz]
 refine rg_nil (ek_next (wk_ret ?_))
 refine ek_ret (fun w hw => ⟨rfl, _, res_t _ rfl, ?_⟩)
 (try simp only [qz])
 first | exact ⟨rfl, hw.below⟩ | exact ⟨trivial, hw.below⟩ | exact hw.below
theorem pc_all : ((List.range 64).all fun S => (List.range 6).all fun k => !S.testBit k || (decide (pc (S - 2 ^ k) + 1 = pc S) && decide (2 ^ k ≤ S) && decide (bits .andNot .i64 (S : Int) ((2 ^ k : Nat) : Int) = ((S - 2 ^ k : Nat) : Int)))) = true := by kernel_rfl
theorem pc_out {S k : Nat} (h : S < 64) (hk : k < 6) (hb : S.testBit k = true) : pc (S - 2 ^ k) + 1 = pc S ∧ 2 ^ k ≤ S ∧ bits .andNot .i64 (S : Int) ((2 ^ k : Nat) : Int) = ((S - 2 ^ k : Nat) : Int) := by
 have h1 := List.all_eq_true.1 (List.all_eq_true.1 pc_all S (List.mem_range.2 h)) k (List.mem_range.2 hk)
 rw [hb] at h1
 simp only [Bool.not_true, Bool.false_or, Bool.and_eq_true, decide_eq_true_eq] at h1
 exact ⟨h1.1.1, h1.1.2, h1.2⟩
theorem pc_rng : ((List.range 7).all fun n => (List.range (2 ^ n)).all fun S => decide (pc S ≤ n) && (decide (S = 0) || decide (1 ≤ pc S))) = true := by kernel_rfl
theorem pc_le {S n : Nat} (hn : n ≤ 6) (h : S < 2 ^ n) : pc S ≤ n ∧ (S = 0 ∨ 1 ≤ pc S) := by
 have h1 := List.all_eq_true.1 (List.all_eq_true.1 pc_rng n (List.mem_range.2 Ox)) S (List.mem_range.2 h)
 simpa using h1
theorem pc_full {n : Nat} (hn : n ≤ 6) : pc (2 ^ n - 1) = n := by
 have : n = 0 ∨ n = 1 ∨ n = 2 ∨ n = 3 ∨ n = 4 ∨ n = 5 ∨ n = 6 := by omega
 rcases this with rfl | rfl | rfl | rfl | rfl | rfl | rfl <;> rfl
theorem pow_6 {n : Nat} (hn : n ≤ 6) : 1 ≤ 2 ^ n ∧ 2 ^ n ≤ 64 := by
 have : n = 0 ∨ n = 1 ∨ n = 2 ∨ n = 3 ∨ n = 4 ∨ n = 5 ∨ n = 6 := by omega
 rcases this with rfl | rfl | rfl | rfl | rfl | rfl | rfl <;> decide
theorem bit_at (S k : Nat) : bits .and .i64 ((S : Int) / (2 ^ k : Nat)) 1 = (if S.testBit k then 1 else 0) := by
 have e : ((S : Int) / (2 ^ k : Nat)) = ((S / 2 ^ k : Nat) : Int) := by rw [Int.natCast_ediv]
 have := and_mask ((S : Int) / (2 ^ k : Nat)) 1 (by decide)
 have h1 : ((2 ^ 1 - 1 : Nat) : Int) = 1 := rfl
 rw [h1] at this
 have h2 : (S.testBit k) = decide (S / 2 ^ k % 2 = 1) := by rw [Nat.testBit_eq_decide_div_mod_eq]
 have h3 : ((2 ^ 1 : Nat) : Int) = 2 := rfl
 rw [this, e, h2, h3]
 generalize S / 2 ^ k = q
 by_cases h : q % 2 = 1
 ·rw [decide_eq_true h, if_pos rfl]; omega
 rw [decide_eq_false h, if_neg (by decide)]; omega
theorem fold_k : ∀ (xs : List Nm) (k0 : Int), k0 ≤ xs.foldl (fun k z => if k < z.k then z.k else k) k0 ∧ (∀ z ∈ xs, z.k ≤ xs.foldl (fun k z => if k < z.k then z.k else k) k0) ∧ (k0 ≤ 40 → (∀ z ∈ xs, z.k ≤ 40) → xs.foldl (fun k z => if k < z.k then z.k else k) k0 ≤ 40)
  | [], k0 => ⟨Int.le_refl _, (fun _ h => nomatch h), fun h _ => h⟩
  | x :: t, k0 => by
    obtain ⟨k1, hk1⟩ : ∃ k1, (if k0 < x.k then x.k else k0) = k1 := ⟨_, rfl⟩
    have hb : k0 ≤ k1 ∧ x.k ≤ k1 ∧ (k1 = x.k ∨ k1 = k0) := by split at hk1 <;> omega
    obtain ⟨h1, h2, h3⟩ := fold_k t k1
    simp only [List.foldl_cons]
    rw [hk1]
    refine ⟨by omega, fun z hz => ?_, fun h4 h5 => h3 (by have := h5 x (by simp); omega) fun z hz => h5 z (by simp [hz])⟩
    rcases List.mem_cons.1 hz with rfl | hz
    · omega
    · exact h2 z hz
theorem expoP {xs : List Nm} (h : ∀ z ∈ xs, z.Ok) : 0 ≤ expo xs ∧ expo xs ≤ 40 ∧ ∀ z ∈ xs, z.k ≤ expo xs := by
 obtain ⟨h1, h2, h3⟩ := fold_k xs 0
 exact ⟨h1, h3 (by decide) fun z hz => (h z hz).k1, h2⟩
def cells (n : Nat) (f : Nat → Nat → Nm) (t : Nat) : List Nm := (List.range t).map fun i => f (i / n) (i % n)
theorem cells_len (n : Nat) (f : Nat → Nat → Nm) (t : Nat) : (cells n f t).length = t := by simp [cells]
theorem cells_succ (n : Nat) (f : Nat → Nat → Nm) (t : Nat) : cells n f (t + 1) = cells n f t ++ [f (t / n) (t % n)] := by
 simp [cells, List.range_succ]
def expF (n : Nat) (f : Nat → Nat → Nm) : Int := expo (cells n f (n * n))
theorem expF_ok {n : Nat} {f : Nat → Nat → Nm} (h : ∀ i k, i < n → k < n → (f i k).Ok) : 0 ≤ expF n f ∧ expF n f ≤ 40 ∧ ∀ i k, i < n → k < n → (f i k).k ≤ expF n f := by
 have hz : ∀ z ∈ cells n f (n * n), z.Ok := fun z hz => by
  obtain ⟨t, ht, rfl⟩ := List.mem_map.1 hz
  have ht := List.mem_range.1 ht
  have hn : 0 < n := by
   rcases Nat.eq_zero_or_pos n with rfl | h
   ·simp at ht
   ·exact h
  exact h _ _ (Nat.div_lt_of_lt_mul ht) (Nat.mod_lt _ hn)
 obtain ⟨h1, h2, h3⟩ := expoP hz
 refine ⟨h1, h2, fun i k hi hk => h3 _ (List.mem_map.2 ⟨i * n + k, List.mem_range.2 (ix_lt hi hk), ?_⟩)⟩
 rw [ix_div hk, ix_mod hk]
def perN (n : Nat) (f : Nat → Nat → Nm) : Nm := nmF (wyS (fun i k => co4 ((f i k).to (expF n f))) n n (2 ^ n - 1)) (n * expF n f)
def perF (n : Nat) (f : Nat → Nat → Nm) : NR := (perN n f).mk'
theorem co4_nmF (T : Nat → Int) (k : Int) : smC (co4 (nmF T k)) = smC T := smC_congr fun m hm => by
  rcases lt4 hm with rfl | rfl | rfl | rfl <;> rfl
theorem Be_le {n : Nat} (h : n ≤ 6) : Be n ≤ 2462625387274654950767440006258975862817483704404090416746768337765357610718575663213391640930307227550414249394176 := by
  have e : Be 6 = 8958978968711216842229769122273777112486581988938598139599956403855167484720643781523509973086428463104 := by decide
  have key : ∀ d n, n + d = 6 → Be n ≤ Be 6 := by
    intro d
    induction d with
    | zero => intro n h; obtain rfl : n = 6 := by omega
              exact Int.le_refl _
    | succ d ih =>
      intro n h
      have h1 := ih (n + 1) Ox
      have h2 := Be_pos n
      have h3 : Be (n + 1) = 144115188075855872 * Be n := rfl
      omega
  have := key (6 - n) n Ox
  omega
theorem co4_bd {z : Nm} {K : Int} (hz : z.Ok) (hk : z.k ≤ K) (hK : K ≤ 40) {j : Nat} (hj : j < 4) : -1048576000000000 ≤ co4 (z.to K) j ∧ co4 (z.to K) j ≤ 1048576000000000 := by
 have hf : (z.to K).Fit 1048576000000000 := by unfold Nm.to; exact Nm.up40_fit hz.fit (by have := hz.k0; omega)
 obtain ⟨a0, a1, b0, b1, c0, c1, d0, d1⟩ := hf
 rcases lt4 hj with rfl | rfl | rfl | rfl
 ·exact ⟨a0, a1⟩
 ·exact ⟨b0, b1⟩
 ·exact ⟨c0, c1⟩
 exact ⟨d0, d1⟩
theorem perN_fit {n : Nat} {f : Nat → Nat → Nm} (hn : n ≤ 6) (h : ∀ i k, i < n → k < n → (f i k).Ok) : (perN n f).Fit 2462625387274654950767440006258975862817483704404090416746768337765357610718575663213391640930307227550414249394176 ∧ 0 ≤ (perN n f).k ∧ (perN n f).k ≤ 240 := by
 obtain ⟨h1, h2, h3⟩ := expF_ok h
 have hb := wyS_bd (A := fun i k => co4 ((f i k).to (expF n f))) hn (fun i k j hi hk hj => co4_bd (h i k hi hk) (h3 i k hi hk) h2 hj) n (2 ^ n - 1)
 have hB := Be_le hn
 have b0 := hb 0 (Nat.le_refl _) (by decide); have b1 := hb 1 (Nat.le_refl _) (by decide); have b2 := hb 2 (Nat.le_refl _) (by decide); have b3 := hb 3 (Nat.le_refl _) (by decide)
 have e1 : 0 ≤ (n : Int) * expF n f := Int.mul_nonneg Ox h1
 have e2 := Int.mul_le_mul (show (n : Int) ≤ 6 by omega) h2 h1 (by decide)
 refine ⟨?_, e1, by show (n : Int) * expF n f ≤ 240; omega⟩
 unfold perN nmF
 exact ⟨by dsimp only; omega, by dsimp only; omega, by dsimp only; omega, by dsimp only; omega, by dsimp only; omega, by dsimp only; omega, by dsimp only; omega, by dsimp only; omega⟩
abbrev SumE : El (Nat → Int) := ⟨24, fun T => (smC T).toList, fun _ => 0, by decide, fun _ => rfl, fun T v hv => by
  have : (smC T).toList.all (·.oneCell') = true := by kernel_rfl
  exact List.all_eq_true.1 this v hv⟩
theorem sm_fl (xs : List (Nat → Int)) (k : Nat) (y : Nat → Int) (hk : k < xs.length) : setMany (SumE.flat xs ++ []).toArray (0 + k * 24) (smC y).toList = (SumE.flat (xs.set k y) ++ []).toArray := fl_set (E := SumE) (rest := []) hk
theorem sumInfo : (Tryz.prog.info? 168).map (fun i => (i.zero, i.size, i.bytes)) = some (some (.agg #[.int .u64 0, .int .u64 0, .int .u64 0, .int .u64 0, .int .u64 0, .int .u64 0, .int .u64 0, .int .u64 0, .int .u64 0, .int .u64 0, .int .u64 0, .int .u64 0, .int .u64 0, .int .u64 0, .int .u64 0, .int .u64 0, .int .u64 0, .int .u64 0, .int .u64 0, .int .u64 0, .int .u64 0, .int .u64 0, .int .u64 0, .int .u64 0]), 24, 192) := by kernel_rfl
theorem z24_fl (n : Nat) : madeCells #[.int .u64 0, .int .u64 0, .int .u64 0, .int .u64 0, .int .u64 0, .int .u64 0, .int .u64 0, .int .u64 0, .int .u64 0, .int .u64 0, .int .u64 0, .int .u64 0, .int .u64 0, .int .u64 0, .int .u64 0, .int .u64 0, .int .u64 0, .int .u64 0, .int .u64 0, .int .u64 0, .int .u64 0, .int .u64 0, .int .u64 0, .int .u64 0] (n * 24) = (SumE.flat (List.replicate n fun _ => 0) ++ []).toArray := by
 rw [List.append_nil, ← made_fl (E := SumE) (fun _ => 0) n]
 congr 1
section
variable {R : Option Nat} {P : Program} {ops : Array Oper} {Q : Exit → Act → World → Prop} {B : World} {F : List Nat} {s0 : Option (List Blk × List Blk)}
variable {l : List (Oper × Nat)} {a : Act} {s : List Blk} {d : Option Tmp} {t : TypeId} {p : String} {af : Array Edge} {gd : Option (Nat × Bool)} {m : Nat}
theorem rf_andNot {x y : Operand} {T z : TypeId} {k : IntKind} {n q r : Int} (hm : soft03 m = true) (hg : Region.wanted ⟨d, .binOp .andNot T x y z, t, p, af, gd⟩ (yielded ops a.tmps) = true)
    (hx : a.eval x = .int k n) (hy : a.eval y = .int k q) (hr : bits .andNot k n q = r) (h : Rg R P ops Q B F s0 l (a.put d (.int k r)) s) : Rg R P ops Q B F s0 ((⟨d, .binOp .andNot T x y z, t, p, af, gd⟩, m) :: l) a s := by
  refine rg_any hm hg (fun w => ?_) h
  unfold Yld
  subst hr
  simp [execOp, hx, hy, eqGuard, binOp, Op.intBits, bits]
end
theorem El.at_repl {α : Type} {E : El α} (n s : Nat) : E.at (List.replicate n E.dflt) s = E.dflt := by
 unfold El.at
 rw [List.getD_eq_getElem?_getD, List.getElem?_replicate]
 split <;> rfl
theorem wrap_eq {n r : Int} (h : n = r) (h0 : -9223372036854775808 ≤ r) (h1 : r < 9223372036854775808) : IntKind.i64.wrap n = r := by
 rw [h]; exact wrap_ok Ox Ox
theorem OwnN.asN {u s : List Blk} {av : Option Addr} {m cv : Nat} {xs : List Nm} {B w : World} {F : List Nat} (h : OwnN u (.slice av m cv) xs) (K : Kn B F (u ++ s) w) : AS w av (nms xs) := by
 obtain ⟨a, cap, e, hA⟩ := h.as K
 cases e
 exact hA
section
variable {R : Option Nat} {ops : Array Oper} {Q : Exit → Act → World → Prop} {B : World} {F : List Nat} {s0 : Option (List Blk × List Blk)}
variable {l : List (Oper × Nat)} {a : Act} {s S : List Blk} {d : Option Tmp} {op : Op} {t : TypeId} {p : String} {af : Array Edge} {v : Value}
theorem rg_appN' {so xo : Operand} {u : List Blk} {xs : List Nm} {x : Nm} {g m : Nat} {gd : Option (Nat × Bool)} (hg : Region.wanted ⟨d, .call ⟨.builtin .append, #[so, xo], #[26, 26]⟩, t, p, af, gd⟩ (yielded ops a.tmps) = true)
    (hs : a.eval so = v) (hown : OwnN u v xs) (hm : xs.length = m) (hx : a.eval xo = .slice (some ⟨g, 0, none⟩) 1 1) (hn : m ≤ 10000000) (hp : S.Perm (u ++ s))
    (hnews : ∀ w, Kn B F S w → Hd w g 44 (nmC x).toArray)
    (hzz : ∀ z ∈ s0, z.1.Sublist s) (h : ∀ u' a' c', OwnN u' (.slice a' (m + 1) c') (xs ++ [x]) → Rg R Tryz.prog ops Q B F s0 l (a.put d (.slice a' (m + 1) c')) (u' ++ s)) :
    Rg R Tryz.prog ops Q B F s0 ((⟨d, .call ⟨.builtin .append, #[so, xo], #[26, 26]⟩, t, p, af, gd⟩, 1) :: l) a S := by
  subst hm
  exact rg_appN hg hs hown hx hn hp hnews hzz h
end
set_option maxHeartbeats 2000000 in
theorem permanent_any (n : Nat) (hn6 : n ≤ 6) (fe : Nat → Nat → Nm) (fv : Value) (hok : ∀ i k, i < n → k < n → (fe i k).Ok) (w : World) (hF : FnV w fv (D2 n n fun i k => nmV (fe i k))) : Calls Tryz.prog 85 #[.int .i64 n, fv] w fun e w' => e = .returned (numV (perF n fe)) ∧ Below w.heap.size w w' := by
 go_enter Tryz.func85, Tryz.ntmps85
 refine wk_start ?_
 refine wk_seq ?_
 refine wk_region [1, 0] rfl Kx ?_
 simp only [qy]
 refine Rgn fun g1 => ?_
 simp only [qz]
 refine rg_assign ?_
 simp only [qz]
 refine rg_nil (ek_next (wk_seq ?_))
 refine wk_region [0] rfl Kx ?_
 simp only [qy]
 refine rg_assign ?_
 simp only [qz]
 refine rg_nil (ek_next (wk_seq (wk_seq ?_)))
 refine wk_region [0, 0] rfl Kx ?_
 simp only [qy]
 refine rg_move ?_
 simp only [qz]
 refine rg_move ?_
 simp only [qz]
 refine rg_nil (ek_next (wk_block ?_))
 refine wk_loopF [6, 7, 8, 17, 18, 19, 20, 21, 22, 23, 24, 25, 26, 27, 28, 29, 30, 31, 32] (fun mz f s => ∃ (i m : Nat) (u : List Blk) (av : Option Addr) (cv : Nat), f 6 = .slice av m cv ∧ f 17 = .int .i64 i ∧ s = (u ++ ((g1, .cells #[.int .i64 0, .int .i64 0, .int .i64 0, .int .i64 0, .int .i64 0] 44) :: [])) ∧ mz = n - i ∧ i ≤ n ∧ Hid (m = i * n) ∧ OwnN u (.slice av m cv) (cells n fe m)) ((fun (i m : Nat) (u : List Blk) (av : Option Addr) (cv : Nat) => n - i) (0) (0) ([]) (none) (0)) ?_ Kx ?_
 ·exact ⟨0, 0, [], none, 0, rfl, rfl, rfl, rfl, by omega, (Lib.hid (by rw [Nat.zero_mul])), OwnG.nil⟩
 rintro mz f1 s ⟨i, m, u, av, cv, hs1_6, hs1_17, rfl, hn, hd1, hd2, hd3⟩
 simp only [Act.putF, List.foldl_cons, List.foldl_nil, hs1_6, hs1_17, Act.put, Act.eval, q1, q2, q3, q4, q5, q6, q7, q8, q9, q10, q11, q12, q13, q14, q15, q16, q17, q18, Nat.reduceAdd, Bool.not_true, Bool.not_false]
 clear hs1_6 hs1_17
 refine wk_seq ?_
 refine wk_region [0] rfl Kx ?_
 simp only [qy]
 refine rfb_lss rfl rfl rfl rfl ?_
 intro x h1
 cases x
 ·(try simp only [qd, ne_eq] at h1)
  simp only [qz]
  refine rg_nil (ek_next (wk_seq (wk_cond_f rfl (wk_exit (ek_then_exit (ek_then_exit (ek_block_exit (ek_next (wk_seq ?_)))))))))
  refine wk_region [0, 1, 0] rfl Kx ?_
  simp only [qy]
  refine rg_move ?_
  simp only [qz]
  obtain rfl : n = i := by omega
  have hmn : m ≤ 36 := by (have := hd2.out; have := Nat.mul_le_mul hn6 hn6; omega)
  obtain ⟨h1z, h2z, h3z⟩ := expF_ok hok
  obtain ⟨K, hKd⟩ : ∃ K, expF n fe = K := ⟨_, rfl⟩
  rw [hKd] at h1z h2z h3z
  replace hKd := Lib.hid hKd
  apply rg_pure Rx Kx
  case hargs => exact Ax
  case h => exact fun w hw => (by have hlz := cells_len n fe m; have h := exponent_any (cells n fe m) av cv (by rw [hlz]; omega) w (OwnN.asN hd3 (hw.sub (List.Sublist.refl _))); rw [hlz, show expo (cells n fe m) = K by rw [← hKd.out, hd2.out]; rfl] at h; exact h)
  case hz => exact Nz
  simp only [qz]
  refine rg_assign ?_
  simp only [qz]
  refine rg_nil (ek_next (wk_seq ?_))
  refine wk_region [0, 0, 1, 0] rfl Kx ?_
  simp only [qy]
  refine rg_move ?_
  simp only [qz]
  have hM6 := pow_6 hn6
  obtain ⟨M, hM⟩ : ∃ M, 2 ^ n = M := ⟨_, rfl⟩
  rw [hM] at hM6
  replace hM := Lib.hid hM
  refine rf_shlV (c := n) (q := (M : Int)) (r := (M : Int)) rfl rfl rfl rfl rfl (by show n ≤ 64; omega) (by rw [← hM.out]; simp) (by rw [Int.one_mul]; exact wrap_ok Ox Ox) ?_
  simp only [qz]
  obtain ⟨iS, hiS, hzS, hsS, hbS⟩ := info_partsN sumInfo
  refine rg_make (n := M) (i := iS) Rx UU164 hiS hzS rfl rfl (by rw [hbS]; omega) Ox Nz (fun gw => ?_)
  rw [hsS, show (Value.agg #[.int .u64 0, .int .u64 0, .int .u64 0, .int .u64 0, .int .u64 0, .int .u64 0, .int .u64 0, .int .u64 0, .int .u64 0, .int .u64 0, .int .u64 0, .int .u64 0, .int .u64 0, .int .u64 0, .int .u64 0, .int .u64 0, .int .u64 0, .int .u64 0, .int .u64 0, .int .u64 0, .int .u64 0, .int .u64 0, .int .u64 0, .int .u64 0]).cells = #[.int .u64 0, .int .u64 0, .int .u64 0, .int .u64 0, .int .u64 0, .int .u64 0, .int .u64 0, .int .u64 0, .int .u64 0, .int .u64 0, .int .u64 0, .int .u64 0, .int .u64 0, .int .u64 0, .int .u64 0, .int .u64 0, .int .u64 0, .int .u64 0, .int .u64 0, .int .u64 0, .int .u64 0, .int .u64 0, .int .u64 0, .int .u64 0] from rfl, z24_fl]
  simp only [qz]
  refine rg_assign ?_
  simp only [qz]
  refine rg_nil (ek_next (wk_seq ?_))
  refine wk_region [0, 1, 0, 1] rfl Kx ?_
  simp only [qy]
  refine rg_move ?_
  simp only [qz]
  obtain ⟨T1, hT1⟩ : ∃ T : Nat → Int, sel4 1 0 0 0 = T := ⟨_, rfl⟩
  apply rg_pure Rx Kx
  case hargs => exact Ax
  case h => exact fun w hw => (by have h := smone_any w; rw [hT1] at h; exact h)
  case hz => exact Nz
  simp only [qz]
  replace hT1 := Lib.hid hT1
  refine rf_indexS (n := 0) (sz := 24) (j := 0 + 0 * 24) rfl rfl rfl rfl UU164 Kx rfl Ox rfl ?_
  simp only [qz]
  have hsz1 : 0 + 0 * 24 + (smC (T1)).toList.length ≤ (SumE.flat ((List.replicate M fun _ => 0)) ++ []).toArray.size := fl_size (E := SumE) (xs := (List.replicate M fun _ => 0)) (k := 0) (y := T1) (rest := []) (by first | omega | (simp; omega))
  refine rf_storeR (n := 24) (vs := (smC (T1)).toList) rfl rfl Kx rfl rfl (UpdR.here _ _ _ hsz1) Nz ?_
  rw [sm_fl ((List.replicate M fun _ => 0)) 0 (T1) (by first | omega | (simp; omega))]
  simp only [qz]
  refine rg_nil (ek_next (wk_seq (wk_seq ?_)))
  refine wk_region [0] rfl Kx ?_
  simp only [qy]
  refine rg_assign ?_
  simp only [qz]
  refine rg_nil (ek_next (wk_block ?_))
  refine wk_loopF [11, 12, 13, 41, 42, 43, 44, 45, 46, 47, 48, 49, 50, 51, 52, 53, 54, 55, 56, 57, 58, 59, 60, 61, 62, 63, 64, 65, 66, 67, 68, 69, 70, 71, 72, 73, 74, 75, 76, 77, 78, 79, 80, 81, 82] (fun mz f s => ∃ (S : Nat) (xs : List (Nat → Int)), f 11 = .int .i64 S ∧ s = ((gw, .cells (SumE.flat xs ++ []).toArray 168) :: (u ++ ((g1, .cells #[.int .i64 0, .int .i64 0, .int .i64 0, .int .i64 0, .int .i64 0] 44) :: []))) ∧ mz = M - S ∧ 1 ≤ S ∧ S ≤ M ∧ xs.length = M ∧ (∀ s, s < S → SumE.at xs s = wyS (fun i k => co4 ((fe i k).to K)) n (pc s) s) ∧ (∀ s, S ≤ s → s < M → SumE.at xs s = fun _ => 0)) ((fun (S : Nat) (xs : List (Nat → Int)) => M - S) (1) ((List.replicate M fun _ => 0).set 0 T1)) ?_ Kx ?_
  ·exact ⟨1, (List.replicate M fun _ => 0).set 0 T1, rfl, rfl, rfl, by omega, by omega, by simp, (fun s hs => (by have h0 : s = 0 := Ox; subst h0; rw [El.at_set _ _ _ _ (by simp; omega), if_pos rfl, ← hT1.out]; rfl)), (fun s h1 h2 => by rw [El.at_set _ _ _ _ (by simp; omega), if_neg Ox]; exact El.at_repl _ _)⟩
  rintro mz f2 s ⟨S, xs, hs2_11, rfl, hn, hd1, hd2, hd3, hd4, hd5⟩
  simp only [Act.putF, List.foldl_cons, List.foldl_nil, hs2_11, Act.put, Act.eval, q1, q2, q3, q4, q5, q6, q7, q8, q9, q10, q11, q12, q13, q14, q15, q16, q17, q18, Nat.reduceAdd, Bool.not_true, Bool.not_false]
  clear hs2_11
  refine wk_seq (wk_seq ?_)
  refine wk_region [0, 0, 0, 0] rfl Kx ?_
  simp only [qy]
  refine rg_move ?_
  simp only [qz]
  refine rg_move ?_
  simp only [qz]
  refine rf_len rfl rfl rfl UU164 ?_
  simp only [qz]
  refine rfb_lss rfl rfl rfl rfl ?_
  intro x h2
  cases x
  ·(try simp only [qd, ne_eq] at h2)
   simp only [qz]
   refine rg_nil (ek_next (wk_cond_f rfl (wk_exit (ek_then_exit (ek_then_exit (ek_block_exit (ek_next (wk_seq ?_))))))))
   obtain rfl : M = S := by omega
   have hlast := hd4 (M - 1) Ox
   have hpcM : pc (M - 1) = n := by rw [← hM.out]; exact pc_full hn6
   rw [hpcM] at hlast
   have hpf := perN_fit hn6 hok
   have hpe : perN n fe = nmF (SumE.at xs (M - 1)) (n * K) := by (unfold perN; rw [hKd.out, hM.out, hlast])
   rw [hpe] at hpf
   have hcr := fun w => reduced_sm (nmF (SumE.at xs (M - 1)) (n * K)) hpf.1 hpf.2.1 Ox w
   simp only [co4_nmF] at hcr
   have hnk1 : 0 ≤ (n : Int) * K := hpf.2.1
   have hnk2 : (n : Int) * K ≤ 240 := hpf.2.2
   obtain ⟨⟨v, bb⟩, hv⟩ : ∃ r, wnum (nmF (SumE.at xs (M - 1)) (n * K)) = r := ⟨_, rfl⟩
   rw [hv] at hcr
   replace hcr := Lib.hid hcr
   replace hv := Lib.hid hv
   replace hpe := Lib.hid hpe
   clear hlast
   refine wk_region [0, 0, 0, 0, 0, 0, 0, 0, 0, 1, 0, 0, 0, 1, 1, 0] rfl Kx ?_
   simp only [qy]
   refine rg_move ?_
   simp only [qz]
   refine rg_move ?_
   simp only [qz]
   refine rf_len rfl rfl rfl UU164 ?_
   simp only [qz]
   refine rf_sub rfl rfl rfl rfl (wrap_ok Ox Ox) ?_
   simp only [qz]
   refine rf_indexS (n := M - 1) (sz := 24) (j := 0 + (M - 1) * 24) rfl rfl rfl rfl UU164 Kx Ox Ox rfl ?_
   simp only [qz]
   refine rf_loadC (n := 24) (vs := (smC (SumE.at xs (M - 1))).toList) rfl rfl rfl UU168 rfl Kx rfl (fun w hw => fl_range (E := SumE) (Kn.hd0 hw) Ox) ?_
   rw [show (smC (SumE.at xs (M - 1))).toList.toArray = smC (SumE.at xs (M - 1)) by simp]
   simp only [qz]
   refine rg_move ?_
   simp only [qz]
   refine rg_move ?_
   simp only [qz]
   refine rf_mul rfl rfl rfl rfl (wrap_ok Ox Ox) ?_
   simp only [qz]
   apply rg_pure Rx Kx
   case hargs => exact Ax
   case h => exact fun w hw => hcr.out w
   case hz => exact Nz
   simp only [qz]
   rcases bb with _ | _
   ·refine rg_move ?_
    simp only [qz]
    refine rf_extract rfl rfl rfl rfl ?_
    simp only [qz]
    refine rf_extract rfl rfl rfl rfl ?_
    simp only [qz]
    refine Rgn fun g2 => ?_
    simp only [qz]
    refine rf_storeR (n := 5) rfl rfl Kx rfl rfl (UpdR.here _ _ _ Nl) Nz ?_
    simp only [qz, Nat.reduceAdd]
    refine rg_assign ?_
    simp only [qz]
    refine rg_nil (ek_next (wk_seq (wk_seq ?_)))
    refine wk_region [0, 0] rfl Kx ?_
    simp only [qy]
    refine rg_move ?_
    simp only [qz]
    refine rf_not rfl rfl rfl ?_
    simp only [qz]
    refine rg_nil (ek_next (wk_cond_t rfl (wk_seq ?_)))
    refine wk_region [0, 1, 0] rfl Kx ?_
    simp only [qy]
    refine rf_build (cs := fun a => #[.int .i64 0, .int .i64 0, .int .i64 0, .int .i64 0, .int .i64 0]) rfl rfl Kx ?_
    simp only [qz]
    refine rf_storeR (n := 5) rfl rfl Kx rfl rfl (UpdR.there _ (UpdR.there _ (UpdR.app _ (UpdR.here _ _ _ Nl)))) Nz ?_
    simp only [qz, Nat.reduceAdd]
    refine rg_assign ?_
    simp only [qz]
    refine rg_nil (ek_next (wk_ret (ek_then_ret ?_)))
    refine ek_ret (fun w hw => ⟨rfl, _, run_results2 rfl rfl (Kn.hd0 (Kn.tlU (Kn.tl (Kn.tl hw)))) UU44 rfl Kx, ?_⟩)
    (try simp only [qz])
    exact ⟨by unfold perF; rw [hpe.out, wnum_numV, hv.out]; rfl, hw.below⟩
   refine rg_move ?_
   simp only [qz]
   refine rf_extract rfl rfl rfl rfl ?_
   simp only [qz]
   refine rf_extract rfl rfl rfl rfl ?_
   simp only [qz]
   refine Rgn fun g3 => ?_
   simp only [qz]
   refine rf_storeR (n := 5) rfl rfl Kx rfl rfl (UpdR.here _ _ _ Nl) Nz ?_
   simp only [qz, Nat.reduceAdd]
   refine rg_assign ?_
   simp only [qz]
   refine rg_nil (ek_next (wk_seq (wk_seq ?_)))
   refine wk_region [0, 0] rfl Kx ?_
   simp only [qy]
   refine rg_move ?_
   simp only [qz]
   refine rf_not rfl rfl rfl ?_
   simp only [qz]
   refine rg_nil (ek_next (wk_cond_f rfl (wk_skip (ek_next (wk_seq ?_)))))
   refine wk_region [0, 1, 0] rfl Kx ?_
   simp only [qy]
   refine rf_loadR (n := 5) rfl rfl rfl UU44 rfl Kx (fun w hw => Kn.hd0 hw) rfl rfl ?_
   simp only [qz]
   refine rf_storeR (n := 5) rfl rfl Kx rfl rfl (UpdR.there _ (UpdR.there _ (UpdR.app _ (UpdR.here _ _ _ Nl)))) Nz ?_
   simp only [qz, Nat.reduceAdd]
   refine rg_assign ?_
   simp only [qz]
   refine rg_nil (ek_next (wk_ret ?_))
   refine ek_ret (fun w hw => ⟨rfl, _, run_results2 rfl rfl (Kn.hd0 (Kn.tlU (Kn.tl (Kn.tl hw)))) UU44 rfl Kx, ?_⟩)
   (try simp only [qz])
   exact ⟨by unfold perF; rw [hpe.out, wnum_numV, hv.out]; rfl, hw.below⟩
  (try simp only [qd, ne_eq] at h2)
  simp only [qz]
  refine rg_nil (ek_next (wk_cond_t rfl (wk_skip (ek_next (wk_seq (wk_block (wk_seq ?_)))))))
  refine wk_region [0, 0, 1, 0, 0] rfl Kx ?_
  simp only [qy]
  refine rg_move ?_
  simp only [qz]
  refine rf_conv rfl rfl rfl UU3 UU142 (wrap_okU Ox Ox) ?_
  simp only [qz]
  apply rg_pure Rx Kx
  case hargs => exact Ax
  case h => exact fun w hw => ones_any S Ox w
  case hz => exact Nz
  simp only [qz]
  have hpS := pc_le (S := S) hn6 (by rw [hM.out]; omega)
  obtain ⟨c, hcS⟩ : ∃ c, pc S = c + 1 := ⟨pc S - 1, by omega⟩
  have hcn : c < n := by omega
  replace hcS := Lib.hid hcS
  refine rf_sub (r := (c : Int)) rfl rfl rfl rfl (wrap_eq (by have := hcS.out; omega) Ox Ox) ?_
  simp only [qz]
  refine rg_assign ?_
  simp only [qz]
  refine rg_nil (ek_next (wk_seq ?_))
  refine wk_region [0, 0] rfl Kx ?_
  simp only [qy]
  refine rg_move ?_
  simp only [qz]
  refine rg_move ?_
  simp only [qz]
  refine rg_nil (ek_next (wk_block ?_))
  refine wk_loopF [13, 52, 53, 54, 55, 56, 57, 58, 59, 60, 61, 62, 63, 64, 65, 66, 67, 68, 69, 70, 71, 72, 73, 74, 75, 76, 77, 78, 79, 80, 81, 82] (fun mz f s => ∃ (k : Nat) (xs : List (Nat → Int)), f 52 = .int .i64 k ∧ s = ((gw, .cells (SumE.flat xs ++ []).toArray 168) :: (u ++ ((g1, .cells #[.int .i64 0, .int .i64 0, .int .i64 0, .int .i64 0, .int .i64 0] 44) :: []))) ∧ mz = n - k ∧ k ≤ n ∧ xs.length = M ∧ (∀ s, s < S → SumE.at xs s = wyS (fun i k => co4 ((fe i k).to K)) n (pc s) s) ∧ (SumE.at xs S = sumS k fun k => if S.testBit k then acc (wyS (fun i k => co4 ((fe i k).to K)) n c (S - 2 ^ k)) ((fun i k => co4 ((fe i k).to K)) c k) 16 else fun _ => 0) ∧ (∀ s, S < s → s < M → SumE.at xs s = fun _ => 0)) ((fun (k : Nat) (xs : List (Nat → Int)) => n - k) (0) (xs)) ?_ Kx ?_
  ·exact ⟨0, xs, rfl, rfl, rfl, by omega, hd3, hd4, (hd5 S Ox Ox), (fun s h1 h2 => hd5 s Ox h2)⟩
  rintro mz f3 s ⟨k, xs, hs3_52, rfl, hn, hf1, hf2, hf3, hf4, hf5⟩
  simp only [Act.putF, List.foldl_cons, List.foldl_nil, hs3_52, Act.put, Act.eval, q1, q2, q3, q4, q5, q6, q7, q8, q9, q10, q11, q12, q13, q14, q15, q16, q17, q18, Nat.reduceAdd, Bool.not_true, Bool.not_false]
  clear hs3_52
  refine wk_seq ?_
  refine wk_region [0] rfl Kx ?_
  simp only [qy]
  refine rfb_lss rfl rfl rfl rfl ?_
  intro x h3
  cases x
  ·(try simp only [qd, ne_eq] at h3)
   simp only [qz]
   refine rg_nil (ek_next (wk_seq (wk_cond_f rfl (wk_exit (ek_then_exit (ek_then_exit (ek_block_exit (ek_block (ek_next ?_)))))))))
   refine wk_region [0, 0, 0] rfl Kx ?_
   simp only [qy]
   refine rg_move ?_
   simp only [qz]
   refine rf_add rfl rfl rfl rfl (wrap_ok Ox Ox) ?_
   simp only [qz]
   refine rg_assign ?_
   simp only [qz]
   refine rg_nil ?_
   obtain rfl : n = k := by omega
   refine ek_roundF (M - (S + 1)) Ox Kx ?_
   exact ⟨S + 1, xs, rfl, by rfl, by rfl, Ox, Ox, hf2, (fun s hs => by rcases (by omega : s < S ∨ s = S) with h | rfl; exact hf3 s h; rw [hf4, hcS.out]; rfl), (fun s h1 h2 => hf5 s Ox h2)⟩
  (try simp only [qd, ne_eq] at h3)
  simp only [qz]
  refine rg_nil (ek_next (wk_seq (wk_cond_t rfl (wk_skip (ek_next (wk_seq (wk_block (wk_seq ?_))))))))
  refine wk_region [0, 0] rfl Kx ?_
  simp only [qy]
  refine rg_move ?_
  simp only [qz]
  refine rg_assign ?_
  simp only [qz]
  refine rg_nil (ek_next (wk_seq ?_))
  refine wk_region [0, 0, 0, 0, 0] rfl Kx ?_
  simp only [qy]
  refine rg_move ?_
  simp only [qz]
  refine rg_move ?_
  simp only [qz]
  have hk6 := pow_6 (n := k) Ox
  refine rf_shrV (c := k) (q := ((2 ^ k : Nat) : Int)) rfl rfl rfl rfl rfl (by show k ≤ 64; omega) (by simp) ?_
  simp only [qz]
  refine rf_and (r := if S.testBit k then 1 else 0) rfl rfl rfl rfl (bit_at S k) ?_
  simp only [qz]
  refine rfb_eql rfl rfl rfl rfl ?_
  intro x h4
  cases x
  ·(try simp only [qd, ne_eq] at h4)
   simp only [qz]
   have hbit : S.testBit k = false := by (cases hq : S.testBit k <;> simp [hq] at h4 ⊢)
   refine rg_nil (ek_next (wk_cond_f rfl (wk_skip (ek_block (ek_next ?_)))))
   refine wk_region [0, 0] rfl Kx ?_
   simp only [qy]
   refine rf_add rfl rfl rfl rfl (wrap_ok Ox Ox) ?_
   simp only [qz]
   refine rg_move ?_
   simp only [qz]
   refine rg_nil ?_
   refine ek_roundF (n - (k + 1)) Ox Kx ?_
   exact ⟨k + 1, xs, rfl, by rfl, by rfl, Ox, hf2, hf3, (by rw [hf4]; show _ = fun m => sumS k _ m + _; dsimp only; rw [if_neg (by rw [hbit]; decide)]; funext m; simp), hf5⟩
  (try simp only [qd, ne_eq] at h4)
  simp only [qz]
  have hbit : S.testBit k = true := by (cases hq : S.testBit k <;> simp [hq] at h4 ⊢)
  obtain ⟨ho1, ho2, ho3⟩ := pc_out (S := S) (k := k) Ox Ox hbit
  have hout : SumE.at xs (S - 2 ^ k) = wyS (fun i k => co4 ((fe i k).to K)) n c (S - 2 ^ k) := by (have h1 := hf3 (S - 2 ^ k) Ox; rw [h1, show pc (S - 2 ^ k) = c by have := hcS.out; omega])
  have hfk := hok c k Ox Ox
  have hkk := h3z c k Ox Ox
  have hbd := fun j hj => co4_bd hfk hkk h2z (j := j) hj
  have hb0 := hbd 0 (by decide); have hb1 := hbd 1 (by decide); have hb2 := hbd 2 (by decide); have hb3 := hbd 3 (by decide)
  refine rg_nil (ek_next (wk_cond_t rfl ?_))
  refine wk_draws_m (hz1 := (sk _ (List.Sublist.append_left (sc _ sn) _))) [(0, 0), (1, 0), (2, 0), (3, 0), (4, 0), (5, 0), (6, 0), (7, 0), (8, 0), (9, 0), (10, 0), (11, 0), (12, 0), (13, 0), (14, 0), (15, 0), (17, 0), (16, 1), (18, 1), (19, 1), (20, 1), (21, 0), (22, 2)] 22 Kx Kx (fun c d v a w h => by cases d <;> exact h) ?_
  simp only [List.map_cons, List.map_nil, List.getD_cons_zero, List.getD_cons_succ]
  refine rg_move ?_
  simp only [qz]
  refine rg_move ?_
  simp only [qz]
  refine rg_move ?_
  simp only [qz]
  refine rg_move ?_
  simp only [qz]
  refine rf_indexS (n := S) (sz := 24) (j := 0 + S * 24) rfl rfl rfl rfl UU164 Kx rfl Ox rfl ?_
  simp only [qz]
  refine rf_loadC (n := 24) (vs := (smC (SumE.at xs S)).toList) rfl rfl rfl UU168 rfl Kx rfl (fun w hw => fl_range (E := SumE) (Kn.hd0 hw) Ox) ?_
  rw [show (smC (SumE.at xs S)).toList.toArray = smC (SumE.at xs S) by simp]
  simp only [qz]
  refine rg_move ?_
  simp only [qz]
  refine rg_move ?_
  simp only [qz]
  refine rg_move ?_
  simp only [qz]
  refine rf_shlV (c := k) (q := ((2 ^ k : Nat) : Int)) (r := ((2 ^ k : Nat) : Int)) rfl rfl rfl rfl rfl (by show k ≤ 64; omega) (by simp) (by rw [Int.one_mul]; exact wrap_ok Ox Ox) ?_
  simp only [qz]
  refine rf_andNot (r := ((S - 2 ^ k : Nat) : Int)) rfl rfl rfl rfl ho3 ?_
  simp only [qz]
  refine rf_indexS (n := S - 2 ^ k) (sz := 24) (j := 0 + (S - 2 ^ k) * 24) rfl rfl rfl rfl UU164 Kx rfl Ox rfl ?_
  simp only [qz]
  refine rf_loadC (n := 24) (vs := (smC (SumE.at xs (S - 2 ^ k))).toList) rfl rfl rfl UU168 rfl Kx rfl (fun w hw => fl_range (E := SumE) (Kn.hd0 hw) Ox) ?_
  rw [show (smC (SumE.at xs (S - 2 ^ k))).toList.toArray = smC (SumE.at xs (S - 2 ^ k)) by simp]
  simp only [qz]
  refine rg_move ?_
  simp only [qz]
  refine rg_move ?_
  simp only [qz]
  refine rg_move ?_
  simp only [qz]
  refine rg_move ?_
  simp only [qz]
  refine rg_fnv (nmV (fe c k)) Rx hF rfl (by simp only [qm, qs, Act.eval] <;> rfl) ⟨c, k, by omega, by omega, rfl, rfl⟩ (fun _ h => by cases h; exact (sc _ (List.Sublist.append_left (sc _ sn) _))) ?_
  simp only [qz]
  apply rg_pure Rx Kx
  case hargs => exact Ax
  case h => exact fun w hw => scaled_any (fe c k) K hfk.fit hfk.k0 hkk h2z w
  case hz => exact (fun _ h => by cases h; exact (sc _ (List.Sublist.append_left (sc _ sn) _)))
  simp only [qz]
  apply rg_pure Rx Kx
  case hargs => exact Ax
  case h => exact fun w hw => smtimes_any (SumE.at xs (S - 2 ^ k)) (co4 ((fe c k).to K)) (sel_cases ⟨by omega, by omega⟩ ⟨by omega, by omega⟩ ⟨by omega, by omega⟩ ⟨by omega, by omega⟩) w
  case hz => exact (fun _ h => by cases h; exact (sc _ (List.Sublist.append_left (sc _ sn) _)))
  simp only [qz]
  apply rg_pure Rx Kx
  case hargs => exact Ax
  case h => exact fun w hw => smplus_any (SumE.at xs S) (acc (SumE.at xs (S - 2 ^ k)) (co4 ((fe c k).to K)) 16) w
  case hz => exact (fun _ h => by cases h; exact (sc _ (List.Sublist.append_left (sc _ sn) _)))
  simp only [qz]
  refine rf_indexS (n := S) (sz := 24) (j := 0 + S * 24) rfl rfl rfl rfl UU164 Kx rfl Ox rfl ?_
  simp only [qz]
  have hsz2 : 0 + S * 24 + (smC ((fun m => SumE.at xs S m + acc (SumE.at xs (S - 2 ^ k)) (co4 ((fe c k).to K)) 16 m))).toList.length ≤ (SumE.flat (xs) ++ []).toArray.size := fl_size (E := SumE) (xs := xs) (k := S) (y := (fun m => SumE.at xs S m + acc (SumE.at xs (S - 2 ^ k)) (co4 ((fe c k).to K)) 16 m)) (rest := []) (by first | omega | (simp; omega))
  refine rf_storeRM (n := 24) (vs := (smC ((fun m => SumE.at xs S m + acc (SumE.at xs (S - 2 ^ k)) (co4 ((fe c k).to K)) 16 m))).toList) rfl rfl Kx rfl rfl (UpdR.here _ _ _ hsz2) (sk _ (List.Sublist.append_left (sc _ sn) _)) ?_
  rw [sm_fl (xs) S ((fun m => SumE.at xs S m + acc (SumE.at xs (S - 2 ^ k)) (co4 ((fe c k).to K)) 16 m)) (by first | omega | (simp; omega))]
  simp only [qz]
  refine rg_nil (ek_block (ek_next ?_))
  refine wk_region [0, 0] rfl Kx ?_
  simp only [qy]
  refine rf_add rfl rfl rfl rfl (wrap_ok Ox Ox) ?_
  simp only [qz]
  refine rg_move ?_
  simp only [qz]
  refine rg_nil ?_
  refine ek_roundF (n - (k + 1)) Ox Kx ?_
  exact ⟨k + 1, xs.set S (fun m => SumE.at xs S m + acc (SumE.at xs (S - 2 ^ k)) (co4 ((fe c k).to K)) 16 m), rfl, by rfl, by rfl, Ox, (by rw [List.length_set]; exact hf2), (fun s hs => by rw [El.at_set _ _ _ _ Ox, if_neg Ox]; exact hf3 s hs), (by rw [El.at_set _ _ _ _ Ox, if_pos rfl, hf4, hout]; show _ = fun m => sumS k _ m + _; dsimp only; rw [if_pos hbit]), (fun s h1 h2 => by rw [El.at_set _ _ _ _ Ox, if_neg Ox]; exact hf5 s h1 h2)⟩
 (try simp only [qd, ne_eq] at h1)
 simp only [qz]
 refine rg_nil (ek_next (wk_seq (wk_cond_t rfl (wk_skip (ek_next (wk_seq (wk_block (wk_seq ?_))))))))
 refine wk_region [0, 0] rfl Kx ?_
 simp only [qy]
 refine rg_move ?_
 simp only [qz]
 refine rg_assign ?_
 simp only [qz]
 refine rg_nil (ek_next (wk_seq ?_))
 refine wk_region [0, 0] rfl Kx ?_
 simp only [qy]
 refine rg_move ?_
 simp only [qz]
 refine rg_move ?_
 simp only [qz]
 refine rg_nil (ek_next (wk_block ?_))
 refine wk_loopF [6, 8, 21, 22, 23, 24, 25, 26, 27, 28, 29, 30, 31] (fun mz f s => ∃ (k m : Nat) (u : List Blk) (av : Option Addr) (cv : Nat), f 6 = .slice av m cv ∧ f 21 = .int .i64 k ∧ s = (u ++ ((g1, .cells #[.int .i64 0, .int .i64 0, .int .i64 0, .int .i64 0, .int .i64 0] 44) :: [])) ∧ mz = n - k ∧ k ≤ n ∧ Hid (m = i * n + k) ∧ OwnN u (.slice av m cv) (cells n fe m)) ((fun (k m : Nat) (u : List Blk) (av : Option Addr) (cv : Nat) => n - k) (0) (m) (u) (av) (cv)) ?_ Kx ?_
 ·exact ⟨0, m, u, av, cv, rfl, rfl, rfl, rfl, by omega, (Lib.hid hd2.out), hd3⟩
 rintro mz f2 s ⟨k, m, u, av, cv, hs2_6, hs2_21, rfl, hn, he1, he2, he3⟩
 simp only [Act.putF, List.foldl_cons, List.foldl_nil, hs2_6, hs2_21, Act.put, Act.eval, q1, q2, q3, q4, q5, q6, q7, q8, q9, q10, q11, q12, q13, q14, q15, q16, q17, q18, Nat.reduceAdd, Bool.not_true, Bool.not_false]
 clear hs2_6 hs2_21
 have hmm : m ≤ 36 := by (have hsq := ix_small (i := i) (N := n) Ox hn6; have := he2.out; omega)
 refine wk_seq ?_
 refine wk_region [0] rfl Kx ?_
 simp only [qy]
 refine rfb_lss rfl rfl rfl rfl ?_
 intro x h5
 cases x
 ·(try simp only [qd, ne_eq] at h5)
  simp only [qz]
  refine rg_nil (ek_next (wk_seq (wk_cond_f rfl (wk_exit (ek_then_exit (ek_then_exit (ek_block_exit (ek_block (ek_next ?_)))))))))
  refine wk_region [0, 0] rfl Kx ?_
  simp only [qy]
  refine rf_add rfl rfl rfl rfl (wrap_ok Ox Ox) ?_
  simp only [qz]
  refine rg_move ?_
  simp only [qz]
  refine rg_nil ?_
  obtain rfl : n = k := by omega
  refine ek_roundF (n - (i + 1)) Ox Kx ?_
  exact ⟨i + 1, m, u, av, cv, rfl, rfl, Rx, by rfl, Ox, (Lib.hid (by rw [he2.out, Nat.add_mul, Nat.one_mul])), he3⟩
 (try simp only [qd, ne_eq] at h5)
 simp only [qz]
 refine rg_nil (ek_next (wk_seq (wk_cond_t rfl (wk_skip (ek_next (wk_seq (wk_block (wk_seq ?_))))))))
 refine wk_region [0, 0] rfl Kx ?_
 simp only [qy]
 refine rg_move ?_
 simp only [qz]
 refine rg_assign ?_
 simp only [qz]
 refine rg_nil (ek_next ?_)
 refine wk_region [0, 0, 0, 0, 1, 1, 1, 0] rfl Kx ?_
 simp only [qy]
 refine rg_move ?_
 simp only [qz]
 refine rg_move ?_
 simp only [qz]
 refine rg_move ?_
 simp only [qz]
 refine rg_move ?_
 simp only [qz]
 refine rg_fnv (nmV (fe i k)) Rx hF rfl (by simp only [qm, qs, Act.eval] <;> rfl) ⟨i, k, by omega, by omega, rfl, rfl⟩ Nz ?_
 simp only [qz]
 refine rg_newS (cs := ?_) (ty := ?_) (n := 1) (c := 1) Rx (fun w => ?_) Nz (fun g4 => ?_); rotate_left 2
 focus (go_simp; rfl)
 simp only [qz]
 refine rg_appN' (xs := cells n fe m) (x := fe i k) Rx rfl he3 (cells_len n fe m) rfl Ox (perm_atU (l := [_]) (u := u) (List.Perm.refl _)) (fun w hw => Kn.hd0 hw) Nz (fun uN1 aN1 cN1 hON1 => ?_)
 simp only [qz]
 refine rg_assign ?_
 simp only [qz]
 refine rg_nil (ek_block (ek_next ?_))
 refine wk_region [0, 0] rfl Kx ?_
 simp only [qy]
 refine rf_add rfl rfl rfl rfl (wrap_ok Ox Ox) ?_
 simp only [qz]
 refine rg_move ?_
 simp only [qz]
 refine rg_nil ?_
 refine ek_sub (List.Sublist.append_left (sk _ (sc _ sn)) _) ?_
 refine ek_roundF (n - (k + 1)) Ox Kx ?_
 exact ⟨k + 1, m + 1, uN1, aN1, cN1, rfl, rfl, Rx, by rfl, Ox, (Lib.hid (by rw [he2.out]; rfl)), (by have h := hON1; rwa [show cells n fe m ++ [fe i k] = cells n fe (m + 1) by rw [cells_succ, he2.out, ix_div Ox, ix_mod Ox]] at h)⟩
def RowsA (w : World) (hs : List Value) (rows : List (List Nm)) : Prop :=
  hs.length = rows.length ∧ ∀ k, k < rows.length → ∃ b off c, hs[k]? = some (.slice (some ⟨b, off, none⟩) (rows.getD k []).length c) ∧ (rows.getD k []).length ≤ c ∧ AS w (some ⟨b, off, none⟩) (nms (rows.getD k []))
theorem RowsA.kn0 {B w : World} {s : List Blk} {hs : List Value} {rows : List (List Nm)} (h : RowsA B hs rows) (K : Kn B [] s w) : RowsA w hs rows :=
  ⟨h.1, fun k hk => by
    obtain ⟨b, off, c, h1, h2, h3⟩ := h.2 k hk
    exact ⟨b, off, c, h1, h2, h3.kn0 K⟩⟩
theorem flat_len (l : List Nm) : (nms l).length = l.length * 5 := NmE.flat_len l
theorem AS.part {w : World} {b off : Nat} {xs ys : List Nm} {lo : Nat} (h : AS w (some ⟨b, off, none⟩) (nms xs)) (hl : lo + ys.length ≤ xs.length) (he : ∀ j, j < ys.length → nm ys j = nm xs (lo + j)) : AS w (some ⟨b, off + lo * 5, none⟩) (nms ys) := by
 intro hne
 have hy := flat_len ys
 have hf := flat_len xs
 have hy0 : 0 < (nms ys).length := List.length_pos_iff.2 hne
 obtain ⟨b', off', e, hlt, hc⟩ := h (fun e => by rw [e] at hf; simp at hf; omega)
 cases e
 refine ⟨b, _, rfl, hlt, fun j hj => ?_⟩
 have hd := Nat.div_add_mod j 5
 have hm5 := Nat.mod_lt j (show 0 < 5 by omega)
 have h1 := NmE.get ys (j / 5) (j % 5) (by omega) hm5
 have h2 := NmE.get xs (lo + j / 5) (j % 5) (by omega) hm5
 have e1 : NmE.at ys (j / 5) = NmE.at xs (lo + j / 5) := he _ (by omega)
 rw [e1, ← h2] at h1
 have e2 : j / 5 * NmE.sz + j % 5 = j := by show j / 5 * 5 + j % 5 = j; omega
 have e3 : (lo + j / 5) * NmE.sz + j % 5 = lo * 5 + j := by show (lo + j / 5) * 5 + j % 5 = _; omega
 rw [e2, e3] at h1
 rw [h1, ← hc _ (by omega), Nat.add_assoc]
inductive RowsN : List Blk → List Value → List (List Nm) → Prop
  | nil : RowsN [] [] []
  | snoc {us : List Blk} {hs : List Value} {rows : List (List Nm)} {u : List Blk} {h : Value} {row : List Nm} : RowsN us hs rows → OwnN u h row → 0 < row.length → RowsN (u ++ us) (hs ++ [h]) (rows ++ [row])
theorem RowsN.len {us : List Blk} {hs : List Value} {rows : List (List Nm)} (h : RowsN us hs rows) : hs.length = rows.length := by
 induction h with
 | nil => rfl
 | snoc _ _ _ ih => simp [ih]
section
variable {R : Option Nat} {ops : Array Oper} {Q : Exit → Act → World → Prop} {B : World} {F : List Nat} {s0 : Option (List Blk × List Blk)}
variable {l : List (Oper × Nat)} {a : Act} {s S : List Blk} {d : Option Tmp} {op : Op} {t : TypeId} {p : String} {af : Array Edge} {v : Value}
theorem rf_from {P : Program} {m : Nat} {T : Nat} {x yl : Operand} {b off lo len cap e sz : Nat} {k' : IntKind} {zl : Int} {gd : Option (Nat × Bool)} (hm : soft03 m = true) (hg : Region.wanted ⟨d, .slice T x (some yl) none none, t, p, af, gd⟩ (yielded ops a.tmps) = true)
    (hx : a.eval x = .slice (some ⟨b, off, none⟩) len cap) (hl : a.eval yl = .int k' zl) (hu : P.underlying T = some (.slice e)) (hs : (P.info? e).map (·.size) = some sz) (hzl : zl = (lo : Int)) (hn : lo ≤ len)
    (h : ∀ ad, (lo < cap → ad = ⟨b, off + lo * sz, none⟩) → Rg R P ops Q B F s0 l (a.put d (.slice (some ad) (len - lo) (cap - lo))) s) : Rg R P ops Q B F s0 ((⟨d, .slice T x (some yl) none none, t, p, af, gd⟩, m) :: l) a s := by
  refine rf_sliceFrom hm hg hx hl hu hs hzl hn ?_
  by_cases hc : cap = lo
  · rw [if_pos hc]
    exact h _ fun h => by omega
  · rw [if_neg hc]
    exact h _ fun _ => rfl
end
theorem madeZ (n : Nat) : madeCells #[Value.int .i64 0] n = (zs (List.replicate n 0)).toArray := by
 unfold madeCells
 apply Array.ext'
 simp only [Array.toList_map, Array.toList_range]
 apply List.ext_getElem
 ·simp
 intro i h1 h2
 simp [Nat.mod_one]
theorem OwnZ.whole {g : Nat} {xs : List Int} (h : xs.length ≤ 1000000) : OwnZ [(g, .cells (zs xs).toArray 3)] (.slice (some ⟨g, 0, none⟩) xs.length xs.length) xs :=
  Own.whole (cur := (zs xs).toArray) (by simp) (by simp only [maxLen]; omega)
section
variable {R : Option Nat} {ops : Array Oper} {Q : Exit → Act → World → Prop} {B : World} {F : List Nat} {s0 : Option (List Blk × List Blk)}
variable {l : List (Oper × Nat)} {a : Act} {s S : List Blk} {d : Option Tmp} {op : Op} {t : TypeId} {p : String} {af : Array Edge} {v : Value}
theorem rg_makeZ {lo co : Operand} {n : Nat} {gd : Option (Nat × Bool)} (hg : Region.wanted ⟨d, .makeSlice 23 lo co, t, p, af, gd⟩ (yielded ops a.tmps) = true) (hl : a.eval lo = .int .i64 n) (hc : a.eval co = .int .i64 n) (hn : n ≤ 1000000)
    (hzz : ∀ z ∈ s0, z.1.Sublist s) (h : ∀ g, Rg R Tryz.prog ops Q B F s0 l (a.put d (.slice (some ⟨g, 0, none⟩) n n)) ((g, .cells (zs (List.replicate n 0)).toArray 3) :: s)) :
    Rg R Tryz.prog ops Q B F s0 ((⟨d, .makeSlice 23 lo co, t, p, af, gd⟩, 1) :: l) a s := by
  obtain ⟨i, hi, hz, hs, hb⟩ := info_partsN zInfo
  refine rg_make (i := i) (z := .int .i64 0) (n := n) hg UU23 hi hz hl hc (by rw [hb]; omega) Ox hzz fun g => ?_
  have : madeCells (Value.int .i64 0).cells (n * i.size) = (zs (List.replicate n 0)).toArray := by rw [hs, Nat.mul_one]; exact madeZ n
  rw [this]
  exact h g
theorem rg_copyZ {so xo : Operand} {g o dl dc m c : Nat} {ad : Addr} {cur : List Int} {cur' cs : List Int} {r : Int} {gd : Option (Nat × Bool)} (hg : Region.wanted ⟨d, .call ⟨.builtin .copy, #[so, xo], #[23, 23]⟩, t, p, af, gd⟩ (yielded ops a.tmps) = true)
    (hs : a.eval so = .slice (some ⟨g, o, none⟩) dl dc) (hx : a.eval xo = .slice (some ad) m c) (hn : cs.length = Nat.min m dl) (hrr : (cs.length : Int) = r) (hp : S.Perm ((g, .cells (zs cur).toArray 3) :: s))
    (hsrc : ∀ w, Kn B F S w → ∀ j x, cs[j]? = some x → w.cell? (ad.add j) = some (.int .i64 x)) (hfit : o + cs.length ≤ cur.length) (hc : cur.take o ++ cs ++ cur.drop (o + cs.length) = cur')
    (hzz : ∀ z ∈ s0, z.1.Sublist ((g, Obj.cells (zs cur').toArray 3) :: s)) (h : Rg R Tryz.prog ops Q B F s0 l (a.put d (.int .i64 r)) ((g, .cells (zs cur').toArray 3) :: s)) :
    Rg R Tryz.prog ops Q B F s0 ((⟨d, .call ⟨.builtin .copy, #[so, xo], #[23, 23]⟩, t, p, af, gd⟩, 1) :: l) a S := by
  subst hrr
  refine rg_run hg fun w K => ?_
  have K' := K.perm hp
  have hd : w.heap[g]? = some (.cells (zs cur).toArray 3 (0, 0)) := Kn.hd0 K'
  have hr := run_copy_row (P := Tryz.prog) w 23 23 t 3 g o dl dc ad m c (zs cur).toArray 3 (zs cs) UU23 Kx hd (by simpa using hn)
    (fun j v hj => by
      rw [List.getElem?_map] at hj
      obtain ⟨x, hx1, rfl⟩ := Option.map_eq_some_iff.1 hj
      exact hsrc w K j x hx1) (by simpa using hfit) (by intro v hv; obtain ⟨x, -, rfl⟩ := List.mem_map.1 hv; rfl)
  have e : ((zs cur).toArray.toList.take o ++ zs cs ++ (zs cur).toArray.toList.drop (o + (zs cs).length)).toArray = (zs cur').toArray := by
    rw [← hc]
    simp [List.map_take, List.map_drop]
  rw [e, List.length_map] at hr
  refine ⟨.int .i64 cs.length, w.setRow g (zs cur').toArray, (g, Obj.cells (zs cur').toArray 3) :: s, .inl ?_, Kn.mod K' rfl rfl rfl (by simp) (fun k _ hk => setRow_other w g k _ (fun e => hk e)) (setRow_heap w g (zs cur).toArray _ 3 _ hd), hzz, h⟩
  have hx1 : execOp a.eval ⟨d, .call ⟨.builtin .copy, #[so, xo], #[23, 23]⟩, t, p, af, gd⟩ = (do let d ← resolve a.eval ⟨.builtin .copy, #[so, xo], #[23, 23]⟩ t; invoke d.target d.args) := rfl
  rw [hx1]
  simp only [resolve, invoke, builtin, Sem.run_bind, Sem.run_pure, Result.andThen_ok, List.map_toArray, List.map_cons, List.map_nil, hs, hx, hr]
  rfl
end
def repZ (x : Int) (n k : Nat) : List Int := List.replicate k x ++ List.replicate (n - k) 0
theorem repZ_len {x : Int} {n k : Nat} (h : k ≤ n) : (repZ x n k).length = n := by simp [repZ]; omega
theorem repZ_get {x : Int} {n k j : Nat} (h : j < k) : (repZ x n k)[j]? = some x := by
 unfold repZ
 rw [List.getElem?_append_left (by simpa using h), List.getElem?_replicate, if_pos h]
theorem repZ_one {x : Int} {n : Nat} (h : 1 ≤ n) : (List.replicate n (0 : Int)).take 0 ++ [x] ++ (List.replicate n (0 : Int)).drop (0 + [x].length) = repZ x n 1 := by
 simp [repZ]
theorem repZ_step {x : Int} {n k m : Nat} (h : k + m ≤ n) : (repZ x n k).take (0 + k * 1) ++ List.replicate m x ++ (repZ x n k).drop (0 + k * 1 + (List.replicate m x).length) = repZ x n (k + m) := by
 unfold repZ
 rw [Nat.zero_add, Nat.mul_one, List.length_replicate, List.take_left' (by simp), List.drop_append]
 have e1 : (List.replicate k x).drop (k + m) = [] := List.drop_eq_nil_of_le (by simp)
 rw [e1, List.nil_append, List.length_replicate, List.drop_replicate, List.replicate_append_replicate]
 congr 2
 omega
theorem repZ_all (x : Int) (n : Nat) : repZ x n n = List.replicate n x := by simp [repZ]
def RetZ (w : World) (n : Nat) (L : List Int) (e : Ending) (w' : World) : Prop := ∃ g c u, e = .returned (.slice (some ⟨g, 0, none⟩) n c) ∧ OwnZ u (.slice (some ⟨g, 0, none⟩) n c) L ∧ Made w u w'
theorem bitsMul_any (n : Nat) (hn : n ≤ 5) (w : World) : Calls Tryz.prog 141 #[.int .u64 1, .int .u64 n] w fun e w' => e = .returned (.tuple #[.int .u64 0, .int .u64 n]) ∧ Below w.heap.size w w' := by
 go_enter Tryz.func141, Tryz.ntmps141
 refine wk_start ?_
 refine wk_seq ?_
 refine wk_region [0, 0] rfl Kx ?_
 simp only [qy]
 refine rg_assign ?_
 simp only [qz]
 refine rg_assign ?_
 simp only [qz]
 refine rg_nil (ek_next (wk_seq (wk_cond_f rfl (wk_skip (ek_next (wk_seq ?_))))))
 refine wk_region [0, 0, 1, 0, 0, 0, 0, 0] rfl Kx ?_
 simp only [qy]
 refine rg_move ?_
 simp only [qz]
 refine rg_move ?_
 simp only [qz]
 apply rg_pure Rx Kx
 case hargs => exact Ax
 case h => exact fun w hw => (mul64_any 1 n Ox Ox Ox Ox w).mono (fun e w' ⟨he, hw'⟩ => (⟨by rw [he, show (1 : Int) * n / 18446744073709551616 = 0 by omega, show (1 : Int) * n % 18446744073709551616 = n by omega], hw' ▸ Below.refl _ _⟩ : e = .returned (.tuple #[.int .u64 0, .int .u64 n]) ∧ Below w.heap.size w w'))
 case hz => exact Nz
 simp only [qz]
 refine rg_move ?_
 simp only [qz]
 refine rf_extract rfl rfl rfl rfl ?_
 simp only [qz]
 refine rf_extract rfl rfl rfl rfl ?_
 simp only [qz]
 refine rg_assign ?_
 simp only [qz]
 refine rg_assign ?_
 simp only [qz]
 refine rg_nil (ek_next (wk_seq ?_))
 refine wk_region [0, 0, 0, 0] rfl Kx ?_
 simp only [qy]
 refine rg_move ?_
 simp only [qz]
 refine rg_move ?_
 simp only [qz]
 refine rg_assign ?_
 simp only [qz]
 refine rg_assign ?_
 simp only [qz]
 refine rg_nil (ek_next (wk_ret ?_))
 refine ek_ret (fun w hw => ⟨rfl, _, res_tt _ _ rfl, ?_⟩)
 (try simp only [qz])
 first | exact ⟨rfl, hw.below⟩ | exact ⟨trivial, hw.below⟩ | exact hw.below
theorem repeat_pos (x : Int) (a : Option Addr) (c : Nat) (n : Nat) (hn : n ≤ 5) (hn1 : 1 ≤ n) (w : World) (hA : AS w a (zs [x])) : Calls Tryz.prog 123 #[.slice a 1 c, .int .i64 n] w fun e w' => RetZ w n (List.replicate n x) e w' := by
 obtain ⟨b, off, rfl, hlt, hcell⟩ := AS.openI hA (by simp)
 go_enter Tryz.func123, Tryz.ntmps123
 refine wk_start ?_
 refine wk_seq ?_
 refine wk_region [0] rfl Kx ?_
 simp only [qy]
 refine rg_assign ?_
 simp only [qz]
 refine rg_nil (ek_next (wk_seq (wk_seq ?_)))
 refine wk_region [0, 0] rfl Kx ?_
 simp only [qy]
 refine rg_move ?_
 simp only [qz]
 refine rfb_lss rfl rfl rfl rfl ?_
 intro x h1
 obtain rfl : x = false := by (refine h1.symm.trans ?_; exact decide_eq_false Ox)
 clear h1
 simp only [qz]
 refine rg_nil (ek_next (wk_cond_f rfl (wk_skip (ek_next (wk_seq ?_)))))
 refine wk_region [0, 0, 0, 0, 0, 1, 0, 0, 0, 0, 0] rfl Kx ?_
 simp only [qy]
 refine rg_move ?_
 simp only [qz]
 refine rf_len rfl rfl rfl UU23 ?_
 simp only [qz]
 refine rf_conv (r := 1) rfl rfl rfl UU3 UU142 (by decide) ?_
 simp only [qz]
 refine rg_move ?_
 simp only [qz]
 refine rf_conv (r := (n : Int)) rfl rfl rfl UU3 UU142 (by rw [IntKind.wrap_u64]; omega) ?_
 simp only [qz]
 apply rg_pure Rx Kx
 case hargs => exact Ax
 case h => exact fun w hw => bitsMul_any n Ox w
 case hz => exact Nz
 simp only [qz]
 refine rg_move ?_
 simp only [qz]
 refine rf_extract rfl rfl rfl rfl ?_
 simp only [qz]
 refine rf_extract rfl rfl rfl rfl ?_
 simp only [qz]
 refine rg_assign ?_
 simp only [qz]
 refine rg_assign ?_
 simp only [qz]
 refine rg_nil (ek_next (wk_seq (wk_seq ?_)))
 refine wk_region [0, 0, 0, 0, 0, 0] rfl Kx ?_
 simp only [qy]
 refine rg_move ?_
 simp only [qz]
 refine rfb_gtr rfl rfl rfl rfl ?_
 intro x h2
 obtain rfl : x = false := by (refine h2.symm.trans ?_; exact decide_eq_false Ox)
 clear h2
 simp only [qz]
 refine rg_move ?_
 simp only [qz]
 apply rg_soft_g
 case hg => rfl
 case hy => (intro w hw; go_simp; (try go_bits); exact Yld.mk _ _)
 simp only [qz]
 refine rfb_gtr rfl rfl rfl rfl ?_
 intro x h3
 obtain rfl : x = false := by (refine h3.symm.trans ?_; exact decide_eq_false Ox)
 clear h3
 simp only [qz]
 refine rf_pick rfl rfl rfl ?_
 simp only [qz]
 refine rg_nil (ek_next (wk_cond_f rfl (wk_skip (ek_next (wk_seq ?_)))))
 refine wk_region [0, 0, 1, 0] rfl Kx ?_
 simp only [qy]
 refine rg_move ?_
 simp only [qz]
 refine rf_conv (r := (n : Int)) rfl rfl rfl UU142 UU3 (wrap_ok Ox Ox) ?_
 simp only [qz]
 refine rg_makeZ (n := n) Rx rfl rfl Ox Nz (fun g1 => ?_)
 simp only [qz]
 refine rg_assign ?_
 simp only [qz]
 refine rg_nil (ek_next (wk_seq ?_))
 refine wk_region [0, 0, 1, 0] rfl Kx ?_
 simp only [qy]
 refine rg_move ?_
 simp only [qz]
 refine rg_move ?_
 simp only [qz]
 refine rg_copyZ (cs := [x]) (cur := List.replicate n 0) (r := 1) Rx rfl rfl (by simp [Nat.min_def]; omega) rfl (List.Perm.refl _) (fun w hw j y hj => by
  match j, hj with
  | 0, hj =>
   simp only [List.getElem?_cons_zero, Option.some.injEq] at hj; subst hj
   exact (Kn.cellB hw hlt (by simp) (off + 0)).trans (hcell 0 (by simp))
  | j + 1, hj => simp at hj) (by simp; omega) (repZ_one hn1) Nz ?_
 simp only [qz]
 refine rg_assign ?_
 simp only [qz]
 refine rg_nil (ek_next (wk_seq (wk_block ?_)))
 refine wk_loopF [8, 34, 35, 36, 37, 38, 39, 40, 41, 42, 43, 44, 45, 46] (fun mz f s => ∃ (k : Nat), f 8 = .int .i64 k ∧ s = ((g1, .cells (zs (repZ x n k)).toArray 3) :: []) ∧ mz = n - k ∧ 1 ≤ k ∧ k ≤ n) ((fun (k : Nat) => n - k) (1)) ?_ Kx ?_
 ·exact ⟨1, rfl, rfl, rfl, by omega, hn1⟩
 rintro mz f1 s ⟨k, hs1_8, rfl, hn, hd1, hd2⟩
 simp only [Act.putF, List.foldl_cons, List.foldl_nil, hs1_8, Act.put, Act.eval, q1, q2, q3, q4, q5, q6, q7, q8, q9, q10, q11, q12, q13, q14, q15, q16, q17, q18, Nat.reduceAdd, Bool.not_true, Bool.not_false]
 clear hs1_8
 refine wk_seq (wk_seq ?_)
 refine wk_region [0, 0, 0, 0] rfl Kx ?_
 simp only [qy]
 refine rg_move ?_
 simp only [qz]
 refine rg_move ?_
 simp only [qz]
 refine rf_len rfl rfl rfl UU23 ?_
 simp only [qz]
 refine rfb_lss rfl rfl rfl rfl ?_
 intro x h4
 cases x
 ·(try simp only [qd, ne_eq] at h4)
  simp only [qz]
  refine rg_nil (ek_next (wk_cond_f rfl (wk_exit (ek_then_exit (ek_then_exit (ek_block_exit (ek_next (wk_seq ?_))))))))
  refine wk_region [0, 0] rfl Kx ?_
  simp only [qy]
  refine rg_move ?_
  simp only [qz]
  refine rg_assign ?_
  simp only [qz]
  refine rg_nil (ek_next (wk_ret ?_))
  refine ek_ret (fun w hw => ⟨rfl, _, res_t _ rfl, ?_⟩)
  (try simp only [qz])
  obtain rfl : k = n := by omega
  have hO := OwnZ.whole (g := g1) (xs := List.replicate k x) (by simp; omega)
  rw [List.length_replicate, ← repZ_all] at hO
  exact ⟨_, _, _, rfl, by rw [← repZ_all]; exact hO, hw.made (List.Sublist.refl _)⟩
 (try simp only [qd, ne_eq] at h4)
 simp only [qz]
 refine rg_nil (ek_next (wk_cond_t rfl (wk_skip (ek_next (wk_block ?_)))))
 obtain ⟨m, hm1, hm2, hm3, hm4⟩ : ∃ m, m = Nat.min k (n - k) ∧ m ≤ k ∧ m ≤ n - k ∧ 1 ≤ m := ⟨_, rfl, Nat.min_le_left _ _, Nat.min_le_right _ _, Nat.le_min.2 ⟨by omega, by omega⟩⟩
 refine wk_draws _ _ [(0, 0), (1, 0), (2, 0), (3, 0), (4, 0), (5, 0), (6, 0), (7, 1), (8, 0), (9, 0)] [] Kx Kx (fun c d v a w h => by cases d <;> exact h) ((sk _ sn)) (fun e => by first | exact absurd e (by decide) | rfl) ?_
 simp only [List.map_cons, List.map_nil, List.getD_cons_zero, List.getD_cons_succ]
 refine rg_move ?_
 simp only [qz]
 refine rg_move ?_
 simp only [qz]
 refine rg_move ?_
 simp only [qz]
 refine rf_from (lo := k) (sz := 1) rfl rfl rfl rfl UU23 Kx Ox Ox (fun ad had => ?_)
 obtain rfl := had Ox
 simp only [qz]
 refine rg_move ?_
 simp only [qz]
 refine rg_move ?_
 simp only [qz]
 refine rf_sliceTo (n := k) (sz := 1) rfl rfl rfl rfl UU23 Kx Ox Ox ?_
 simp only [qz]
 refine rg_copyZ (cs := List.replicate m x) (r := (m : Int)) Rx rfl rfl (by rw [List.length_replicate, hm1]) (by rw [List.length_replicate]) (List.Perm.refl _) (fun w hw j y hj => by
  have hj1 : j < m := by
   rcases Nat.lt_or_ge j m with h | h
   ·exact h
   ·rw [List.getElem?_eq_none (by simpa using h)] at hj; cases hj
  rw [List.getElem?_replicate, if_pos hj1] at hj
  cases hj
  have e1 : (⟨g1, 0, none⟩ : Addr).add j = ⟨g1, 0 + j, none⟩ := Addr.add_mid ..
  rw [e1, Nat.zero_add]
  exact (Kn.hd0 hw).cell j |>.trans (by rw [List.getElem?_toArray, List.getElem?_map, repZ_get Ox]; rfl)) (by rw [repZ_len Ox, List.length_replicate]; omega) (repZ_step Ox) (fun _ h => by cases h; exact (sk _ sn)) ?_
 simp only [qz]
 refine rf_add rfl rfl rfl rfl (wrap_ok Ox Ox) ?_
 simp only [qz]
 refine rg_assign ?_
 simp only [qz]
 refine rg_nil (ek_block ?_)
 refine ek_roundF (n - (k + m)) Ox Kx ?_
 exact ⟨k + m, rfl, by rfl, by rfl, Ox, Ox⟩
theorem repeat_zero (x : Int) (a : Option Addr) (c : Nat) (w : World) (hA : AS w a (zs [x])) : Calls Tryz.prog 123 #[.slice a 1 c, .int .i64 0] w fun e w' => RetZ w 0 [] e w' := by
 obtain ⟨b, off, rfl, hlt, hcell⟩ := AS.openI hA (by simp)
 go_enter Tryz.func123, Tryz.ntmps123
 refine wk_start ?_
 refine wk_seq ?_
 refine wk_region [0] rfl Kx ?_
 simp only [qy]
 refine rg_assign ?_
 simp only [qz]
 refine rg_nil (ek_next (wk_seq (wk_seq ?_)))
 refine wk_region [0, 0] rfl Kx ?_
 simp only [qy]
 refine rg_move ?_
 simp only [qz]
 refine rfb_lss rfl rfl rfl rfl ?_
 intro x h1
 obtain rfl : x = false := by (refine h1.symm.trans ?_; exact decide_eq_false Ox)
 clear h1
 simp only [qz]
 refine rg_nil (ek_next (wk_cond_f rfl (wk_skip (ek_next (wk_seq ?_)))))
 refine wk_region [0, 0, 0, 0, 0, 1, 0, 0, 0, 0, 0] rfl Kx ?_
 simp only [qy]
 refine rg_move ?_
 simp only [qz]
 refine rf_len rfl rfl rfl UU23 ?_
 simp only [qz]
 refine rf_conv (r := 1) rfl rfl rfl UU3 UU142 (by decide) ?_
 simp only [qz]
 refine rg_move ?_
 simp only [qz]
 refine rf_conv (r := 0) rfl rfl rfl UU3 UU142 (by decide) ?_
 simp only [qz]
 apply rg_pure Rx Kx
 case hargs => exact Ax
 case h => exact fun w hw => bitsMul_any 0 Ox w
 case hz => exact Nz
 simp only [qz]
 refine rg_move ?_
 simp only [qz]
 refine rf_extract rfl rfl rfl rfl ?_
 simp only [qz]
 refine rf_extract rfl rfl rfl rfl ?_
 simp only [qz]
 refine rg_assign ?_
 simp only [qz]
 refine rg_assign ?_
 simp only [qz]
 refine rg_nil (ek_next (wk_seq (wk_seq ?_)))
 refine wk_region [0, 0, 0, 0, 0, 0] rfl Kx ?_
 simp only [qy]
 refine rg_move ?_
 simp only [qz]
 refine rfb_gtr rfl rfl rfl rfl ?_
 intro x h2
 obtain rfl : x = false := by (refine h2.symm.trans ?_; exact decide_eq_false Ox)
 clear h2
 simp only [qz]
 refine rg_move ?_
 simp only [qz]
 apply rg_soft_g
 case hg => rfl
 case hy => (intro w hw; go_simp; (try go_bits); exact Yld.mk _ _)
 simp only [qz]
 refine rfb_gtr rfl rfl rfl rfl ?_
 intro x h3
 obtain rfl : x = false := by (refine h3.symm.trans ?_; exact decide_eq_false Ox)
 clear h3
 simp only [qz]
 refine rf_pick rfl rfl rfl ?_
 simp only [qz]
 refine rg_nil (ek_next (wk_cond_f rfl (wk_skip (ek_next (wk_seq ?_)))))
 refine wk_region [0, 0, 1, 0] rfl Kx ?_
 simp only [qy]
 refine rg_move ?_
 simp only [qz]
 refine rf_conv (r := 0) rfl rfl rfl UU142 UU3 (by decide) ?_
 simp only [qz]
 refine rg_makeZ (n := 0) Rx rfl rfl Ox Nz (fun g1 => ?_)
 simp only [qz]
 refine rg_assign ?_
 simp only [qz]
 refine rg_nil (ek_next (wk_seq ?_))
 refine wk_region [0, 0, 1, 0] rfl Kx ?_
 simp only [qy]
 refine rg_move ?_
 simp only [qz]
 refine rg_move ?_
 simp only [qz]
 refine rg_copyZ (cs := []) (cur := []) (cur' := []) (r := 0) Rx rfl rfl (by simp [Nat.min_def]) rfl (List.Perm.refl _) (fun w hw j y hj => by simp at hj) (by simp) (by simp) Nz ?_
 simp only [qz]
 refine rg_assign ?_
 simp only [qz]
 refine rg_nil (ek_next (wk_seq (wk_block ?_)))
 refine wk_unroll 0 ?_
 refine wk_seq (wk_seq ?_)
 refine wk_region [0, 0, 0, 0] rfl Kx ?_
 simp only [qy]
 refine rg_move ?_
 simp only [qz]
 refine rg_move ?_
 simp only [qz]
 refine rf_len rfl rfl rfl UU23 ?_
 simp only [qz]
 refine rfb_lss rfl rfl rfl rfl ?_
 intro x h4
 obtain rfl : x = false := by (refine h4.symm.trans ?_; exact decide_eq_false Ox)
 clear h4
 simp only [qz]
 refine rg_nil (ek_next (wk_cond_f rfl (wk_exit (ek_then_exit (ek_then_exit (ek_block_exit (ek_next (wk_seq ?_))))))))
 refine wk_region [0, 0] rfl Kx ?_
 simp only [qy]
 refine rg_move ?_
 simp only [qz]
 refine rg_assign ?_
 simp only [qz]
 refine rg_nil (ek_next (wk_ret ?_))
 refine ek_ret (fun w hw => ⟨rfl, _, res_t _ rfl, ?_⟩)
 (try simp only [qz])
 exact ⟨_, _, _, rfl, OwnZ.whole (g := g1) (xs := []) (by simp), hw.made (List.Sublist.refl _)⟩
theorem repeat_any (x : Int) (a : Option Addr) (c : Nat) (n : Nat) (hn : n ≤ 5) (w : World) (hA : AS w a (zs [x])) : Calls Tryz.prog 123 #[.slice a 1 c, .int .i64 n] w fun e w' => RetZ w n (List.replicate n x) e w' := by
 rcases Nat.eq_zero_or_pos n with rfl | h
 ·exact repeat_zero x a c w hA
 exact repeat_pos x a c n hn h w hA
theorem repeat_int (x z : Int) (a : Option Addr) (c : Nat) (n : Nat) (hz : z = n) (hn : n ≤ 5) (w : World) (hA : AS w a (zs [x])) : Calls Tryz.prog 123 #[.slice a 1 c, .int .i64 z] w fun e w' => RetZ w n (List.replicate n x) e w' := by
 subst hz
 exact repeat_any x a c n hn w hA
theorem validB_N {n : Int} {xs : List Nm} (h : validB n xs = true) : ∃ N : Nat, n = N ∧ 1 ≤ N ∧ N ≤ 6 ∧ xs.length = N * N ∧ xs.length ≤ 36 ∧ allOk xs = true := by
 simp only [validB, Bool.and_eq_true, decide_eq_true_eq] at h
 obtain ⟨h1, h2, h3, h4⟩ := h
 obtain ⟨N, rfl⟩ : ∃ N : Nat, n = N := ⟨n.toNat, by omega⟩
 have h5 : xs.length = N * N := by
  have e : ((N * N : Nat) : Int) = (N : Int) * N := Int.natCast_mul N N
  omega
 have h6 : N * N ≤ 6 * 6 := Nat.mul_le_mul Ox Ox
 exact ⟨N, rfl, by omega, by omega, h5, by omega, h4⟩
theorem numV_ve (r : NR) : ∃ (v : Nm) (c : Int), numV r = .tuple #[nmV v, .int .i64 c] := by cases r <;> exact ⟨_, _, rfl⟩
def patL (xs : List Int) : List Int := if patB xs then modes xs xs.length else []
theorem pat_yes {xs : List Int} (h : ∀ j, j < xs.length → 0 ≤ gI xs j ∧ gI xs j ≤ 5) (h5 : (modes xs xs.length).length ≤ 5) : patB xs = true ∧ patL xs = modes xs xs.length := by
 have hm := modes_len h xs.length (Nat.le_refl _)
 have hb : patB xs = true := by
  unfold patB
  rw [okP_true h, Bool.true_and, decide_eq_true_eq]
  omega
 unfold patL
 rw [hb]
 exact ⟨rfl, rfl⟩
theorem pat_no {xs : List Int} (h : patB xs = false) : patL xs = [] := by unfold patL; rw [h]; rfl
theorem pat_bad {xs : List Int} {i : Nat} (hi : i < xs.length) (h : ∀ j, j < i → 0 ≤ gI xs j ∧ gI xs j ≤ 5) (hl : ((modes xs i).length : Int) = sT xs i) (hb : gI xs i < 0 ∨ 5 < gI xs i ∨ 5 < ((modes xs i).length : Int) + gI xs i) : patB xs = false := by
 cases hp : patB xs with
 | false => rfl
 | true =>
  unfold patB at hp
  rw [Bool.and_eq_true, decide_eq_true_eq] at hp
  have hok : ∀ j, j < xs.length → 0 ≤ gI xs j ∧ gI xs j ≤ 5 := fun j hj => okP_at hp.1 hj
  have h1 := hok i hi
  have h2 := sT_mono hok xs.length (show i + 1 ≤ xs.length by omega) (Nat.le_refl _)
  have h3 : sT xs (i + 1) = sT xs i + gI xs i := rfl
  omega
theorem modes_sT {xs : List Int} : ∀ {i : Nat}, (∀ j, j < i → 0 ≤ gI xs j ∧ gI xs j ≤ 5) → ((modes xs i).length : Int) = sT xs i
  | 0, _ => rfl
  | i + 1, h => by
    have h1 := modes_sT (i := i) fun j hj => h j Ox
    have h2 := h i Ox
    show ((modes xs i ++ List.replicate _ _).length : Int) = sT xs i + gI xs i
    rw [List.length_append, List.length_replicate]
    omega
theorem modes_at {xs : List Int} {i : Nat} : ∀ j, j < (modes xs i).length → 0 ≤ gI (modes xs i) j ∧ gI (modes xs i) j < i := fun j hj => by
  have : gI (modes xs i) j ∈ modes xs i := by
    unfold gI
    rw [List.getD_eq_getElem?_getD, List.getElem?_eq_getElem hj]
    exact List.getElem_mem hj
  exact modes_mem this
theorem pat_len {xs : List Int} (h : patB xs = true) : ((modes xs xs.length).length : Int) = sT xs xs.length ∧ (modes xs xs.length).length ≤ 5 := by
 unfold patB at h
 rw [Bool.and_eq_true, decide_eq_true_eq] at h
 have hok : ∀ j, j < xs.length → 0 ≤ gI xs j ∧ gI xs j ≤ 5 := fun j hj => okP_at h.1 hj
 have := modes_len hok xs.length (Nat.le_refl _)
 exact ⟨this, by omega⟩
def ampF (N : Nat) (xs : List Nm) (L M : List Int) (i k : Nat) : Nm := nm xs ((gI L i).toNat * N + (gI M k).toNat)
def ampR (n : Int) (xs : List Nm) (p r : List Int) : NR :=
  if validB n xs then (if (p.length : Int) = n ∧ (r.length : Int) = n then (if patB p = true ∧ patB r = true ∧ (modes p p.length).length = (modes r r.length).length then perF (modes p p.length).length (ampF n.toNat xs (modes r r.length) (modes p p.length)) else .error 2) else .error 21) else .error 20
def RetP (w : World) (b : Bool) (L : List Int) (e : Ending) (w' : World) : Prop := ∃ v u, e = .returned (.tuple #[v, .bool b]) ∧ OwnZ u v L ∧ Made w u w'
section
variable {R : Option Nat} {ops : Array Oper} {Q : Exit → Act → World → Prop} {B : World} {F : List Nat} {s0 : Option (List Blk × List Blk)}
variable {l : List (Oper × Nat)} {a : Act} {s S : List Blk} {d : Option Tmp} {op : Op} {t : TypeId} {p : String} {af : Array Edge} {v : Value}
theorem rg_retZ {f : Nat} {cargs : Array Operand} {at_ : Array TypeId} {args : Array Value} {n : Nat} {L : List Int} {P : Program} {gd : Option (Nat × Bool)} (hg : Region.wanted ⟨d, .call ⟨.value (.func f), cargs, at_⟩, t, p, af, gd⟩ (yielded ops a.tmps) = true) (hgo : isGo P f = true)
    (h : ∀ w, Kn B F s w → Calls P f args w (RetZ w n L)) (hargs : cargs.map a.eval = args)
    (hz : ∀ z ∈ s0, z.1.Sublist s) (k : ∀ (g vc : Nat) (u : List Blk), OwnZ u (.slice (some ⟨g, 0, none⟩) n vc) L → Rg R P ops Q B F s0 l (a.put d (.slice (some ⟨g, 0, none⟩) n vc)) (u ++ s)) :
    Rg R P ops Q B F s0 ((⟨d, .call ⟨.value (.func f), cargs, at_⟩, t, p, af, gd⟩, 1) :: l) a s :=
  rg_call hg hgo hargs fun w K => (h w K).mono fun e w' ⟨g, c, u, he, hO, hm⟩ =>
    ⟨_, u ++ s, he, K.add hm, fun z hz' => (hz z hz').trans (List.sublist_append_right _ _), k g c u hO⟩
theorem rg_retPb {f : Nat} {cargs : Array Operand} {at_ : Array TypeId} {args : Array Value} {b : Bool} {L : List Int} {P : Program} {gd : Option (Nat × Bool)} (hg : Region.wanted ⟨d, .call ⟨.value (.func f), cargs, at_⟩, t, p, af, gd⟩ (yielded ops a.tmps) = true) (hgo : isGo P f = true)
    (h : ∀ w, Kn B F s w → Calls P f args w (RetP w b L)) (hargs : cargs.map a.eval = args)
    (hz : ∀ z ∈ s0, z.1.Sublist s) (k : ∀ (va : Option Addr) (vc : Nat) (u : List Blk), OwnZ u (.slice va L.length vc) L → Rg R P ops Q B F s0 l (a.put d (.tuple #[.slice va L.length vc, .bool b])) (u ++ s)) :
    Rg R P ops Q B F s0 ((⟨d, .call ⟨.value (.func f), cargs, at_⟩, t, p, af, gd⟩, 1) :: l) a s :=
  rg_call hg hgo hargs fun w K => (h w K).mono fun e w' ⟨v, u, he, hO, hm⟩ => by
    obtain ⟨a', c', rfl, -⟩ := Own.val hO
    exact ⟨_, u ++ s, he, K.add hm, fun z hz' => (hz z hz').trans (List.sublist_append_right _ _), k a' c' u hO⟩
theorem rg_appZs {so xo : Operand} {u : List Blk} {xs ys : List Int} {m c r : Nat} {ad : Addr} {gd : Option (Nat × Bool)} (hg : Region.wanted ⟨d, .call ⟨.builtin .append, #[so, xo], #[23, 23]⟩, t, p, af, gd⟩ (yielded ops a.tmps) = true)
    (hs : a.eval so = v) (hown : OwnZ u v xs) (hx : a.eval xo = .slice (some ad) m c) (hm : ys.length = m) (hr : (xs ++ ys).length = r) (hb : r ≤ 1000000) (hp : S.Perm (u ++ s))
    (hA : ∀ w, Kn B F S w → AS w (some ad) (zs ys))
    (hzz : ∀ z ∈ s0, z.1.Sublist s) (h : ∀ u' a' c', OwnZ u' (.slice a' r c') (xs ++ ys) → Rg R Tryz.prog ops Q B F s0 l (a.put d (.slice a' r c')) (u' ++ s)) :
    Rg R Tryz.prog ops Q B F s0 ((⟨d, .call ⟨.builtin .append, #[so, xo], #[23, 23]⟩, t, p, af, gd⟩, 1) :: l) a S := by
  obtain ⟨i, hi, hz, hsz, hby⟩ := info_partsN zInfo
  subst hm hr
  refine rg_append (u := u) (s := s) (i := i) (z := .int .i64 0) (size := 1) (bytes := 8) (n := xs.length) (m := ys.length) (c := c) (xs := zs xs) (news := zs ys) (ad := ad) hg
    UU23 hi hz hsz hby rfl (by decide) hs hown hx (by simp) (fun w K j y hj => ?_) (by intro v hv; obtain ⟨x, -, rfl⟩ := List.mem_map.1 hv; rfl) (by rw [List.length_append] at hb; simp only [maxLen]; omega) (by rw [List.length_append] at hb; omega) hp hzz ?_
  · have hne : zs ys ≠ [] := fun e => by rw [e] at hj; simp at hj
    obtain ⟨b, off, e, _, hc⟩ := hA w K hne
    cases e
    have hj' : j < (zs ys).length := by
      rcases Nat.lt_or_ge j (zs ys).length with h | h
      · exact h
      · rw [List.getElem?_eq_none h] at hj; cases hj
    have e1 : (⟨b, off, none⟩ : Addr).add j = ⟨b, off + j, none⟩ := Addr.add_mid ..
    rw [e1, hc j hj', hj]
  · intro u' v' hO _
    obtain ⟨a', c', rfl, -⟩ := Own.val hO
    have hO' : OwnZ u' (.slice a' (xs ++ ys).length c') (xs ++ ys) := by
      have e : zs (xs ++ ys) = zs xs ++ zs ys := by simp
      unfold OwnZ
      rw [e, List.length_append]
      exact hO
    rw [← List.length_append]
    exact h u' a' c' hO'
end
theorem OwnZ.asI {B w : World} {F : List Nat} {u s : List Blk} {a : Option Addr} {n c : Nat} {xs : List Int} (h : OwnZ u (.slice a n c) xs) (K : Kn B F (u ++ s) w) : AS w a (zs xs) := by
 obtain ⟨a', c', e, h'⟩ := Own.as h K
 cases e
 exact h'
theorem pattern_any (xs : List Int) (a : Option Addr) (c : Nat) (hl : xs.length ≤ 1000000) (w : World) (hA : AS w a (zs xs)) : Calls Tryz.prog 84 #[.slice a xs.length c] w fun e w' => RetP w (patB xs) (patL xs) e w' := by
 go_enter Tryz.func84, Tryz.ntmps84
 refine wk_start ?_
 refine wk_seq ?_
 refine wk_region [0, 0] rfl Kx ?_
 simp only [qy]
 refine rg_assign ?_
 simp only [qz]
 refine rg_assign ?_
 simp only [qz]
 refine rg_nil (ek_next (wk_seq ?_))
 refine wk_region [0] rfl Kx ?_
 simp only [qy]
 refine rg_assign ?_
 simp only [qz]
 refine rg_nil (ek_next (wk_seq (wk_seq ?_)))
 refine wk_region [0, 0, 0] rfl Kx ?_
 simp only [qy]
 refine rg_move ?_
 simp only [qz]
 refine rf_len rfl rfl rfl UU23 ?_
 simp only [qz]
 refine rg_move ?_
 simp only [qz]
 refine rg_nil (ek_next (wk_block ?_))
 refine wk_loopF [2, 3, 4, 5, 6, 9, 10, 11, 12, 13, 14, 15, 16, 17, 18, 19, 20, 21, 22, 23, 24, 25, 26, 27, 28, 29, 30, 31, 32, 33] (fun mz f s => ∃ (i : Nat) (va : Option Addr) (vc : Nat) (u : List Blk), f 4 = .slice va (modes xs i).length vc ∧ f 9 = .int .i64 i ∧ s = (u ++ []) ∧ mz = xs.length - i ∧ i ≤ xs.length ∧ Hid (∀ j, j < i → 0 ≤ gI xs j ∧ gI xs j ≤ 5) ∧ (modes xs i).length ≤ 5 ∧ OwnZ u (.slice va (modes xs i).length vc) (modes xs i)) ((fun (i : Nat) (va : Option Addr) (vc : Nat) (u : List Blk) => xs.length - i) (0) (none) (0) ([])) ?_ Kx ?_
 ·exact ⟨0, none, 0, [], rfl, rfl, rfl, rfl, by omega, Lib.hid (fun _ h => by omega), Nat.zero_le _, Own.nil _ _⟩
 rintro mz f1 s ⟨i, va, vc, u, hs1_4, hs1_9, rfl, hn, hd1, hd2, hd3, hd4⟩
 simp only [Act.putF, List.foldl_cons, List.foldl_nil, hs1_4, hs1_9, Act.put, Act.eval, q1, q2, q3, q4, q5, q6, q7, q8, q9, q10, q11, q12, q13, q14, q15, q16, q17, q18, Nat.reduceAdd, Bool.not_true, Bool.not_false]
 clear hs1_4 hs1_9
 refine wk_seq ?_
 refine wk_region [0] rfl Kx ?_
 simp only [qy]
 refine rfb_lss rfl rfl rfl rfl ?_
 intro x h1
 cases x
 ·(try simp only [qd, ne_eq] at h1)
  simp only [qz]
  refine rg_nil (ek_next (wk_seq (wk_cond_f rfl (wk_exit (ek_then_exit (ek_then_exit (ek_block_exit (ek_next (wk_seq ?_)))))))))
  refine wk_region [0, 0, 0] rfl Kx ?_
  simp only [qy]
  refine rg_move ?_
  simp only [qz]
  refine rg_assign ?_
  simp only [qz]
  refine rg_assign ?_
  simp only [qz]
  refine rg_nil (ek_next (wk_ret ?_))
  refine ek_ret (fun w hw => ⟨rfl, _, res_tt _ _ rfl, ?_⟩)
  (try simp only [qz])
  obtain rfl : i = xs.length := by omega
  obtain ⟨e1, e2⟩ := pat_yes hd2.out hd3
  rw [e1, e2]
  exact ⟨_, u, rfl, hd4, hw.made (List.sublist_append_left _ _)⟩
 (try simp only [qd, ne_eq] at h1)
 simp only [qz]
 refine rg_nil (ek_next (wk_seq (wk_cond_t rfl (wk_skip (ek_next (wk_seq (wk_block (wk_seq ?_))))))))
 obtain ⟨b, off, rfl, hlt, hcell⟩ := AS.openI hA Ox
 refine wk_region [0, 0, 0, 0, 0] rfl Kx ?_
 simp only [qy]
 refine rg_move ?_
 simp only [qz]
 refine rf_indexS (n := i) (sz := 1) (j := off + i) rfl rfl rfl rfl UU23 Kx Ox Ox Ox ?_
 simp only [qz]
 refine rf_load (v := .int .i64 (gI xs i)) rfl rfl rfl UU3 rfl (fun w hw => (Kn.cellB hw hlt (by simp) (off + i)).trans (hcell i Ox)) ?_
 simp only [qz]
 refine rg_assign ?_
 simp only [qz]
 refine rg_assign ?_
 simp only [qz]
 refine rg_nil (ek_next (wk_seq (wk_seq ?_)))
 refine wk_region [0, 0, 0, 0, 0, 0, 0, 0, 0, 0, 0, 0, 0] rfl Kx ?_
 simp only [qy]
 refine rg_move ?_
 simp only [qz]
 refine rfb_lss rfl rfl rfl rfl ?_
 intro x h2
 cases x
 ·(try simp only [qd, ne_eq] at h2)
  simp only [qz]
  refine rg_move ?_
  simp only [qz]
  apply rg_soft_g
  case hg => rfl
  case hy => (intro w hw; go_simp; (try go_bits); exact Yld.mk _ _)
  simp only [qz]
  refine rfb_gtr rfl rfl rfl rfl ?_
  intro x h3
  cases x
  ·(try simp only [qd, ne_eq] at h3)
   simp only [qz]
   refine rf_pick rfl rfl rfl ?_
   simp only [qz]
   refine rg_move ?_
   simp only [qz]
   apply rg_soft_g
   case hg => rfl
   case hy => (intro w hw; go_simp; (try go_bits); exact Yld.mk _ _)
   simp only [qz]
   refine rf_len rfl rfl rfl UU23 ?_
   simp only [qz]
   apply rg_soft_g
   case hg => rfl
   case hy => (intro w hw; go_simp; (try go_bits); exact Yld.mk _ _)
   simp only [qz]
   refine rf_add rfl rfl rfl rfl (wrap_ok Ox Ox) ?_
   simp only [qz]
   refine rfb_gtr rfl rfl rfl rfl ?_
   intro x h4
   cases x
   ·(try simp only [qd, ne_eq] at h4)
    simp only [qz]
    refine rf_pick rfl rfl rfl ?_
    simp only [qz]
    refine rg_nil (ek_next (wk_cond_f rfl (wk_skip (ek_next ?_))))
    have hc0 : 0 ≤ gI xs i ∧ gI xs i ≤ 5 := ⟨by omega, by omega⟩
    have hc5 : (gI xs i).toNat ≤ 5 := by omega
    have hc6 : (modes xs i).length + (gI xs i).toNat ≤ 5 := by omega
    refine wk_region [0, 0, 1, 0, 1, 1, 0] rfl Kx ?_
    simp only [qy]
    refine rg_move ?_
    simp only [qz]
    refine rg_move ?_
    simp only [qz]
    refine rg_newS (cs := ?_) (ty := ?_) (n := 1) (c := 1) Rx (fun w => ?_) Nz (fun g1 => ?_); rotate_left 2
    focus (go_simp; rfl)
    simp only [qz]
    refine rg_move ?_
    simp only [qz]
    apply (rg_retZ (n := (gI xs i).toNat) (L := List.replicate (gI xs i).toNat (i : Int))) Rx Kx
    case hargs => exact Ax
    case h => exact fun w hw => repeat_int (i : Int) _ _ 1 (gI xs i).toNat Ox hc5 w ((OwnZ.one (g := g1) (i : Int)).asI (s := []) (by exact hw.sub (List.Sublist.cons₂ _ (List.nil_sublist _))))
    case hz => exact Nz
    intro gR vR uR hOR
    simp only [qz]
    refine rg_appZs (xs := modes xs i) (ys := List.replicate (gI xs i).toNat (i : Int)) (r := (modes xs i ++ List.replicate (gI xs i).toNat (i : Int)).length) Rx rfl hd4 rfl (by simp) rfl (by rw [List.length_append, List.length_replicate]; omega) ((((((List.Perm.refl _).cons _).trans (List.perm_middle (l₁ := u)).symm).append_left _).trans (List.perm_append_comm_assoc uR u _)).trans ((List.Perm.refl _).append_left _)) (fun w hw => hOR.asI (hw.perm (List.Perm.refl _))) Nz (fun uP aP cP hOP => ?_)
    simp only [qz]
    refine rg_assign ?_
    simp only [qz]
    refine rg_nil (ek_block (ek_next ?_))
    refine wk_region [0, 0] rfl Kx ?_
    simp only [qy]
    refine rf_add rfl rfl rfl rfl (wrap_ok Ox Ox) ?_
    simp only [qz]
    refine rg_move ?_
    simp only [qz]
    refine rg_nil ?_
    refine ek_sub (List.Sublist.append_left ((sk _ sn).trans (List.sublist_append_right _ _)) _) ?_
    refine ek_roundF (xs.length - (i + 1)) Ox Kx ?_
    exact ⟨i + 1, aP, cP, uP, rfl, rfl, by rfl, by rfl, Ox, (Lib.hid (fun j hj => by rcases (by omega : j < i ∨ j = i) with h | rfl; exact hd2.out j h; exact ⟨by omega, by omega⟩)), (by show (modes xs i ++ List.replicate _ _).length ≤ 5; rw [List.length_append, List.length_replicate]; omega), hOP⟩
   (try simp only [qd, ne_eq] at h4)
   simp only [qz]
   refine rf_pick rfl rfl rfl ?_
   simp only [qz]
   refine rg_nil (ek_next (wk_cond_t rfl (wk_seq ?_)))
   refine wk_region [0, 0] rfl Kx ?_
   simp only [qy]
   refine rg_assign ?_
   simp only [qz]
   refine rg_assign ?_
   simp only [qz]
   refine rg_nil (ek_next (wk_ret (ek_then_ret (ek_block_ret (ek_then_ret (ek_then_ret (ek_block_ret (ek_then_ret ?_))))))))
   refine ek_ret (fun w hw => ⟨rfl, _, res_tt _ _ rfl, ?_⟩)
   (try simp only [qz])
   have hpb := pat_bad (xs := xs) (i := i) Ox hd2.out (modes_sT hd2.out) Ox
   rw [hpb, pat_no hpb]
   exact ⟨_, [], rfl, Own.nil _ _, .nil hw.below⟩
  (try simp only [qd, ne_eq] at h3)
  simp only [qz]
  refine rf_pick rfl rfl rfl ?_
  simp only [qz]
  refine rg_move ?_
  simp only [qz]
  refine rg_skip Rx ?_
  simp only [qz]
  refine rg_skip Rx ?_
  simp only [qz]
  refine rg_skip Rx ?_
  simp only [qz]
  refine rg_skip Rx ?_
  simp only [qz]
  refine rg_skip Rx ?_
  simp only [qz]
  refine rf_pick rfl rfl rfl ?_
  simp only [qz]
  refine rg_nil (ek_next (wk_cond_t rfl (wk_seq ?_)))
  refine wk_region [0, 0] rfl Kx ?_
  simp only [qy]
  refine rg_assign ?_
  simp only [qz]
  refine rg_assign ?_
  simp only [qz]
  refine rg_nil (ek_next (wk_ret (ek_then_ret (ek_block_ret (ek_then_ret (ek_then_ret (ek_block_ret (ek_then_ret ?_))))))))
  refine ek_ret (fun w hw => ⟨rfl, _, res_tt _ _ rfl, ?_⟩)
  (try simp only [qz])
  have hpb := pat_bad (xs := xs) (i := i) Ox hd2.out (modes_sT hd2.out) Ox
  rw [hpb, pat_no hpb]
  exact ⟨_, [], rfl, Own.nil _ _, .nil hw.below⟩
 (try simp only [qd, ne_eq] at h2)
 simp only [qz]
 refine rg_move ?_
 simp only [qz]
 refine rg_skip Rx ?_
 simp only [qz]
 refine rg_skip Rx ?_
 simp only [qz]
 refine rf_pick rfl rfl rfl ?_
 simp only [qz]
 refine rg_move ?_
 simp only [qz]
 refine rg_skip Rx ?_
 simp only [qz]
 refine rg_skip Rx ?_
 simp only [qz]
 refine rg_skip Rx ?_
 simp only [qz]
 refine rg_skip Rx ?_
 simp only [qz]
 refine rg_skip Rx ?_
 simp only [qz]
 refine rf_pick rfl rfl rfl ?_
 simp only [qz]
 refine rg_nil (ek_next (wk_cond_t rfl (wk_seq ?_)))
 refine wk_region [0, 0] rfl Kx ?_
 simp only [qy]
 refine rg_assign ?_
 simp only [qz]
 refine rg_assign ?_
 simp only [qz]
 refine rg_nil (ek_next (wk_ret (ek_then_ret (ek_block_ret (ek_then_ret (ek_then_ret (ek_block_ret (ek_then_ret ?_))))))))
 refine ek_ret (fun w hw => ⟨rfl, _, res_tt _ _ rfl, ?_⟩)
 (try simp only [qz])
 have hpb := pat_bad (xs := xs) (i := i) Ox hd2.out (modes_sT hd2.out) Ox
 rw [hpb, pat_no hpb]
 exact ⟨_, [], rfl, Own.nil _ _, .nil hw.below⟩
theorem amp1_any (xs : List Nm) (a : Option Addr) (c : Nat) (N : Nat) (hN : N ≤ 6) (hlx : Hid (xs.length = N * N)) (L M : List Int) (a1 a2 : Option Addr) (c1 c2 : Nat) (i k gm gi go : Nat) (hi : i < L.length) (hk : k < M.length) (hb1 : ∀ j, j < L.length → 0 ≤ gI L j ∧ gI L j < N) (hb2 : ∀ j, j < M.length → 0 ≤ gI M j ∧ gI M j < N) (w : World) (hA : AS w a (nms xs)) (hA1 : AS w a1 (zs L)) (hA2 : AS w a2 (zs M)) (hM : Hd w gm 28 #[.int .i64 N, .slice a xs.length c]) (hI : Hd w gi 23 #[.slice a1 L.length c1]) (hO : Hd w go 23 #[.slice a2 M.length c2]) : Calls Tryz.prog 86 #[.int .i64 (i : Int), .int .i64 (k : Int), .pointer (some ⟨gm, 0, none⟩), .pointer (some ⟨gi, 0, none⟩), .pointer (some ⟨go, 0, none⟩)] w fun e w' => e = .returned (nmV (ampF N xs L M i k)) ∧ Below w.heap.size w w' := by
 obtain ⟨b1, off1, rfl, hlt1, hcell1⟩ := AS.openI hA1 Ox
 obtain ⟨b2, off2, rfl, hlt2, hcell2⟩ := AS.openI hA2 Ox
 obtain ⟨r1, hr1⟩ : ∃ r : Nat, gI L i = r := ⟨(gI L i).toNat, by have := hb1 i hi; omega⟩
 obtain ⟨r2, hr2⟩ : ∃ r : Nat, gI M k = r := ⟨(gI M k).toNat, by have := hb2 k hk; omega⟩
 have hr1N : r1 < N := by have := hb1 i hi; omega
 have hr2N : r2 < N := by have := hb2 k hk; omega
 replace hr1 := Lib.hid hr1
 replace hr2 := Lib.hid hr2
 go_enter Tryz.func86, Tryz.ntmps86
 refine wk_start ?_
 refine wk_seq ?_
 refine wk_region [1] rfl Kx ?_
 simp only [qy]
 refine Rgn fun g1 => ?_
 simp only [qz]
 refine rg_nil (ek_next (wk_seq ?_))
 refine wk_draws_m (hz1 := (sk _ sn)) [(0, 0), (1, 0), (2, 0), (3, 0), (4, 0), (5, 0), (6, 0), (7, 0), (8, 0), (9, 0), (10, 1), (11, 2)] 11 Kx Kx (fun c d v a w h => by cases d <;> exact h) ?_
 simp only [List.map_cons, List.map_nil, List.getD_cons_zero, List.getD_cons_succ]
 refine rf_loadC (n := 2) (vs := [.int .i64 N, .slice a xs.length c]) rfl rfl rfl UU28 rfl Kx rfl (fun w hw => cells_range (Kn.hdB hw hM (by simp)) 0 2) ?_
 simp only [qz]
 refine rf_build (cs := fun a => #[cellAt (a.eval (.tmp 8)) 0, cellAt (a.eval (.tmp 8)) 1]) rfl rfl Kx ?_
 simp only [qz]
 refine rf_load (v := .slice (some ⟨b1, off1, none⟩) L.length c1) rfl rfl rfl UU23 rfl (fun w hw => (Kn.hdB hw hI (by simp)).at (i := 0) rfl) ?_
 simp only [qz]
 refine rg_move ?_
 simp only [qz]
 refine rf_indexS (n := i) (sz := 1) (j := off1 + i) rfl rfl rfl rfl UU23 Kx Ox Ox Ox ?_
 simp only [qz]
 refine rf_load (v := .int .i64 (r1 : Int)) rfl rfl rfl UU3 rfl (fun w hw => (Kn.cellB hw hlt1 (by simp) (off1 + i)).trans ((hcell1 i Ox).trans (by rw [hr1.out]))) ?_
 simp only [qz]
 refine rf_load (v := .slice (some ⟨b2, off2, none⟩) M.length c2) rfl rfl rfl UU23 rfl (fun w hw => (Kn.hdB hw hO (by simp)).at (i := 0) rfl) ?_
 simp only [qz]
 refine rg_move ?_
 simp only [qz]
 refine rf_indexS (n := k) (sz := 1) (j := off2 + k) rfl rfl rfl rfl UU23 Kx Ox Ox Ox ?_
 simp only [qz]
 refine rf_load (v := .int .i64 (r2 : Int)) rfl rfl rfl UU3 rfl (fun w hw => (Kn.cellB hw hlt2 (by simp) (off2 + k)).trans ((hcell2 k Ox).trans (by rw [hr2.out]))) ?_
 simp only [qz]
 apply rg_pure Rx Kx
 case hargs => exact Ax
 case h => exact fun w hw => at_any N r1 r2 xs a c hlx.out hN hr1N hr2N w (hA.kn0 hw)
 case hz => exact (fun _ h => by cases h; exact (sc _ sn))
 simp only [qz]
 refine rf_storeRM (n := 5) rfl rfl Kx rfl rfl (UpdR.here _ _ _ Nl) (sk _ sn) ?_
 simp only [qz, Nat.reduceAdd]
 refine rg_nil (ek_next (wk_ret ?_))
 refine ek_ret (fun w hw => ⟨rfl, _, run_results1 rfl rfl (Kn.hd0 hw) UU44 rfl Kx, ?_⟩)
 (try simp only [qz])
 exact ⟨by unfold ampF; rw [hr1.out, hr2.out, Int.toNat_natCast, Int.toNat_natCast], hw.below⟩
end Go.Proofs.YthjjkajjpejcdaaGreat
