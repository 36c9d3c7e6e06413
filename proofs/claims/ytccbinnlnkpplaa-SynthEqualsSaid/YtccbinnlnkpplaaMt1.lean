/- Package matrix: matrices that are made by a function; the identity. -/
import Derived.Test.YtccbinnlnkpplaaSq
import Derived.Test.YtccbinnlnkpplaaMg
import Derived.Test.YtccbinnlnkpplaaRt
import Derived.Test.YtccbinnlnkpplaaEq
import Derived.Test.YtccbinnlnkpplaaWs4
namespace Go.Proofs.Ytccbinnlnkpplaa
set_option linter.all false
open Go.RowKit

set_option maxRecDepth 100000 in
set_option maxHeartbeats 1000000 in
theorem made_any (N : Nat) (hN : N ≤ 6) (fe : Nat → Nat → NR) (fv : Value) (hE : ∀ i k c, i < N → k < N → fe i k = .error c → c ≠ 0) (w : World) (hF : FnV w fv (D2 N N fun i k => numV (fe i k))) : Calls Try.prog 95 #[.int .i64 N, fv] w fun e w' => RetR w N (madeR N fe) e w' := by
  go_enter Try.func95, Try.ntmps95
  refine wk_start ?_
  refine wk_seq ?_
  refine wk_region [1, 0] rfl Kx ?_
  simp only [qy]
  refine Rgn fun g1 => ?_
  simp only [qz]
  refine rg_assign ?_
  simp only [qz]
  refine rg_nil (ek_next (wk_seq ?_))
  refine wk_region [0, 0, 1, 1] rfl Kx ?_
  simp only [qy]
  refine rg_move ?_
  simp only [qz]
  refine rf_build (cs := fun a => #[a.eval (.tmp 11), .slice none 0 0]) rfl rfl Kx ?_
  simp only [qz]
  refine Rgn fun g2 => ?_
  simp only [qz]
  refine rf_storeR (n := 2) rfl rfl Kx rfl rfl (UpdR.here _ _ _ Nl) Nz ?_
  simp only [qz, Nat.reduceAdd]
  refine rg_nil (ek_next (wk_seq (wk_seq ?_)))
  refine wk_region [0, 0] rfl Kx ?_
  simp only [qy]
  refine rg_move ?_
  simp only [qz]
  refine rg_move ?_
  simp only [qz]
  refine rg_nil (ek_next (wk_block ?_))
  refine wk_loopF [5, 7, 8, 9, 10, 14, 15, 16, 17, 18, 19, 20, 21, 22, 23, 24, 25, 26, 27, 28, 29, 30, 31, 32, 33, 34, 35, 36, 37, 38, 39] (fun mz f s => ∃ (i : Nat) (l : List Nm) (u : List Blk) (av : Option Addr) (cv : Nat), f 14 = .int .i64 i ∧ s = (u ++ ((g2, .cells #[.int .i64 N, .slice av l.length cv] 38) :: ((g1, .cells #[.int .i64 0, .slice none 0 0] 38) :: []))) ∧ mz = N - i ∧ i ≤ N ∧ Hid (gather (fun t => fe (t / N) (t % N)) (i * N) = .ok l) ∧ OwnN u (.slice av l.length cv) l) ((fun (i : Nat) (l : List Nm) (u : List Blk) (av : Option Addr) (cv : Nat) => N - i) (0) ([]) ([]) (none) (0)) ?_ Kx ?_
  · exact ⟨0, [], [], none, 0, rfl, rfl, rfl, by omega, (Lib.hid (by (try rw [Nat.zero_mul]); (try rfl))), OwnG.nil⟩
  rintro mz f1 s ⟨i, l, u, av, cv, hs1_14, rfl, hn, hd1, hd2, hd3⟩
  simp only [Act.putF, List.foldl_cons, List.foldl_nil, hs1_14, Act.put, Act.eval, q1, q2, q3, q4, q5, q6, q7, q8, q9, q10, q11, q12, q13, q14, q15, q16, q17, q18, Nat.reduceAdd, Bool.not_true, Bool.not_false]
  clear hs1_14
  refine wk_seq ?_
  refine wk_region [0] rfl Kx ?_
  simp only [qy]
  refine rfb_lss rfl rfl rfl rfl ?_
  intro x h1
  cases x
  · (try simp only [qd, ne_eq] at h1)
    simp only [qz]
    refine rg_nil (ek_next (wk_seq (wk_cond_f rfl (wk_exit (ek_then_exit (ek_then_exit (ek_block_exit (ek_next (wk_seq ?_)))))))))
    refine wk_region [0, 1, 0] rfl Kx ?_
    simp only [qy]
    refine rf_loadR (n := 2) rfl rfl rfl Try.underlying38 rfl Kx (fun w hw => Kn.hd0 (Kn.tlU hw)) rfl rfl ?_
    simp only [qz]
    refine rf_storeR (n := 2) rfl rfl Kx rfl rfl (UpdR.app _ (UpdR.there _ (UpdR.here _ _ _ Nl))) Nz ?_
    simp only [qz, Nat.reduceAdd]
    refine rg_assign ?_
    simp only [qz]
    refine rg_nil (ek_next (wk_ret ?_))
    refine ek_ret (fun w hw => ⟨rfl, _, run_results2 rfl rfl (Kn.hd0 (Kn.tl (Kn.tlU hw))) Try.underlying38 rfl Kx, ?_⟩)
    (try simp only [qz])
    obtain rfl : N = i := by omega
    have hg := hd2.out
    exact ⟨.slice av l.length cv, u, by unfold madeR; rw [hg]; rfl, (by unfold madeR; rw [hg]; exact hd3), hw.made (List.sublist_append_left _ _)⟩
  (try simp only [qd, ne_eq] at h1)
  simp only [qz]
  refine rg_nil (ek_next (wk_seq (wk_cond_t rfl (wk_skip (ek_next (wk_seq (wk_block (wk_seq ?_))))))))
  refine wk_region [0, 0] rfl Kx ?_
  simp only [qy]
  refine rg_move ?_
  simp only [qz]
  refine rg_assign ?_
  simp only [qz]
  refine rg_nil (ek_next (wk_seq ?_))
  refine wk_region [0, 0] rfl Kx ?_
  simp only [qy]
  refine rg_move ?_
  simp only [qz]
  refine rg_move ?_
  simp only [qz]
  refine rg_nil (ek_next (wk_block ?_))
  refine wk_loopF [5, 8, 9, 10, 18, 19, 20, 21, 22, 23, 24, 25, 26, 27, 28, 29, 30, 31, 32, 33, 34, 35, 36, 37, 38] (fun mz f s => ∃ (k : Nat) (l : List Nm) (u : List Blk) (av : Option Addr) (cv : Nat), f 18 = .int .i64 k ∧ s = (u ++ ((g2, .cells #[.int .i64 N, .slice av l.length cv] 38) :: ((g1, .cells #[.int .i64 0, .slice none 0 0] 38) :: []))) ∧ mz = N - k ∧ k ≤ N ∧ Hid (gather (fun t => fe (t / N) (t % N)) (i * N + k) = .ok l) ∧ OwnN u (.slice av l.length cv) l) ((fun (k : Nat) (l : List Nm) (u : List Blk) (av : Option Addr) (cv : Nat) => N - k) (0) (l) (u) (av) (cv)) ?_ Kx ?_
  · exact ⟨0, l, u, av, cv, rfl, rfl, rfl, by omega, hd2, hd3⟩
  rintro mz f2 s ⟨k, l, u, av, cv, hs2_18, rfl, hn, he1, he2, he3⟩
  simp only [Act.putF, List.foldl_cons, List.foldl_nil, hs2_18, Act.put, Act.eval, q1, q2, q3, q4, q5, q6, q7, q8, q9, q10, q11, q12, q13, q14, q15, q16, q17, q18, Nat.reduceAdd, Bool.not_true, Bool.not_false]
  clear hs2_18
  have hll : l.length ≤ 36 := by (have h1 := gather_len he2.out; have h2 := ix_small (i := i) (N := N) Ox hN; omega)
  refine wk_seq ?_
  refine wk_region [0] rfl Kx ?_
  simp only [qy]
  refine rfb_lss rfl rfl rfl rfl ?_
  intro x h2
  cases x
  · (try simp only [qd, ne_eq] at h2)
    simp only [qz]
    refine rg_nil (ek_next (wk_seq (wk_cond_f rfl (wk_exit (ek_then_exit (ek_then_exit (ek_block_exit (ek_block (ek_next ?_)))))))))
    refine wk_region [0, 0] rfl Kx ?_
    simp only [qy]
    refine rf_add rfl rfl rfl rfl (wrap_ok Ox Ox) ?_
    simp only [qz]
    refine rg_move ?_
    simp only [qz]
    refine rg_nil ?_
    obtain rfl : N = k := by omega
    refine ek_roundF (N - (i + 1)) Ox Kx ?_
    exact ⟨i + 1, l, u, av, cv, rfl, by rfl, by rfl, Ox, (Lib.hid (by rw [← he2.out, Nat.add_mul, Nat.one_mul])), he3⟩
  (try simp only [qd, ne_eq] at h2)
  simp only [qz]
  refine rg_nil (ek_next (wk_seq (wk_cond_t rfl (wk_skip (ek_next (wk_seq (wk_block (wk_seq ?_))))))))
  refine wk_region [0, 0] rfl Kx ?_
  simp only [qy]
  refine rg_move ?_
  simp only [qz]
  refine rg_assign ?_
  simp only [qz]
  refine rg_nil (ek_next (wk_seq ?_))
  refine wk_region [0, 0, 0, 1, 0, 0, 0, 1, 1, 0] rfl Kx ?_
  simp only [qy]
  refine rg_move ?_
  simp only [qz]
  refine rg_move ?_
  simp only [qz]
  refine rg_move ?_
  simp only [qz]
  refine rg_fnv (numV (fe i k)) Rx hF rfl (by simp only [qm, qs, Act.eval] <;> rfl) ⟨i, k, by omega, by omega, rfl, rfl⟩ Nz ?_
  rcases hr : fe i k with c | z
  · have hc0 := hE i k c Ox Ox hr
    (try simp only [numV])
    simp only [qz]
    refine rg_move ?_
    simp only [qz]
    refine rf_extract rfl rfl rfl rfl ?_
    simp only [qz]
    refine rf_extract rfl rfl rfl rfl ?_
    simp only [qz]
    refine Rgn fun g3 => ?_
    simp only [qz]
    refine rf_storeR (n := 5) rfl rfl Kx rfl rfl (UpdR.here _ _ _ Nl) Nz ?_
    simp only [qz, Nat.reduceAdd]
    refine rg_assign ?_
    simp only [qz]
    refine rg_nil (ek_next (wk_seq (wk_seq ?_)))
    refine wk_region [0, 0] rfl Kx ?_
    simp only [qy]
    refine rg_move ?_
    simp only [qz]
    refine rfb_neq rfl rfl rfl rfl ?_
    intro x h3
    obtain rfl : x = true := by (refine h3.symm.trans ?_; exact decide_eq_true Ox)
    clear h3
    simp only [qz]
    refine rg_nil (ek_next (wk_cond_t rfl (wk_seq ?_)))
    refine wk_region [0, 0, 1, 0] rfl Kx ?_
    simp only [qy]
    refine rf_build (cs := fun a => #[.int .i64 0, .slice none 0 0]) rfl rfl Kx ?_
    simp only [qz]
    refine rg_move ?_
    simp only [qz]
    refine rf_storeR (n := 2) rfl rfl Kx rfl rfl (UpdR.there _ (UpdR.app _ (UpdR.there _ (UpdR.here _ _ _ Nl)))) Nz ?_
    simp only [qz, Nat.reduceAdd]
    refine rg_assign ?_
    simp only [qz]
    refine rg_nil (ek_next (wk_ret (ek_then_ret (ek_block_ret (ek_then_ret (ek_then_ret (ek_block_ret (ek_block_ret (ek_then_ret (ek_then_ret (ek_block_ret (ek_then_ret ?_))))))))))))
    refine ek_ret (fun w hw => ⟨rfl, _, run_results2 rfl rfl (Kn.hd0 (Kn.tl (Kn.tlU (Kn.tl hw)))) Try.underlying38 rfl Kx, ?_⟩)
    (try simp only [qz])
    have hg := gather_err (t := i * N + k) (c := c) he2.out (by (try dsimp only); rw [ix_div Ox, ix_mod Ox]; exact hr) (N * N) (ix_lt Ox Ox)
    exact ⟨.slice none 0 0, [], by unfold madeR; rw [hg]; rfl, (by unfold madeR; rw [hg]; exact OwnG.nil), .nil hw.below⟩
  (try simp only [numV])
  simp only [qz]
  refine rg_move ?_
  simp only [qz]
  refine rf_extract rfl rfl rfl rfl ?_
  simp only [qz]
  refine rf_extract rfl rfl rfl rfl ?_
  simp only [qz]
  refine Rgn fun g3 => ?_
  simp only [qz]
  refine rf_storeR (n := 5) rfl rfl Kx rfl rfl (UpdR.here _ _ _ Nl) Nz ?_
  simp only [qz, Nat.reduceAdd]
  refine rg_assign ?_
  simp only [qz]
  refine rg_nil (ek_next (wk_seq (wk_seq ?_)))
  refine wk_region [0, 0] rfl Kx ?_
  simp only [qy]
  refine rg_move ?_
  simp only [qz]
  refine rf_neq (b := false) rfl rfl rfl rfl (by decide) ?_
  simp only [qz]
  refine rg_nil (ek_next (wk_cond_f rfl (wk_skip (ek_next ?_))))
  refine wk_region [0, 0, 0, 1, 1, 0, 1] rfl Kx ?_
  simp only [qy]
  refine rf_field (n := 0) (j := 1) rfl rfl rfl Try.underlying38 rfl Kx rfl ?_
  simp only [qz]
  refine rf_load rfl rfl rfl Try.underlying36 rfl (fun w hw => (Kn.hd0 (Kn.tlU (Kn.tl hw))).at rfl) ?_
  simp only [qz]
  refine rf_loadR (n := 5) rfl rfl rfl Try.underlying45 rfl Kx (fun w hw => Kn.hd0 hw) rfl rfl ?_
  simp only [qz]
  refine rg_newS (cs := ?_) (ty := ?_) (n := 1) (c := 1) Rx (fun w => ?_) Nz (fun g4 => ?_); rotate_left 2
  focus (go_simp; rfl)
  simp only [qz]
  refine rg_appN (x := z) Rx rfl he3 rfl Ox (perm_atU (l := [_, _]) (((((List.Perm.refl _).cons _).cons _).cons _).cons _)) (fun w hw => Kn.hd0 hw) Nz (fun uN1 aN1 cN1 hON1 => ?_)
  simp only [qz]
  refine rf_field (n := 0) (j := 1) rfl rfl rfl Try.underlying38 rfl Kx rfl ?_
  simp only [qz]
  refine rf_store rfl rfl Kx rfl rfl (UpdR.app _ (UpdR.there _ (UpdR.there _ (UpdR.here _ _ _ Nl)))) Nz ?_
  simp only [qz]
  refine rg_nil (ek_block (ek_next ?_))
  refine wk_region [0, 0] rfl Kx ?_
  simp only [qy]
  refine rf_add rfl rfl rfl rfl (wrap_ok Ox Ox) ?_
  simp only [qz]
  refine rg_move ?_
  simp only [qz]
  refine rg_nil ?_
  refine ek_sub (List.Sublist.append_left (sk _ (sk _ (sc _ (sc _ sn)))) _) ?_
  refine ek_roundF (N - (k + 1)) Ox Kx ?_
  exact ⟨k + 1, l ++ [z], uN1, aN1, cN1, rfl, (by simp only [List.length_append, List.length_cons, List.length_nil, Nat.zero_add]), by rfl, Ox, (Lib.hid (by rw [← Nat.add_assoc]; exact gather_ok he2.out (by (try dsimp only); rw [ix_div Ox, ix_mod Ox]; exact hr))), (by simpa using hON1)⟩

def idR (i k : Nat) : NR := .ok (if i = k then Nm.one else Nm.zero)
set_option maxRecDepth 100000 in
set_option maxHeartbeats 1000000 in
theorem identity1_any (i k : Nat) (w : World) : Calls Try.prog 167 #[.int .i64 (i : Int), .int .i64 (k : Int)] w fun e w' => e = .returned (numV (idR i k)) ∧ Below w.heap.size w w' := by
  go_enter Try.func167, Try.ntmps167
  refine wk_start ?_
  refine wk_seq ?_
  refine wk_region [1, 0] rfl Kx ?_
  simp only [qy]
  refine Rgn fun g1 => ?_
  simp only [qz]
  refine rg_assign ?_
  simp only [qz]
  refine rg_nil (ek_next (wk_seq (wk_seq ?_)))
  refine wk_region [0, 0, 0] rfl Kx ?_
  simp only [qy]
  refine rg_move ?_
  simp only [qz]
  refine rg_move ?_
  simp only [qz]
  refine rfb_eql rfl rfl rfl rfl ?_
  intro x h1
  cases x
  · (try simp only [qd, ne_eq] at h1)
    simp only [qz]
    refine rg_nil (ek_next (wk_cond_f rfl (wk_skip (ek_next (wk_seq ?_)))))
    refine wk_region [0, 1, 0] rfl Kx ?_
    simp only [qy]
    refine rf_build (cs := fun a => #[.int .i64 0, .int .i64 0, .int .i64 0, .int .i64 0, .int .i64 0]) rfl rfl Kx ?_
    simp only [qz]
    refine rf_storeR (n := 5) rfl rfl Kx rfl rfl (UpdR.here _ _ _ Nl) Nz ?_
    simp only [qz, Nat.reduceAdd]
    refine rg_assign ?_
    simp only [qz]
    refine rg_nil (ek_next (wk_ret ?_))
    refine ek_ret (fun w hw => ⟨rfl, _, run_results2 rfl rfl (Kn.hd0 hw) Try.underlying45 rfl Kx, ?_⟩)
    (try simp only [qz])
    exact ⟨by (unfold idR; first | (rw [if_pos Ox]; done) | (rw [if_neg Ox]; done) | (rw [if_pos Ox]; rfl) | (rw [if_neg Ox]; rfl)), hw.below⟩
  (try simp only [qd, ne_eq] at h1)
  simp only [qz]
  refine rg_nil (ek_next (wk_cond_t rfl (wk_seq ?_)))
  refine wk_region [0, 0, 1, 0] rfl Kx ?_
  simp only [qy]
  refine rf_build (cs := fun a => #[a.eval (.const (.int .i64 1)), .int .i64 0, .int .i64 0, .int .i64 0]) rfl rfl Kx ?_
  simp only [qz]
  refine rf_build (cs := fun a => #[cellAt (a.eval (.tmp 9)) 0, cellAt (a.eval (.tmp 9)) 1, cellAt (a.eval (.tmp 9)) 2, cellAt (a.eval (.tmp 9)) 3, .int .i64 0]) rfl rfl Kx ?_
  simp only [qz]
  refine rf_storeR (n := 5) rfl rfl Kx rfl rfl (UpdR.here _ _ _ Nl) Nz ?_
  simp only [qz, Nat.reduceAdd]
  refine rg_assign ?_
  simp only [qz]
  refine rg_nil (ek_next (wk_ret (ek_then_ret ?_)))
  refine ek_ret (fun w hw => ⟨rfl, _, run_results2 rfl rfl (Kn.hd0 hw) Try.underlying45 rfl Kx, ?_⟩)
  (try simp only [qz])
  exact ⟨by (unfold idR; first | (rw [if_pos Ox]; done) | (rw [if_neg Ox]; done) | (rw [if_pos Ox]; rfl) | (rw [if_neg Ox]; rfl)), hw.below⟩

def identR (n : Int) : LR := if 1 ≤ n ∧ n ≤ 6 then madeR n.toNat idR else .error 2
set_option maxRecDepth 100000 in
set_option maxHeartbeats 1000000 in
theorem identity_any (n : Int) (w : World) : Calls Try.prog 129 #[.int .i64 n] w fun e w' => RetM w (rN n.toNat (identR n)) (rL (identR n)) (rC (identR n)) e w' := by
  go_enter Try.func129, Try.ntmps129
  refine wk_start ?_
  refine wk_seq ?_
  refine wk_region [1, 0] rfl Kx ?_
  simp only [qy]
  refine Rgn fun g1 => ?_
  simp only [qz]
  refine rg_assign ?_
  simp only [qz]
  refine rg_nil (ek_next (wk_seq (wk_seq ?_)))
  refine wk_region [0, 0, 0, 0, 0, 0] rfl Kx ?_
  simp only [qy]
  refine rg_move ?_
  simp only [qz]
  refine rfb_lss rfl rfl rfl rfl ?_
  intro x h1
  cases x
  · (try simp only [qd, ne_eq] at h1)
    simp only [qz]
    refine rg_move ?_
    simp only [qz]
    apply rg_soft_g
    case hg => rfl
    case hy => (intro w hw; go_simp; (try go_bits); exact Yld.mk _ _)
    simp only [qz]
    refine rfb_gtr rfl rfl rfl rfl ?_
    intro x h2
    cases x
    · (try simp only [qd, ne_eq] at h2)
      simp only [qz]
      refine rf_pick rfl rfl rfl ?_
      simp only [qz]
      refine rg_nil (ek_next (wk_cond_f rfl (wk_skip (ek_next (wk_seq ?_)))))
      refine wk_region [0, 1, 0, 0, 1, 0] rfl Kx ?_
      simp only [qy]
      refine rg_move ?_
      simp only [qz]
      obtain ⟨N, rfl⟩ : ∃ N : Nat, n = N := ⟨n.toNat, by omega⟩
      apply rg_retM Rx Kx
      case hargs => exact Ax
      case h => exact fun w hw => made_any N Ox idR _ (fun i k c _ _ h => by cases h) w (FnV.lit Kx (fun w' vs r ⟨i, k, _, _, hv, hr⟩ => by subst hv hr; exact identity1_any i k w'))
      case hz => exact Nz
      intro va2 vc2 u2 hO2
      simp only [qz]
      refine rf_extract rfl rfl rfl rfl ?_
      simp only [qz]
      refine rf_extract rfl rfl rfl rfl ?_
      simp only [qz]
      refine rf_storeR (n := 2) rfl rfl Kx rfl rfl (UpdR.app _ (UpdR.here _ _ _ Nl)) Nz ?_
      simp only [qz, Nat.reduceAdd]
      refine rg_assign ?_
      simp only [qz]
      refine rg_nil (ek_next (wk_ret ?_))
      refine ek_ret (fun w hw => ⟨rfl, _, run_results2 rfl rfl (Kn.hd0 (Kn.tlU hw)) Try.underlying38 rfl Kx, ?_⟩)
      (try simp only [qz])
      have hid : identR (N : Int) = madeR N idR := by (unfold identR; rw [if_pos Ox, Int.toNat_natCast])
      rw [Int.toNat_natCast, hid]
      exact ⟨.slice va2 (rL (madeR N idR)).length vc2, u2, rfl, hO2, hw.made (List.sublist_append_left _ _)⟩
    (try simp only [qd, ne_eq] at h2)
    simp only [qz]
    refine rf_pick rfl rfl rfl ?_
    simp only [qz]
    refine rg_nil (ek_next (wk_cond_t rfl (wk_seq ?_)))
    refine wk_region [0, 1, 0] rfl Kx ?_
    simp only [qy]
    refine rf_build (cs := fun a => #[.int .i64 0, .slice none 0 0]) rfl rfl Kx ?_
    simp only [qz]
    refine rf_storeR (n := 2) rfl rfl Kx rfl rfl (UpdR.here _ _ _ Nl) Nz ?_
    simp only [qz, Nat.reduceAdd]
    refine rg_assign ?_
    simp only [qz]
    refine rg_nil (ek_next (wk_ret (ek_then_ret ?_)))
    refine ek_ret (fun w hw => ⟨rfl, _, run_results2 rfl rfl (Kn.hd0 hw) Try.underlying38 rfl Kx, ?_⟩)
    (try simp only [qz])
    have hid : identR n = .error 2 := by (unfold identR; rw [if_neg Ox])
    rw [hid]
    exact ⟨.slice none 0 0, [], rfl, OwnG.nil, .nil hw.below⟩
  (try simp only [qd, ne_eq] at h1)
  simp only [qz]
  refine rg_move ?_
  simp only [qz]
  refine rg_skip Rx ?_
  simp only [qz]
  refine rg_skip Rx ?_
  simp only [qz]
  refine rf_pick rfl rfl rfl ?_
  simp only [qz]
  refine rg_nil (ek_next (wk_cond_t rfl (wk_seq ?_)))
  refine wk_region [0, 1, 0] rfl Kx ?_
  simp only [qy]
  refine rf_build (cs := fun a => #[.int .i64 0, .slice none 0 0]) rfl rfl Kx ?_
  simp only [qz]
  refine rf_storeR (n := 2) rfl rfl Kx rfl rfl (UpdR.here _ _ _ Nl) Nz ?_
  simp only [qz, Nat.reduceAdd]
  refine rg_assign ?_
  simp only [qz]
  refine rg_nil (ek_next (wk_ret (ek_then_ret ?_)))
  refine ek_ret (fun w hw => ⟨rfl, _, run_results2 rfl rfl (Kn.hd0 hw) Try.underlying38 rfl Kx, ?_⟩)
  (try simp only [qz])
  have hid : identR n = .error 2 := by (unfold identR; rw [if_neg Ox])
  rw [hid]
  exact ⟨.slice none 0 0, [], rfl, OwnG.nil, .nil hw.below⟩

end Go.Proofs.Ytccbinnlnkpplaa
