/- Digits: which is the greater one; numbers. -/
import Derived.Test.YtjeijnjaleldkaaSq
import Derived.Test.YtjeijnjaleldkaaBg2
namespace Go.Proofs.Ytjeijnjaleldkaa
set_option linter.all false
open Go.RowKit

def ordN (m n : Nat) : Int := if m < n then -1 else if m = n then 0 else 1
theorem ordN_lt {m n : Nat} (h : m < n) : ordN m n = -1 := by unfold ordN; rw [if_pos h]
theorem ordN_eq {m n : Nat} (h : m = n) : ordN m n = 0 := by unfold ordN; rw [if_neg Ox, if_pos h]
theorem ordN_gt {m n : Nat} (h : n < m) : ordN m n = 1 := by unfold ordN; rw [if_neg Ox, if_neg Ox]
theorem digs_inj {m n : Nat} (h : digs m = digs n) : m = n := by
  have h1 := dval_digs m
  rw [h, dval_digs] at h1
  omega
theorem of_dig {m n i : Nat} (hi : i < (digs m).length) (hl : (digs m).length = (digs n).length) (hj : ∀ j, i < j → dig (digs m) j = dig (digs n) j) (h : dig (digs m) i < dig (digs n) i) : m < n := by
  have := lt_of_dig (digs_dg m) (digs_dg n) hi hl hj h
  rw [dval_digs, dval_digs] at this
  omega
set_option maxRecDepth 100000 in
set_option maxHeartbeats 1000000 in
theorem border_any (m n : Nat) (a a2 : Option Addr) (c c2 : Nat) (hl : (digs m).length ≤ 100000) (hl2 : (digs n).length ≤ 100000) (w : World) (hA : AS w a (us (digs m))) (hA2 : AS w a2 (us (digs n))) : Calls Try.prog 139 #[.slice a (digs m).length c, .slice a2 (digs n).length c2] w fun e w' => e = .returned (.int .i64 (ordN m n)) ∧ Below w.heap.size w w' := by
  go_enter Try.func139, Try.ntmps139
  refine wk_start ?_
  refine wk_seq ?_
  refine wk_region [0] rfl Kx ?_
  simp only [qy]
  refine rg_assign ?_
  simp only [qz]
  refine rg_nil (ek_next (wk_seq (wk_seq ?_)))
  refine wk_region [0, 0, 0, 0, 0] rfl Kx ?_
  simp only [qy]
  refine rg_move ?_
  simp only [qz]
  refine rf_len rfl rfl rfl Try.underlying68 ?_
  simp only [qz]
  refine rg_move ?_
  simp only [qz]
  refine rf_len rfl rfl rfl Try.underlying68 ?_
  simp only [qz]
  refine rfb_neq rfl rfl rfl rfl ?_
  intro x h1
  cases x
  · (try simp only [qd, ne_eq] at h1)
    simp only [qz]
    refine rg_nil (ek_next (wk_cond_f rfl (wk_skip (ek_next (wk_seq (wk_seq ?_))))))
    refine wk_region [0, 0, 0, 0] rfl Kx ?_
    simp only [qy]
    refine rg_move ?_
    simp only [qz]
    refine rf_len rfl rfl rfl Try.underlying68 ?_
    simp only [qz]
    refine rf_sub rfl rfl rfl rfl (wrap_ok Ox Ox) ?_
    simp only [qz]
    refine rg_assign ?_
    simp only [qz]
    refine rg_nil (ek_next (wk_block ?_))
    refine wk_loopF [4, 5, 19, 20, 21, 22, 23, 24, 25, 26, 27, 28, 29, 30, 31, 32, 33, 34, 35, 36, 37, 38, 39, 40] (fun mz f s => ∃ (k : Nat) (j : Int), f 5 = .int .i64 j ∧ s = [] ∧ mz = k ∧ k ≤ (digs m).length ∧ (∀ t, k ≤ t → dig (digs m) t = dig (digs n) t) ∧ j + 1 ≤ k ∧ (k : Int) ≤ j + 1) ((fun (k : Nat) (j : Int) => k) ((digs m).length) (((digs m).length : Int) - 1)) ?_ Kx ?_
    · exact ⟨(digs m).length, ((digs m).length : Int) - 1, rfl, rfl, rfl, by omega, fun t ht => by rw [dig_out Ox, dig_out Ox], by omega, by omega⟩
    rintro mz f1 s ⟨k, j, hs1_5, rfl, hn, hc1, hc2, hc3, hc4⟩
    simp only [Act.putF, List.foldl_cons, List.foldl_nil, hs1_5, Act.put, Act.eval, q1, q2, q3, q4, q5, q6, q7, q8, q9, q10, q11, q12, q13, q14, q15, q16, q17, q18, Nat.reduceAdd, Bool.not_true, Bool.not_false]
    clear hs1_5
    refine wk_seq (wk_seq ?_)
    refine wk_region [0, 0] rfl Kx ?_
    simp only [qy]
    refine rg_move ?_
    simp only [qz]
    refine rfb_geq rfl rfl rfl rfl ?_
    intro x h2
    cases x
    · (try simp only [qd, ne_eq] at h2)
      simp only [qz]
      refine rg_nil (ek_next (wk_cond_f rfl (wk_exit (ek_then_exit (ek_then_exit (ek_block_exit (ek_next (wk_seq ?_))))))))
      refine wk_region [0] rfl Kx ?_
      simp only [qy]
      refine rg_assign ?_
      simp only [qz]
      refine rg_nil (ek_next (wk_ret ?_))
      refine ek_ret (fun w hw => ⟨rfl, _, res_t _ rfl, ?_⟩)
      (try simp only [qz])
      exact ⟨by rw [ordN_eq (digs_inj (eq_of_dig Ox (fun j => hc2 j Ox)))], hw.below⟩
    (try simp only [qd, ne_eq] at h2)
    simp only [qz]
    obtain ⟨b, off, rfl, hlt, hcell⟩ := AS.openU hA Ox
    obtain ⟨b2, off2, rfl, hlt2, hcell2⟩ := AS.openU hA2 Ox
    refine rg_nil (ek_next (wk_cond_t rfl (wk_skip (ek_next (wk_seq (wk_block (wk_seq ?_)))))))
    refine wk_draws _ _ [(0, 0), (1, 0), (2, 0), (3, 0), (4, 0), (5, 0), (6, 0), (7, 0), (8, 0)] [] Kx Kx (fun c d v a w h => by cases d <;> exact h) (sn) (fun e => by first | exact absurd e (by decide) | rfl) ?_
    simp only [List.map_cons, List.map_nil, List.getD_cons_zero, List.getD_cons_succ]
    refine rg_move ?_
    simp only [qz]
    refine rg_move ?_
    simp only [qz]
    refine rf_indexS (n := k - 1) (sz := 1) (j := off + (k - 1) * 1) rfl rfl rfl rfl Try.underlying68 Kx Ox Ox rfl ?_
    simp only [qz]
    refine rf_load rfl rfl rfl Try.underlying153 rfl (fun w hw => (by have := (Kn.cellB hw hlt (by simp) (off + (k - 1))).trans (hcell (k - 1) Ox); simpa using this)) ?_
    simp only [qz]
    refine rg_move ?_
    simp only [qz]
    refine rg_move ?_
    simp only [qz]
    refine rf_indexS (n := k - 1) (sz := 1) (j := off2 + (k - 1) * 1) rfl rfl rfl rfl Try.underlying68 Kx Ox Ox rfl ?_
    simp only [qz]
    refine rf_load rfl rfl rfl Try.underlying153 rfl (fun w hw => (by have := (Kn.cellB hw hlt2 (by simp) (off2 + (k - 1))).trans (hcell2 (k - 1) Ox); simpa using this)) ?_
    simp only [qz]
    refine rfb_neq rfl rfl rfl rfl ?_
    intro x h3
    cases x
    · (try simp only [qd, ne_eq] at h3)
      simp only [qz]
      refine rg_nil (ek_next (wk_cond_f rfl (wk_skip (ek_block (ek_next ?_)))))
      refine wk_region [0, 0, 0] rfl Kx ?_
      simp only [qy]
      refine rg_move ?_
      simp only [qz]
      refine rf_sub rfl rfl rfl rfl (wrap_ok Ox Ox) ?_
      simp only [qz]
      refine rg_assign ?_
      simp only [qz]
      refine rg_nil ?_
      refine ek_roundF (k - 1) Ox Kx ?_
      exact ⟨k - 1, j - 1, rfl, by rfl, by rfl, Ox, fun t ht => if he : t = k - 1 then (by subst he; omega) else hc2 t Ox, Ox, Ox⟩
    (try simp only [qd, ne_eq] at h3)
    simp only [qz]
    refine rg_nil (ek_next (wk_cond_t rfl (wk_seq (wk_seq ?_))))
    refine wk_draws _ _ [(0, 0), (1, 0), (2, 0), (3, 0), (4, 0), (5, 0), (6, 0), (7, 0), (8, 0)] [] Kx Kx (fun c d v a w h => by cases d <;> exact h) (sn) (fun e => by first | exact absurd e (by decide) | rfl) ?_
    simp only [List.map_cons, List.map_nil, List.getD_cons_zero, List.getD_cons_succ]
    refine rg_move ?_
    simp only [qz]
    refine rg_move ?_
    simp only [qz]
    refine rf_indexS (n := k - 1) (sz := 1) (j := off + (k - 1) * 1) rfl rfl rfl rfl Try.underlying68 Kx Ox Ox rfl ?_
    simp only [qz]
    refine rf_load rfl rfl rfl Try.underlying153 rfl (fun w hw => (by have := (Kn.cellB hw hlt (by simp) (off + (k - 1))).trans (hcell (k - 1) Ox); simpa using this)) ?_
    simp only [qz]
    refine rg_move ?_
    simp only [qz]
    refine rg_move ?_
    simp only [qz]
    refine rf_indexS (n := k - 1) (sz := 1) (j := off2 + (k - 1) * 1) rfl rfl rfl rfl Try.underlying68 Kx Ox Ox rfl ?_
    simp only [qz]
    refine rf_load rfl rfl rfl Try.underlying153 rfl (fun w hw => (by have := (Kn.cellB hw hlt2 (by simp) (off2 + (k - 1))).trans (hcell2 (k - 1) Ox); simpa using this)) ?_
    simp only [qz]
    refine rfb_lss rfl rfl rfl rfl ?_
    intro x h4
    cases x
    · (try simp only [qd, ne_eq] at h4)
      simp only [qz]
      refine rg_nil (ek_next (wk_cond_f rfl (wk_skip (ek_next (wk_seq ?_)))))
      refine wk_region [0] rfl Kx ?_
      simp only [qy]
      refine rg_assign ?_
      simp only [qz]
      refine rg_nil (ek_next (wk_ret (ek_block_ret (ek_then_ret (ek_then_ret (ek_block_ret (ek_then_ret ?_)))))))
      refine ek_ret (fun w hw => ⟨rfl, _, res_t _ rfl, ?_⟩)
      (try simp only [qz])
      exact ⟨by rw [ordN_gt (of_dig (i := k - 1) Ox Ox (fun j hj => (hc2 j Ox).symm) Ox)], hw.below⟩
    (try simp only [qd, ne_eq] at h4)
    simp only [qz]
    refine rg_nil (ek_next (wk_cond_t rfl (wk_seq ?_)))
    refine wk_region [0] rfl Kx ?_
    simp only [qy]
    refine rg_assign ?_
    simp only [qz]
    refine rg_nil (ek_next (wk_ret (ek_then_ret (ek_block_ret (ek_then_ret (ek_then_ret (ek_block_ret (ek_then_ret ?_))))))))
    refine ek_ret (fun w hw => ⟨rfl, _, res_t _ rfl, ?_⟩)
    (try simp only [qz])
    exact ⟨by rw [ordN_lt (of_dig (i := k - 1) Ox Ox (fun j hj => hc2 j Ox) Ox)], hw.below⟩
  (try simp only [qd, ne_eq] at h1)
  simp only [qz]
  refine rg_nil (ek_next (wk_cond_t rfl (wk_seq (wk_seq ?_))))
  refine wk_region [0, 0, 0, 0, 0] rfl Kx ?_
  simp only [qy]
  refine rg_move ?_
  simp only [qz]
  refine rf_len rfl rfl rfl Try.underlying68 ?_
  simp only [qz]
  refine rg_move ?_
  simp only [qz]
  refine rf_len rfl rfl rfl Try.underlying68 ?_
  simp only [qz]
  refine rfb_lss rfl rfl rfl rfl ?_
  intro x h5
  cases x
  · (try simp only [qd, ne_eq] at h5)
    simp only [qz]
    refine rg_nil (ek_next (wk_cond_f rfl (wk_skip (ek_next (wk_seq ?_)))))
    refine wk_region [0] rfl Kx ?_
    simp only [qy]
    refine rg_assign ?_
    simp only [qz]
    refine rg_nil (ek_next (wk_ret (ek_then_ret ?_)))
    refine ek_ret (fun w hw => ⟨rfl, _, res_t _ rfl, ?_⟩)
    (try simp only [qz])
    exact ⟨by rw [ordN_gt (digs_lt_of_len Ox)], hw.below⟩
  (try simp only [qd, ne_eq] at h5)
  simp only [qz]
  refine rg_nil (ek_next (wk_cond_t rfl (wk_seq ?_)))
  refine wk_region [0] rfl Kx ?_
  simp only [qy]
  refine rg_assign ?_
  simp only [qz]
  refine rg_nil (ek_next (wk_ret (ek_then_ret (ek_then_ret ?_))))
  refine ek_ret (fun w hw => ⟨rfl, _, res_t _ rfl, ?_⟩)
  (try simp only [qz])
  exact ⟨by rw [ordN_lt (digs_lt_of_len Ox)], hw.below⟩

theorem push_digs {t : Int} {zs : List Int} (h : 0 < t) : (zs ++ [t % 4294967296]) ++ digs (t / 4294967296).toNat = zs ++ digs t.toNat := by
  rw [List.append_assoc, digs_pos (n := t.toNat) Ox]
  have e1 : ((t.toNat % 4294967296 : Nat) : Int) = t % 4294967296 := by omega
  have e2 : t.toNat / 4294967296 = (t / 4294967296).toNat := by omega
  rw [e1, e2]
  rfl
set_option maxRecDepth 100000 in
set_option maxHeartbeats 1000000 in
theorem bigOf_any (n : Int) (h0 : -9223372036854775808 ≤ n) (h1 : n ≤ 9223372036854775807) (w : World) : Calls Try.prog 111 #[.int .i64 n] w fun e w' => RetB w n e w' := by
  go_enter Try.func111, Try.ntmps111
  refine wk_start ?_
  refine wk_seq ?_
  refine wk_region [1] rfl Kx ?_
  simp only [qy]
  refine Rgn fun g1 => ?_
  simp only [qz]
  refine rg_nil (ek_next (wk_seq ?_))
  refine wk_region [0, 0, 0, 1, 1] rfl Kx ?_
  simp only [qy]
  refine rg_move ?_
  simp only [qz]
  refine rf_lss rfl rfl rfl rfl rfl ?_
  simp only [qz]
  refine rf_build (cs := fun a => #[a.eval (.tmp 6), .slice none 0 0]) rfl rfl Kx ?_
  simp only [qz]
  refine Rgn fun g2 => ?_
  simp only [qz]
  refine rf_storeR (n := 2) rfl rfl Kx rfl rfl (UpdR.here _ _ _ Nl) Nz ?_
  simp only [qz, Nat.reduceAdd]
  refine rg_nil (ek_next (wk_seq ?_))
  refine wk_region [0, 0, 0] rfl Kx ?_
  simp only [qy]
  refine rg_move ?_
  simp only [qz]
  refine rf_conv rfl rfl rfl Try.underlying3 Try.underlying103 (IntKind.wrap_u64 _) ?_
  simp only [qz]
  refine rg_assign ?_
  simp only [qz]
  refine rg_nil (ek_next (wk_seq (wk_seq ?_)))
  refine wk_region [0, 0] rfl Kx ?_
  simp only [qy]
  refine rf_field (n := 0) (j := 0) rfl rfl rfl Try.underlying70 rfl Kx rfl ?_
  simp only [qz]
  refine rf_load rfl rfl rfl Try.underlying4 rfl (fun w hw => (Kn.hd0 hw).at rfl) ?_
  simp only [qz]
  refine rg_nil (ek_next ?_)
  refine wk_cond (t := _) rfl (fun h1 => ?_) (fun h1 => ?_)
  · (try simp only [qd] at h1)
    refine wk_region [0, 0, 0] rfl Kx ?_
    simp only [qy]
    refine rg_move ?_
    simp only [qz]
    refine rf_neg rfl rfl rfl (IntKind.wrap_u64 _) ?_
    simp only [qz]
    refine rg_assign ?_
    simp only [qz]
    refine rg_nil (ek_next (wk_seq (wk_block ?_)))
    refine wk_loopF [4, 14, 15, 16, 17, 18, 19, 20, 21, 22, 23, 24] (fun mz f s => ∃ (t : Int) (va : Option Addr) (vl vc : Nat) (u : List Blk) (zs : List Int), f 4 = .int .u64 t ∧ s = (u ++ ((g2, .cells #[.bool (decide (n < 0)), .slice va vl vc] 70) :: ((g1, .cells #[.bool false, .slice none 0 0] 70) :: []))) ∧ mz = t.toNat ∧ OwnG DgE 153 u (.slice va vl vc) zs ∧ zs ++ digs t.toNat = digs n.natAbs ∧ 0 ≤ t ∧ t < 18446744073709551616) ((fun (t : Int) (va : Option Addr) (vl vc : Nat) (u : List Blk) (zs : List Int) => t.toNat) ((-(n % 18446744073709551616)) % 18446744073709551616) (none) (0) (0) ([]) ([])) ?_ Kx ?_
    · exact ⟨(-(n % 18446744073709551616)) % 18446744073709551616, none, 0, 0, [], [], rfl, rfl, rfl, OwnG.nil, (by simp; congr 1; omega), Ox, Ox⟩
    rintro mz f1 s ⟨t, va, vl, vc, u, zs, hs1_4, rfl, hn, hc1, hc2, hc3, hc4⟩
    simp only [Act.putF, List.foldl_cons, List.foldl_nil, hs1_4, Act.put, Act.eval, q1, q2, q3, q4, q5, q6, q7, q8, q9, q10, q11, q12, q13, q14, q15, q16, q17, q18, Nat.reduceAdd, Bool.not_true, Bool.not_false]
    clear hs1_4
    have hO := hc1
    have hzl : zs.length ≤ 2 := by (have h1 := congrArg List.length hc2; rw [List.length_append] at h1; have h2 := digs_len_le (n := n.natAbs) (L := 2) Ox; omega)
    have heq := Lib.hid hc2
    clear hc2
    refine wk_seq (wk_seq ?_)
    refine wk_region [0, 0] rfl Kx ?_
    simp only [qy]
    refine rg_move ?_
    simp only [qz]
    refine rfb_gtr rfl rfl rfl rfl ?_
    intro x h2
    cases x
    · (try simp only [qd, ne_eq] at h2)
      simp only [qz]
      refine rg_nil (ek_next (wk_cond_f rfl (wk_exit (ek_then_exit (ek_then_exit (ek_block_exit (ek_next (wk_seq ?_))))))))
      refine wk_region [0, 1] rfl Kx ?_
      simp only [qy]
      refine rf_loadR (n := 2) rfl rfl rfl Try.underlying70 rfl Kx (fun w hw => Kn.hd0 (Kn.tlU hw)) rfl rfl ?_
      simp only [qz]
      refine rf_storeR (n := 2) rfl rfl Kx rfl rfl (UpdR.app _ (UpdR.there _ (UpdR.here _ _ _ Nl))) Nz ?_
      simp only [qz, Nat.reduceAdd]
      refine rg_nil (ek_next (wk_ret ?_))
      refine ek_ret (fun w hw => ⟨rfl, _, run_results1 rfl rfl (Kn.hd0 (Kn.tl (Kn.tlU hw))) Try.underlying70 rfl Kx, ?_⟩)
      (try simp only [qz])
      have ht : t = 0 := by omega
      subst ht
      have e1 : zs = digs n.natAbs := by (have := heq.out; rwa [show (0 : Int).toNat = 0 from rfl, digs_zero, List.append_nil] at this)
      subst e1
      obtain ⟨a0, c0, e0, hcap⟩ := hO.val
      injection e0 with e1 e2 e3
      subst e1 e2 e3
      exact ⟨_, u, rfl, ⟨.slice va _ vc, rfl, SU.own hO _ (Nat.le_refl _) (List.take_length ..) rfl⟩, hw.made (by simp)⟩
    (try simp only [qd, ne_eq] at h2)
    simp only [qz]
    refine rg_nil (ek_next (wk_cond_t rfl (wk_skip (ek_next (wk_block (wk_seq ?_))))))
    refine wk_region [0, 0, 0, 0, 1, 1, 0, 1] rfl Kx ?_
    simp only [qy]
    refine rf_field (n := 0) (j := 1) rfl rfl rfl Try.underlying70 rfl Kx rfl ?_
    simp only [qz]
    refine rf_load rfl rfl rfl Try.underlying68 rfl (fun w hw => (Kn.hd0 (Kn.tlU hw)).at rfl) ?_
    simp only [qz]
    refine rg_move ?_
    simp only [qz]
    refine rf_conv rfl rfl rfl Try.underlying103 Try.underlying153 (IntKind.wrap_u32 _) ?_
    simp only [qz]
    refine rg_newS (cs := ?_) (ty := ?_) (n := 1) (c := 1) Rx (fun w => ?_) Nz (fun g3 => ?_); rotate_left 2
    focus (go_simp; rfl)
    simp only [qz]
    refine rg_pushU rfl rfl hc1 rfl Ox Nz (fun u4 v4 hO4 => ?_)
    simp only [qz]
    obtain ⟨va4, vc4, rfl, hcap4⟩ := hO4.val
    refine rf_field (n := 0) (j := 1) rfl rfl rfl Try.underlying70 rfl Kx rfl ?_
    simp only [qz]
    refine rf_store rfl rfl Kx rfl rfl (UpdR.app _ (UpdR.here _ _ _ Nl)) Nz ?_
    simp only [qz]
    refine rg_nil (ek_next ?_)
    refine wk_region [0, 0, 0] rfl Kx ?_
    simp only [qy]
    refine rg_move ?_
    simp only [qz]
    refine rf_shr (c := 32) (q := 4294967296) rfl rfl rfl rfl rfl (by decide) ?_
    simp only [qz]
    refine rg_assign ?_
    simp only [qz]
    refine rg_nil (ek_block ?_)
    have hst : (zs ++ [t % 4294967296]) ++ digs (t / 4294967296).toNat = digs n.natAbs := by rw [← heq.out, push_digs Ox]
    refine ek_roundF ((t / 4294967296).toNat) (Ox) Kx ?_
    exact ⟨t / 4294967296, va4, _, vc4, u4, zs ++ [t % 4294967296], rfl, by rfl, by rfl, hO4, hst, Ox, Ox⟩
  (try simp only [qd] at h1)
  refine wk_skip (ek_next (wk_seq (wk_block ?_)))
  refine wk_loopF [4, 14, 15, 16, 17, 18, 19, 20, 21, 22, 23, 24] (fun mz f s => ∃ (t : Int) (va : Option Addr) (vl vc : Nat) (u : List Blk) (zs : List Int), f 4 = .int .u64 t ∧ s = (u ++ ((g2, .cells #[.bool (decide (n < 0)), .slice va vl vc] 70) :: ((g1, .cells #[.bool false, .slice none 0 0] 70) :: []))) ∧ mz = t.toNat ∧ OwnG DgE 153 u (.slice va vl vc) zs ∧ zs ++ digs t.toNat = digs n.natAbs ∧ 0 ≤ t ∧ t < 18446744073709551616) ((fun (t : Int) (va : Option Addr) (vl vc : Nat) (u : List Blk) (zs : List Int) => t.toNat) (n % 18446744073709551616) (none) (0) (0) ([]) ([])) ?_ Kx ?_
  · exact ⟨n % 18446744073709551616, none, 0, 0, [], [], rfl, rfl, rfl, OwnG.nil, (by simp; congr 1; omega), Ox, Ox⟩
  rintro mz f1 s ⟨t, va, vl, vc, u, zs, hs1_4, rfl, hn, hc1, hc2, hc3, hc4⟩
  simp only [Act.putF, List.foldl_cons, List.foldl_nil, hs1_4, Act.put, Act.eval, q1, q2, q3, q4, q5, q6, q7, q8, q9, q10, q11, q12, q13, q14, q15, q16, q17, q18, Nat.reduceAdd, Bool.not_true, Bool.not_false]
  clear hs1_4
  have hO := hc1
  have hzl : zs.length ≤ 2 := by (have h1 := congrArg List.length hc2; rw [List.length_append] at h1; have h2 := digs_len_le (n := n.natAbs) (L := 2) Ox; omega)
  have heq := Lib.hid hc2
  clear hc2
  refine wk_seq (wk_seq ?_)
  refine wk_region [0, 0] rfl Kx ?_
  simp only [qy]
  refine rg_move ?_
  simp only [qz]
  refine rfb_gtr rfl rfl rfl rfl ?_
  intro x h3
  cases x
  · (try simp only [qd, ne_eq] at h3)
    simp only [qz]
    refine rg_nil (ek_next (wk_cond_f rfl (wk_exit (ek_then_exit (ek_then_exit (ek_block_exit (ek_next (wk_seq ?_))))))))
    refine wk_region [0, 1] rfl Kx ?_
    simp only [qy]
    refine rf_loadR (n := 2) rfl rfl rfl Try.underlying70 rfl Kx (fun w hw => Kn.hd0 (Kn.tlU hw)) rfl rfl ?_
    simp only [qz]
    refine rf_storeR (n := 2) rfl rfl Kx rfl rfl (UpdR.app _ (UpdR.there _ (UpdR.here _ _ _ Nl))) Nz ?_
    simp only [qz, Nat.reduceAdd]
    refine rg_nil (ek_next (wk_ret ?_))
    refine ek_ret (fun w hw => ⟨rfl, _, run_results1 rfl rfl (Kn.hd0 (Kn.tl (Kn.tlU hw))) Try.underlying70 rfl Kx, ?_⟩)
    (try simp only [qz])
    have ht : t = 0 := by omega
    subst ht
    have e1 : zs = digs n.natAbs := by (have := heq.out; rwa [show (0 : Int).toNat = 0 from rfl, digs_zero, List.append_nil] at this)
    subst e1
    obtain ⟨a0, c0, e0, hcap⟩ := hO.val
    injection e0 with e1 e2 e3
    subst e1 e2 e3
    exact ⟨_, u, rfl, ⟨.slice va _ vc, rfl, SU.own hO _ (Nat.le_refl _) (List.take_length ..) rfl⟩, hw.made (by simp)⟩
  (try simp only [qd, ne_eq] at h3)
  simp only [qz]
  refine rg_nil (ek_next (wk_cond_t rfl (wk_skip (ek_next (wk_block (wk_seq ?_))))))
  refine wk_region [0, 0, 0, 0, 1, 1, 0, 1] rfl Kx ?_
  simp only [qy]
  refine rf_field (n := 0) (j := 1) rfl rfl rfl Try.underlying70 rfl Kx rfl ?_
  simp only [qz]
  refine rf_load rfl rfl rfl Try.underlying68 rfl (fun w hw => (Kn.hd0 (Kn.tlU hw)).at rfl) ?_
  simp only [qz]
  refine rg_move ?_
  simp only [qz]
  refine rf_conv rfl rfl rfl Try.underlying103 Try.underlying153 (IntKind.wrap_u32 _) ?_
  simp only [qz]
  refine rg_newS (cs := ?_) (ty := ?_) (n := 1) (c := 1) Rx (fun w => ?_) Nz (fun g5 => ?_); rotate_left 2
  focus (go_simp; rfl)
  simp only [qz]
  refine rg_pushU rfl rfl hc1 rfl Ox Nz (fun u6 v6 hO6 => ?_)
  simp only [qz]
  obtain ⟨va6, vc6, rfl, hcap6⟩ := hO6.val
  refine rf_field (n := 0) (j := 1) rfl rfl rfl Try.underlying70 rfl Kx rfl ?_
  simp only [qz]
  refine rf_store rfl rfl Kx rfl rfl (UpdR.app _ (UpdR.here _ _ _ Nl)) Nz ?_
  simp only [qz]
  refine rg_nil (ek_next ?_)
  refine wk_region [0, 0, 0] rfl Kx ?_
  simp only [qy]
  refine rg_move ?_
  simp only [qz]
  refine rf_shr (c := 32) (q := 4294967296) rfl rfl rfl rfl rfl (by decide) ?_
  simp only [qz]
  refine rg_assign ?_
  simp only [qz]
  refine rg_nil (ek_block ?_)
  have hst : (zs ++ [t % 4294967296]) ++ digs (t / 4294967296).toNat = digs n.natAbs := by rw [← heq.out, push_digs Ox]
  refine ek_roundF ((t / 4294967296).toNat) (Ox) Kx ?_
  exact ⟨t / 4294967296, va6, _, vc6, u6, zs ++ [t % 4294967296], rfl, by rfl, by rfl, hO6, hst, Ox, Ox⟩

end Go.Proofs.Ytjeijnjaleldkaa
