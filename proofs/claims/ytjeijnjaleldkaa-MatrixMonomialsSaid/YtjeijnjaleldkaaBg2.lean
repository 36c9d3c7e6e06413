/- Digits: sums and differences. -/
import Derived.Test.YtjeijnjaleldkaaSq
import Derived.Test.YtjeijnjaleldkaaBg1
namespace Go.Proofs.Ytjeijnjaleldkaa
set_option linter.all false
open Go.RowKit

set_option maxRecDepth 100000 in
set_option maxHeartbeats 1000000 in
theorem bplus_any (xs ys : List Int) (a a2 : Option Addr) (c c2 : Nat) (hd : Dg xs) (hd2 : Dg ys) (hl : xs.length ≤ 100000) (hl2 : ys.length ≤ 100000) (w : World) (hA : AS w a (us xs)) (hA2 : AS w a2 (us ys)) : Calls Try.prog 138 #[.slice a xs.length c, .slice a2 ys.length c2] w fun e w' => RetD w (dval xs + dval ys).toNat e w' := by
  go_enter Try.func138, Try.ntmps138
  refine wk_start ?_
  refine wk_seq ?_
  refine wk_region [0] rfl Kx ?_
  simp only [qy]
  refine rg_assign ?_
  simp only [qz]
  refine rg_nil (ek_next (wk_seq ?_))
  refine wk_region [0] rfl Kx ?_
  simp only [qy]
  refine rg_assign ?_
  simp only [qz]
  refine rg_nil (ek_next (wk_seq ?_))
  refine wk_region [0] rfl Kx ?_
  simp only [qy]
  refine rg_assign ?_
  simp only [qz]
  refine rg_nil (ek_next (wk_seq (wk_seq ?_)))
  refine wk_region [0] rfl Kx ?_
  simp only [qy]
  refine rg_assign ?_
  simp only [qz]
  refine rg_nil (ek_next (wk_block ?_))
  refine wk_loopF [5, 6, 7, 8, 9, 10, 11, 12, 13, 14, 15, 16, 17, 18, 19, 20, 21, 22, 23, 24, 25, 26, 27, 28, 29, 30, 31, 32, 33, 34, 35, 36, 37, 38, 39, 40, 41, 42, 43, 44, 45, 46, 47, 48, 49, 50, 51, 52] (fun mz f s => ∃ (i : Nat) (cy : Int) (v : Value) (u : List Blk) (zs : List Int), f 5 = v ∧ f 6 = .int .u64 cy ∧ f 7 = .int .i64 i ∧ s = (u ++ []) ∧ mz = 1000000 - i ∧ OwnG DgE 153 u v zs ∧ Dg zs ∧ zs.length ≤ i ∧ i ≤ zs.length ∧ 0 ≤ cy ∧ cy ≤ 1 ∧ dval zs + 4294967296 ^ i * cy = dval (xs.take i) + dval (ys.take i) ∧ (i ≤ 100000 ∨ i ≤ 100001 ∧ cy = 0)) ((fun (i : Nat) (cy : Int) (v : Value) (u : List Blk) (zs : List Int) => 1000000 - i) (0) (0) (.slice none 0 0) ([]) ([])) ?_ Kx ?_
  · exact ⟨0, 0, .slice none 0 0, [], [], rfl, rfl, rfl, rfl, rfl, OwnG.nil, Dg.nil, by simp, by simp, by omega, by omega, by simp [dval], by omega⟩
  rintro mz f1 s ⟨i, cy, v, u, zs, hs1_5, hs1_6, hs1_7, rfl, hn, hc1, hc2, hc3, hc4, hc5, hc6, hc7, hc8⟩
  simp only [Act.putF, List.foldl_cons, List.foldl_nil, hs1_5, hs1_6, hs1_7, Act.put, Act.eval, q1, q2, q3, q4, q5, q6, q7, q8, q9, q10, q11, q12, q13, q14, q15, q16, q17, q18, Nat.reduceAdd, Bool.not_true, Bool.not_false]
  clear hs1_5 hs1_6 hs1_7
  have hO := hc1
  have hdz := hc2
  have heq := Lib.hid hc7
  clear hc2 hc7
  refine wk_seq (wk_seq ?_)
  refine wk_region [0, 0, 0, 0, 0, 0, 0, 0, 0, 0, 0, 0, 0, 0] rfl Kx ?_
  simp only [qy]
  refine rg_move ?_
  simp only [qz]
  refine rg_move ?_
  simp only [qz]
  refine rf_len rfl rfl rfl Try.underlying68 ?_
  simp only [qz]
  refine rfb_lss rfl rfl rfl rfl ?_
  intro x h1
  cases x
  · (try simp only [qd, ne_eq] at h1)
    simp only [qz]
    refine rg_move ?_
    simp only [qz]
    apply rg_soft_g
    case hg => rfl
    case hy => (intro w hw; go_simp; (try go_bits); exact Yld.mk _ _)
    simp only [qz]
    apply rg_soft_g
    case hg => rfl
    case hy => (intro w hw; go_simp; (try go_bits); exact Yld.mk _ _)
    simp only [qz]
    refine rf_len rfl rfl rfl Try.underlying68 ?_
    simp only [qz]
    refine rfb_lss rfl rfl rfl rfl ?_
    intro x h2
    cases x
    · (try simp only [qd, ne_eq] at h2)
      simp only [qz]
      refine rf_pick rfl rfl rfl ?_
      simp only [qz]
      refine rg_move ?_
      simp only [qz]
      apply rg_soft_g
      case hg => rfl
      case hy => (intro w hw; go_simp; (try go_bits); exact Yld.mk _ _)
      simp only [qz]
      refine rfb_gtr rfl rfl rfl rfl ?_
      intro x h3
      cases x
      · (try simp only [qd, ne_eq] at h3)
        simp only [qz]
        refine rf_pick rfl rfl rfl ?_
        simp only [qz]
        refine rg_nil (ek_next (wk_cond_f rfl (wk_exit (ek_then_exit (ek_then_exit (ek_block_exit (ek_next (wk_seq ?_))))))))
        refine wk_region [0, 1, 0] rfl Kx ?_
        simp only [qy]
        refine rg_move ?_
        simp only [qz]
        obtain ⟨a0, c0, rfl, hcap⟩ := hO.val
        apply (rg_or (X := fun v => ∃ m, m ≤ zs.length ∧ v = .slice a0 m c0 ∧ (∀ j, m ≤ j → dig zs j = 0) ∧ (m = 0 ∨ dig zs (m - 1) ≠ 0))) Rx Kx
        case hargs => exact Ax
        case h => exact fun w hw => (trimmed_any zs a0 c0 hdz hcap Ox w (hO.as' hw)).mono fun e w' ⟨m, h1, h2, h3, h4, h5⟩ => ⟨_, h2, ⟨m, h1, rfl, h3, h4⟩, h5⟩
        case hz => exact Nz
        rintro v ⟨m, hm1, rfl, hm2, hm3⟩
        simp only [qz]
        refine rg_assign ?_
        simp only [qz]
        refine rg_nil (ek_next (wk_ret ?_))
        refine ek_ret (fun w hw => ⟨rfl, _, res_t _ rfl, ?_⟩)
        (try simp only [qz])
        have e1 : dval zs = dval xs + dval ys := by
          have h1 := heq.out
          rw [List.take_of_length_le Ox, List.take_of_length_le Ox, show cy = 0 by omega] at h1
          omega
        exact ⟨_, u, rfl, e1 ▸ SU.own hO m hm1 (trim_eq hdz hm1 hm2 hm3) rfl, hw.made (by simp)⟩
      (try simp only [qd, ne_eq] at h3)
      simp only [qz]
      refine rf_pick rfl rfl rfl ?_
      simp only [qz]
      refine rg_nil (ek_next (wk_cond_t rfl (wk_skip (ek_next (wk_seq (wk_block (wk_seq (wk_seq ?_))))))))
      refine wk_region [0, 0, 0, 0] rfl Kx ?_
      simp only [qy]
      refine rg_move ?_
      simp only [qz]
      refine rg_move ?_
      simp only [qz]
      refine rf_len rfl rfl rfl Try.underlying68 ?_
      simp only [qz]
      refine rfb_lss rfl rfl rfl rfl ?_
      intro x h4
      cases x
      · (try simp only [qd, ne_eq] at h4)
        simp only [qz]
        have dx := hd.at i
        have dy := hd2.at i
        have zx := dig_out (xs := xs) (k := i) Ox
        refine rg_nil (ek_next (wk_cond_f rfl (wk_skip (ek_next (wk_seq (wk_seq ?_))))))
        refine wk_region [0, 0, 0, 0] rfl Kx ?_
        simp only [qy]
        refine rg_move ?_
        simp only [qz]
        refine rg_move ?_
        simp only [qz]
        refine rf_len rfl rfl rfl Try.underlying68 ?_
        simp only [qz]
        refine rfb_lss rfl rfl rfl rfl ?_
        intro x h5
        cases x
        · (try simp only [qd, ne_eq] at h5)
          simp only [qz]
          have zy := dig_out (xs := ys) (k := i) Ox
          refine rg_nil (ek_next (wk_cond_f rfl (wk_skip (ek_next (wk_seq ?_)))))
          refine wk_region [0, 0, 0, 1, 1, 0] rfl Kx ?_
          simp only [qy]
          refine rg_move ?_
          simp only [qz]
          refine rg_move ?_
          simp only [qz]
          refine rf_conv rfl rfl rfl Try.underlying103 Try.underlying153 (IntKind.wrap_u32 _) ?_
          simp only [qz]
          refine rg_newS (cs := ?_) (ty := ?_) (n := 1) (c := 1) Rx (fun w => ?_) Nz (fun g1 => ?_); rotate_left 2
          focus (go_simp; rfl)
          simp only [qz]
          refine rg_pushU rfl rfl hc1 rfl Ox Nz (fun u2 v2 hO2 => ?_)
          simp only [qz]
          refine rg_assign ?_
          simp only [qz]
          refine rg_nil (ek_next ?_)
          refine wk_region [0, 0, 0] rfl Kx ?_
          simp only [qy]
          refine rg_move ?_
          simp only [qz]
          refine rf_shr (c := 32) (q := 4294967296) rfl rfl rfl rfl rfl (by decide) ?_
          simp only [qz]
          refine rg_assign ?_
          simp only [qz]
          refine rg_nil (ek_block (ek_next ?_))
          refine wk_region [0, 0, 0] rfl Kx ?_
          simp only [qy]
          refine rg_move ?_
          simp only [qz]
          refine rf_add rfl rfl rfl rfl (wrap_ok Ox Ox) ?_
          simp only [qz]
          refine rg_assign ?_
          simp only [qz]
          refine rg_nil ?_
          have hdz' := hdz.snoc (y := (cy) % 4294967296) Ox Ox
          have hst := plus_step (t := cy) Ox heq.out Ox
          refine ek_roundF (1000000 - (i + 1)) Ox Kx ?_
          exact ⟨i + 1, (cy) / 4294967296, v2, u2, zs ++ [(cy) % 4294967296], rfl, rfl, rfl, by rfl, by rfl, hO2, hdz', (by simp; omega), (by simp; omega), Ox, Ox, hst, Ox⟩
        (try simp only [qd, ne_eq] at h5)
        simp only [qz]
        exfalso; omega
      (try simp only [qd, ne_eq] at h4)
      simp only [qz]
      exfalso; omega
    (try simp only [qd, ne_eq] at h2)
    simp only [qz]
    refine rf_pick rfl rfl rfl ?_
    simp only [qz]
    refine rg_move ?_
    simp only [qz]
    refine rg_skip Rx ?_
    simp only [qz]
    refine rg_skip Rx ?_
    simp only [qz]
    refine rf_pick rfl rfl rfl ?_
    simp only [qz]
    refine rg_nil (ek_next (wk_cond_t rfl (wk_skip (ek_next (wk_seq (wk_block (wk_seq (wk_seq ?_))))))))
    refine wk_region [0, 0, 0, 0] rfl Kx ?_
    simp only [qy]
    refine rg_move ?_
    simp only [qz]
    refine rg_move ?_
    simp only [qz]
    refine rf_len rfl rfl rfl Try.underlying68 ?_
    simp only [qz]
    refine rfb_lss rfl rfl rfl rfl ?_
    intro x h6
    cases x
    · (try simp only [qd, ne_eq] at h6)
      simp only [qz]
      have dx := hd.at i
      have dy := hd2.at i
      have zx := dig_out (xs := xs) (k := i) Ox
      refine rg_nil (ek_next (wk_cond_f rfl (wk_skip (ek_next (wk_seq (wk_seq ?_))))))
      refine wk_region [0, 0, 0, 0] rfl Kx ?_
      simp only [qy]
      refine rg_move ?_
      simp only [qz]
      refine rg_move ?_
      simp only [qz]
      refine rf_len rfl rfl rfl Try.underlying68 ?_
      simp only [qz]
      refine rfb_lss rfl rfl rfl rfl ?_
      intro x h7
      cases x
      · (try simp only [qd, ne_eq] at h7)
        simp only [qz]
        exfalso; omega
      (try simp only [qd, ne_eq] at h7)
      simp only [qz]
      obtain ⟨b2, off2, rfl, hlt2, hcell2⟩ := AS.openU hA2 Ox
      refine rg_nil (ek_next (wk_cond_t rfl ?_))
      refine wk_region [0, 0, 0, 0, 0, 0, 0, 0] rfl Kx ?_
      simp only [qy]
      refine rg_move ?_
      simp only [qz]
      refine rg_move ?_
      simp only [qz]
      refine rg_move ?_
      simp only [qz]
      refine rf_indexS (n := i) (sz := 1) (j := off2 + i * 1) rfl rfl rfl rfl Try.underlying68 Kx Ox Ox rfl ?_
      simp only [qz]
      refine rf_load rfl rfl rfl Try.underlying153 rfl (fun w hw => (by have := (Kn.cellB hw hlt2 (by simp) (off2 + i)).trans (hcell2 i Ox); simpa using this)) ?_
      simp only [qz]
      refine rf_conv rfl rfl rfl Try.underlying153 Try.underlying103 (wrap_okU Ox Ox) ?_
      simp only [qz]
      refine rf_add rfl rfl rfl rfl (wrap_okU Ox Ox) ?_
      simp only [qz]
      refine rg_assign ?_
      simp only [qz]
      refine rg_nil (ek_next (wk_seq ?_))
      refine wk_region [0, 0, 0, 1, 1, 0] rfl Kx ?_
      simp only [qy]
      refine rg_move ?_
      simp only [qz]
      refine rg_move ?_
      simp only [qz]
      refine rf_conv rfl rfl rfl Try.underlying103 Try.underlying153 (IntKind.wrap_u32 _) ?_
      simp only [qz]
      refine rg_newS (cs := ?_) (ty := ?_) (n := 1) (c := 1) Rx (fun w => ?_) Nz (fun g3 => ?_); rotate_left 2
      focus (go_simp; rfl)
      simp only [qz]
      refine rg_pushU rfl rfl hc1 rfl Ox Nz (fun u4 v4 hO4 => ?_)
      simp only [qz]
      refine rg_assign ?_
      simp only [qz]
      refine rg_nil (ek_next ?_)
      refine wk_region [0, 0, 0] rfl Kx ?_
      simp only [qy]
      refine rg_move ?_
      simp only [qz]
      refine rf_shr (c := 32) (q := 4294967296) rfl rfl rfl rfl rfl (by decide) ?_
      simp only [qz]
      refine rg_assign ?_
      simp only [qz]
      refine rg_nil (ek_block (ek_next ?_))
      refine wk_region [0, 0, 0] rfl Kx ?_
      simp only [qy]
      refine rg_move ?_
      simp only [qz]
      refine rf_add rfl rfl rfl rfl (wrap_ok Ox Ox) ?_
      simp only [qz]
      refine rg_assign ?_
      simp only [qz]
      refine rg_nil ?_
      have hdz' := hdz.snoc (y := (cy + dig ys i) % 4294967296) Ox Ox
      have hst := plus_step (t := cy + dig ys i) Ox heq.out Ox
      refine ek_roundF (1000000 - (i + 1)) Ox Kx ?_
      exact ⟨i + 1, (cy + dig ys i) / 4294967296, v4, u4, zs ++ [(cy + dig ys i) % 4294967296], rfl, rfl, rfl, by rfl, by rfl, hO4, hdz', (by simp; omega), (by simp; omega), Ox, Ox, hst, Ox⟩
    (try simp only [qd, ne_eq] at h6)
    simp only [qz]
    exfalso; omega
  (try simp only [qd, ne_eq] at h1)
  simp only [qz]
  refine rg_move ?_
  simp only [qz]
  refine rg_skip Rx ?_
  simp only [qz]
  refine rg_skip Rx ?_
  simp only [qz]
  refine rg_skip Rx ?_
  simp only [qz]
  refine rg_skip Rx ?_
  simp only [qz]
  refine rf_pick rfl rfl rfl ?_
  simp only [qz]
  refine rg_move ?_
  simp only [qz]
  refine rg_skip Rx ?_
  simp only [qz]
  refine rg_skip Rx ?_
  simp only [qz]
  refine rf_pick rfl rfl rfl ?_
  simp only [qz]
  refine rg_nil (ek_next (wk_cond_t rfl (wk_skip (ek_next (wk_seq (wk_block (wk_seq (wk_seq ?_))))))))
  refine wk_region [0, 0, 0, 0] rfl Kx ?_
  simp only [qy]
  refine rg_move ?_
  simp only [qz]
  refine rg_move ?_
  simp only [qz]
  refine rf_len rfl rfl rfl Try.underlying68 ?_
  simp only [qz]
  refine rfb_lss rfl rfl rfl rfl ?_
  intro x h8
  cases x
  · (try simp only [qd, ne_eq] at h8)
    simp only [qz]
    exfalso; omega
  (try simp only [qd, ne_eq] at h8)
  simp only [qz]
  have dx := hd.at i
  have dy := hd2.at i
  obtain ⟨b, off, rfl, hlt, hcell⟩ := AS.openU hA Ox
  refine rg_nil (ek_next (wk_cond_t rfl ?_))
  refine wk_region [0, 0, 0, 0, 0, 0, 0, 0] rfl Kx ?_
  simp only [qy]
  refine rg_move ?_
  simp only [qz]
  refine rg_move ?_
  simp only [qz]
  refine rg_move ?_
  simp only [qz]
  refine rf_indexS (n := i) (sz := 1) (j := off + i * 1) rfl rfl rfl rfl Try.underlying68 Kx Ox Ox rfl ?_
  simp only [qz]
  refine rf_load rfl rfl rfl Try.underlying153 rfl (fun w hw => (by have := (Kn.cellB hw hlt (by simp) (off + i)).trans (hcell i Ox); simpa using this)) ?_
  simp only [qz]
  refine rf_conv rfl rfl rfl Try.underlying153 Try.underlying103 (wrap_okU Ox Ox) ?_
  simp only [qz]
  refine rf_add rfl rfl rfl rfl (wrap_okU Ox Ox) ?_
  simp only [qz]
  refine rg_assign ?_
  simp only [qz]
  refine rg_nil (ek_next (wk_seq (wk_seq ?_)))
  refine wk_region [0, 0, 0, 0] rfl Kx ?_
  simp only [qy]
  refine rg_move ?_
  simp only [qz]
  refine rg_move ?_
  simp only [qz]
  refine rf_len rfl rfl rfl Try.underlying68 ?_
  simp only [qz]
  refine rfb_lss rfl rfl rfl rfl ?_
  intro x h9
  cases x
  · (try simp only [qd, ne_eq] at h9)
    simp only [qz]
    have zy := dig_out (xs := ys) (k := i) Ox
    refine rg_nil (ek_next (wk_cond_f rfl (wk_skip (ek_next (wk_seq ?_)))))
    refine wk_region [0, 0, 0, 1, 1, 0] rfl Kx ?_
    simp only [qy]
    refine rg_move ?_
    simp only [qz]
    refine rg_move ?_
    simp only [qz]
    refine rf_conv rfl rfl rfl Try.underlying103 Try.underlying153 (IntKind.wrap_u32 _) ?_
    simp only [qz]
    refine rg_newS (cs := ?_) (ty := ?_) (n := 1) (c := 1) Rx (fun w => ?_) Nz (fun g5 => ?_); rotate_left 2
    focus (go_simp; rfl)
    simp only [qz]
    refine rg_pushU rfl rfl hc1 rfl Ox Nz (fun u6 v6 hO6 => ?_)
    simp only [qz]
    refine rg_assign ?_
    simp only [qz]
    refine rg_nil (ek_next ?_)
    refine wk_region [0, 0, 0] rfl Kx ?_
    simp only [qy]
    refine rg_move ?_
    simp only [qz]
    refine rf_shr (c := 32) (q := 4294967296) rfl rfl rfl rfl rfl (by decide) ?_
    simp only [qz]
    refine rg_assign ?_
    simp only [qz]
    refine rg_nil (ek_block (ek_next ?_))
    refine wk_region [0, 0, 0] rfl Kx ?_
    simp only [qy]
    refine rg_move ?_
    simp only [qz]
    refine rf_add rfl rfl rfl rfl (wrap_ok Ox Ox) ?_
    simp only [qz]
    refine rg_assign ?_
    simp only [qz]
    refine rg_nil ?_
    have hdz' := hdz.snoc (y := (cy + dig xs i) % 4294967296) Ox Ox
    have hst := plus_step (t := cy + dig xs i) Ox heq.out Ox
    refine ek_roundF (1000000 - (i + 1)) Ox Kx ?_
    exact ⟨i + 1, (cy + dig xs i) / 4294967296, v6, u6, zs ++ [(cy + dig xs i) % 4294967296], rfl, rfl, rfl, by rfl, by rfl, hO6, hdz', (by simp; omega), (by simp; omega), Ox, Ox, hst, Ox⟩
  (try simp only [qd, ne_eq] at h9)
  simp only [qz]
  obtain ⟨b2, off2, rfl, hlt2, hcell2⟩ := AS.openU hA2 Ox
  refine rg_nil (ek_next (wk_cond_t rfl ?_))
  refine wk_region [0, 0, 0, 0, 0, 0, 0, 0] rfl Kx ?_
  simp only [qy]
  refine rg_move ?_
  simp only [qz]
  refine rg_move ?_
  simp only [qz]
  refine rg_move ?_
  simp only [qz]
  refine rf_indexS (n := i) (sz := 1) (j := off2 + i * 1) rfl rfl rfl rfl Try.underlying68 Kx Ox Ox rfl ?_
  simp only [qz]
  refine rf_load rfl rfl rfl Try.underlying153 rfl (fun w hw => (by have := (Kn.cellB hw hlt2 (by simp) (off2 + i)).trans (hcell2 i Ox); simpa using this)) ?_
  simp only [qz]
  refine rf_conv rfl rfl rfl Try.underlying153 Try.underlying103 (wrap_okU Ox Ox) ?_
  simp only [qz]
  refine rf_add rfl rfl rfl rfl (wrap_okU Ox Ox) ?_
  simp only [qz]
  refine rg_assign ?_
  simp only [qz]
  refine rg_nil (ek_next (wk_seq ?_))
  refine wk_region [0, 0, 0, 1, 1, 0] rfl Kx ?_
  simp only [qy]
  refine rg_move ?_
  simp only [qz]
  refine rg_move ?_
  simp only [qz]
  refine rf_conv rfl rfl rfl Try.underlying103 Try.underlying153 (IntKind.wrap_u32 _) ?_
  simp only [qz]
  refine rg_newS (cs := ?_) (ty := ?_) (n := 1) (c := 1) Rx (fun w => ?_) Nz (fun g7 => ?_); rotate_left 2
  focus (go_simp; rfl)
  simp only [qz]
  refine rg_pushU rfl rfl hc1 rfl Ox Nz (fun u8 v8 hO8 => ?_)
  simp only [qz]
  refine rg_assign ?_
  simp only [qz]
  refine rg_nil (ek_next ?_)
  refine wk_region [0, 0, 0] rfl Kx ?_
  simp only [qy]
  refine rg_move ?_
  simp only [qz]
  refine rf_shr (c := 32) (q := 4294967296) rfl rfl rfl rfl rfl (by decide) ?_
  simp only [qz]
  refine rg_assign ?_
  simp only [qz]
  refine rg_nil (ek_block (ek_next ?_))
  refine wk_region [0, 0, 0] rfl Kx ?_
  simp only [qy]
  refine rg_move ?_
  simp only [qz]
  refine rf_add rfl rfl rfl rfl (wrap_ok Ox Ox) ?_
  simp only [qz]
  refine rg_assign ?_
  simp only [qz]
  refine rg_nil ?_
  have hdz' := hdz.snoc (y := (cy + dig xs i + dig ys i) % 4294967296) Ox Ox
  have hst := plus_step (t := cy + dig xs i + dig ys i) Ox heq.out Ox
  refine ek_roundF (1000000 - (i + 1)) Ox Kx ?_
  exact ⟨i + 1, (cy + dig xs i + dig ys i) / 4294967296, v8, u8, zs ++ [(cy + dig xs i + dig ys i) % 4294967296], rfl, rfl, rfl, by rfl, by rfl, hO8, hdz', (by simp; omega), (by simp; omega), Ox, Ox, hst, Ox⟩

theorem minus_end {x y bo : Int} {i : Nat} {zs : List Int} (h : dval zs = x - y + 4294967296 ^ i * bo) (hd : Dg zs) (hl : zs.length = i) (hge : y ≤ x) (h0 : 0 ≤ bo) (h1 : bo ≤ 1) : dval zs = x - y := by
  have := (dval_range hd).2
  rw [hl] at this
  rcases (by omega : bo = 0 ∨ bo = 1) with rfl | rfl
  · omega
  omega
theorem wrap32_ok {n : Int} (h0 : 0 ≤ n) (h1 : n < 4294967296) : IntKind.u32.wrap n = n := by rw [IntKind.wrap_u32]; omega
set_option maxRecDepth 100000 in
set_option maxHeartbeats 1000000 in
theorem bminus_any (xs ys : List Int) (a a2 : Option Addr) (c c2 : Nat) (hd : Dg xs) (hd2 : Dg ys) (hl : xs.length ≤ 100000) (hl2 : ys.length ≤ 100000) (hge : dval ys ≤ dval xs) (hlen : ys.length ≤ xs.length) (w : World) (hA : AS w a (us xs)) (hA2 : AS w a2 (us ys)) : Calls Try.prog 140 #[.slice a xs.length c, .slice a2 ys.length c2] w fun e w' => RetD w (dval xs - dval ys).toNat e w' := by
  go_enter Try.func140, Try.ntmps140
  refine wk_start ?_
  refine wk_seq ?_
  refine wk_region [0] rfl Kx ?_
  simp only [qy]
  refine rg_assign ?_
  simp only [qz]
  refine rg_nil (ek_next (wk_seq ?_))
  refine wk_region [0] rfl Kx ?_
  simp only [qy]
  refine rg_assign ?_
  simp only [qz]
  refine rg_nil (ek_next (wk_seq ?_))
  refine wk_region [0] rfl Kx ?_
  simp only [qy]
  refine rg_assign ?_
  simp only [qz]
  refine rg_nil (ek_next (wk_seq (wk_seq ?_)))
  refine wk_region [0] rfl Kx ?_
  simp only [qy]
  refine rg_assign ?_
  simp only [qz]
  refine rg_nil (ek_next (wk_block ?_))
  refine wk_loopF [5, 6, 7, 8, 9, 10, 11, 12, 13, 14, 15, 16, 17, 18, 19, 20, 21, 22, 23, 24, 25, 26, 27, 28, 29, 30, 31, 32, 33, 34, 35, 36, 37, 38, 39, 40, 41] (fun mz f s => ∃ (i : Nat) (bo : Int) (v : Value) (u : List Blk) (zs : List Int), f 5 = v ∧ f 6 = .int .i64 bo ∧ f 7 = .int .i64 i ∧ s = (u ++ []) ∧ mz = xs.length - i ∧ OwnG DgE 153 u v zs ∧ Dg zs ∧ zs.length ≤ i ∧ i ≤ zs.length ∧ 0 ≤ bo ∧ bo ≤ 1 ∧ dval zs = dval (xs.take i) - dval (ys.take i) + 4294967296 ^ i * bo ∧ i ≤ xs.length) ((fun (i : Nat) (bo : Int) (v : Value) (u : List Blk) (zs : List Int) => xs.length - i) (0) (0) (.slice none 0 0) ([]) ([])) ?_ Kx ?_
  · exact ⟨0, 0, .slice none 0 0, [], [], rfl, rfl, rfl, rfl, rfl, OwnG.nil, Dg.nil, by simp, by simp, by omega, by omega, by simp [dval], by omega⟩
  rintro mz f1 s ⟨i, bo, v, u, zs, hs1_5, hs1_6, hs1_7, rfl, hn, hc1, hc2, hc3, hc4, hc5, hc6, hc7, hc8⟩
  simp only [Act.putF, List.foldl_cons, List.foldl_nil, hs1_5, hs1_6, hs1_7, Act.put, Act.eval, q1, q2, q3, q4, q5, q6, q7, q8, q9, q10, q11, q12, q13, q14, q15, q16, q17, q18, Nat.reduceAdd, Bool.not_true, Bool.not_false]
  clear hs1_5 hs1_6 hs1_7
  have hO := hc1
  have hdz := hc2
  have heq := Lib.hid hc7
  clear hc2 hc7
  refine wk_seq (wk_seq ?_)
  refine wk_region [0, 0, 0, 0] rfl Kx ?_
  simp only [qy]
  refine rg_move ?_
  simp only [qz]
  refine rg_move ?_
  simp only [qz]
  refine rf_len rfl rfl rfl Try.underlying68 ?_
  simp only [qz]
  refine rfb_lss rfl rfl rfl rfl ?_
  intro x h1
  cases x
  · (try simp only [qd, ne_eq] at h1)
    simp only [qz]
    refine rg_nil (ek_next (wk_cond_f rfl (wk_exit (ek_then_exit (ek_then_exit (ek_block_exit (ek_next (wk_seq ?_))))))))
    refine wk_region [0, 1, 0] rfl Kx ?_
    simp only [qy]
    refine rg_move ?_
    simp only [qz]
    obtain ⟨a0, c0, rfl, hcap⟩ := hO.val
    apply (rg_or (X := fun v => ∃ m, m ≤ zs.length ∧ v = .slice a0 m c0 ∧ (∀ j, m ≤ j → dig zs j = 0) ∧ (m = 0 ∨ dig zs (m - 1) ≠ 0))) Rx Kx
    case hargs => exact Ax
    case h => exact fun w hw => (trimmed_any zs a0 c0 hdz hcap Ox w (hO.as' hw)).mono fun e w' ⟨m, h1, h2, h3, h4, h5⟩ => ⟨_, h2, ⟨m, h1, rfl, h3, h4⟩, h5⟩
    case hz => exact Nz
    rintro v ⟨m, hm1, rfl, hm2, hm3⟩
    simp only [qz]
    refine rg_assign ?_
    simp only [qz]
    refine rg_nil (ek_next (wk_ret ?_))
    refine ek_ret (fun w hw => ⟨rfl, _, res_t _ rfl, ?_⟩)
    (try simp only [qz])
    have e1 : dval zs = dval xs - dval ys := by
      have h1 := heq.out
      rw [List.take_of_length_le Ox, List.take_of_length_le (show ys.length ≤ i by omega)] at h1
      exact minus_end h1 hdz Ox hge hc5 hc6
    exact ⟨_, u, rfl, e1 ▸ SU.own hO m hm1 (trim_eq hdz hm1 hm2 hm3) rfl, hw.made (by simp)⟩
  (try simp only [qd, ne_eq] at h1)
  simp only [qz]
  have dx := hd.at i
  have dy := hd2.at i
  obtain ⟨b, off, rfl, hlt, hcell⟩ := AS.openU hA Ox
  refine rg_nil (ek_next (wk_cond_t rfl (wk_skip (ek_next (wk_seq (wk_block (wk_seq ?_)))))))
  refine wk_region [0, 0, 0, 0, 0, 0, 0, 0] rfl Kx ?_
  simp only [qy]
  refine rg_move ?_
  simp only [qz]
  refine rg_move ?_
  simp only [qz]
  refine rf_indexS (n := i) (sz := 1) (j := off + i * 1) rfl rfl rfl rfl Try.underlying68 Kx Ox Ox rfl ?_
  simp only [qz]
  refine rf_load rfl rfl rfl Try.underlying153 rfl (fun w hw => (by have := (Kn.cellB hw hlt (by simp) (off + i)).trans (hcell i Ox); simpa using this)) ?_
  simp only [qz]
  refine rf_conv rfl rfl rfl Try.underlying153 Try.underlying2 (wrap_ok Ox Ox) ?_
  simp only [qz]
  refine rg_move ?_
  simp only [qz]
  refine rf_sub rfl rfl rfl rfl (wrap_ok Ox Ox) ?_
  simp only [qz]
  refine rg_assign ?_
  simp only [qz]
  refine rg_nil (ek_next (wk_seq (wk_seq ?_)))
  refine wk_region [0, 0, 0, 0] rfl Kx ?_
  simp only [qy]
  refine rg_move ?_
  simp only [qz]
  refine rg_move ?_
  simp only [qz]
  refine rf_len rfl rfl rfl Try.underlying68 ?_
  simp only [qz]
  refine rfb_lss rfl rfl rfl rfl ?_
  intro x h2
  cases x
  · (try simp only [qd, ne_eq] at h2)
    simp only [qz]
    have zy := dig_out (xs := ys) (k := i) Ox
    refine rg_nil (ek_next (wk_cond_f rfl (wk_skip (ek_next (wk_seq ?_)))))
    refine wk_region [0] rfl Kx ?_
    simp only [qy]
    refine rg_assign ?_
    simp only [qz]
    refine rg_nil (ek_next (wk_seq (wk_seq ?_)))
    refine wk_region [0, 0] rfl Kx ?_
    simp only [qy]
    refine rg_move ?_
    simp only [qz]
    refine rfb_lss rfl rfl rfl rfl ?_
    intro x h3
    cases x
    · (try simp only [qd, ne_eq] at h3)
      simp only [qz]
      refine rg_nil (ek_next (wk_cond_f rfl (wk_skip (ek_next ?_))))
      refine wk_region [0, 0, 0, 1, 1, 0] rfl Kx ?_
      simp only [qy]
      refine rg_move ?_
      simp only [qz]
      refine rg_move ?_
      simp only [qz]
      refine rf_conv rfl rfl rfl Try.underlying2 Try.underlying153 (wrap32_ok Ox Ox) ?_
      simp only [qz]
      refine rg_newS (cs := ?_) (ty := ?_) (n := 1) (c := 1) Rx (fun w => ?_) Nz (fun g1 => ?_); rotate_left 2
      focus (go_simp; rfl)
      simp only [qz]
      refine rg_pushU rfl rfl hc1 rfl Ox Nz (fun u2 v2 hO2 => ?_)
      simp only [qz]
      refine rg_assign ?_
      simp only [qz]
      refine rg_nil (ek_block (ek_next ?_))
      refine wk_region [0, 0, 0] rfl Kx ?_
      simp only [qy]
      refine rg_move ?_
      simp only [qz]
      refine rf_add rfl rfl rfl rfl (wrap_ok Ox Ox) ?_
      simp only [qz]
      refine rg_assign ?_
      simp only [qz]
      refine rg_nil ?_
      have hdz' := hdz.snoc (y := dig xs i - bo) Ox Ox
      have hst := minus_step (t := dig xs i - bo) Ox heq.out Ox 0
      rw [show dig xs i - bo + 4294967296 * 0 = dig xs i - bo by omega] at hst
      refine ek_roundF (xs.length - (i + 1)) Ox Kx ?_
      exact ⟨i + 1, 0, v2, u2, zs ++ [dig xs i - bo], rfl, rfl, rfl, by rfl, by rfl, hO2, hdz', (by simp; omega), (by simp; omega), Ox, Ox, hst, Ox⟩
    (try simp only [qd, ne_eq] at h3)
    simp only [qz]
    refine rg_nil (ek_next (wk_cond_t rfl (wk_seq ?_)))
    refine wk_region [0, 0, 0] rfl Kx ?_
    simp only [qy]
    refine rg_move ?_
    simp only [qz]
    refine rf_add rfl rfl rfl rfl (wrap_ok Ox Ox) ?_
    simp only [qz]
    refine rg_assign ?_
    simp only [qz]
    refine rg_nil (ek_next ?_)
    refine wk_region [0] rfl Kx ?_
    simp only [qy]
    refine rg_assign ?_
    simp only [qz]
    refine rg_nil (ek_next ?_)
    refine wk_region [0, 0, 0, 1, 1, 0] rfl Kx ?_
    simp only [qy]
    refine rg_move ?_
    simp only [qz]
    refine rg_move ?_
    simp only [qz]
    refine rf_conv rfl rfl rfl Try.underlying2 Try.underlying153 (wrap32_ok Ox Ox) ?_
    simp only [qz]
    refine rg_newS (cs := ?_) (ty := ?_) (n := 1) (c := 1) Rx (fun w => ?_) Nz (fun g3 => ?_); rotate_left 2
    focus (go_simp; rfl)
    simp only [qz]
    refine rg_pushU rfl rfl hc1 rfl Ox Nz (fun u4 v4 hO4 => ?_)
    simp only [qz]
    refine rg_assign ?_
    simp only [qz]
    refine rg_nil (ek_block (ek_next ?_))
    refine wk_region [0, 0, 0] rfl Kx ?_
    simp only [qy]
    refine rg_move ?_
    simp only [qz]
    refine rf_add rfl rfl rfl rfl (wrap_ok Ox Ox) ?_
    simp only [qz]
    refine rg_assign ?_
    simp only [qz]
    refine rg_nil ?_
    have hdz' := hdz.snoc (y := dig xs i - bo + 4294967296) Ox Ox
    have hst := minus_step (t := dig xs i - bo) Ox heq.out Ox 1
    rw [show dig xs i - bo + 4294967296 * 1 = dig xs i - bo + 4294967296 by omega] at hst
    refine ek_roundF (xs.length - (i + 1)) Ox Kx ?_
    exact ⟨i + 1, 1, v4, u4, zs ++ [dig xs i - bo + 4294967296], rfl, rfl, rfl, by rfl, by rfl, hO4, hdz', (by simp; omega), (by simp; omega), Ox, Ox, hst, Ox⟩
  (try simp only [qd, ne_eq] at h2)
  simp only [qz]
  obtain ⟨b2, off2, rfl, hlt2, hcell2⟩ := AS.openU hA2 Ox
  refine rg_nil (ek_next (wk_cond_t rfl ?_))
  refine wk_region [0, 0, 0, 0, 0, 0, 0, 0] rfl Kx ?_
  simp only [qy]
  refine rg_move ?_
  simp only [qz]
  refine rg_move ?_
  simp only [qz]
  refine rg_move ?_
  simp only [qz]
  refine rf_indexS (n := i) (sz := 1) (j := off2 + i * 1) rfl rfl rfl rfl Try.underlying68 Kx Ox Ox rfl ?_
  simp only [qz]
  refine rf_load rfl rfl rfl Try.underlying153 rfl (fun w hw => (by have := (Kn.cellB hw hlt2 (by simp) (off2 + i)).trans (hcell2 i Ox); simpa using this)) ?_
  simp only [qz]
  refine rf_conv rfl rfl rfl Try.underlying153 Try.underlying2 (wrap_ok Ox Ox) ?_
  simp only [qz]
  refine rf_sub rfl rfl rfl rfl (wrap_ok Ox Ox) ?_
  simp only [qz]
  refine rg_assign ?_
  simp only [qz]
  refine rg_nil (ek_next (wk_seq ?_))
  refine wk_region [0] rfl Kx ?_
  simp only [qy]
  refine rg_assign ?_
  simp only [qz]
  refine rg_nil (ek_next (wk_seq (wk_seq ?_)))
  refine wk_region [0, 0] rfl Kx ?_
  simp only [qy]
  refine rg_move ?_
  simp only [qz]
  refine rfb_lss rfl rfl rfl rfl ?_
  intro x h4
  cases x
  · (try simp only [qd, ne_eq] at h4)
    simp only [qz]
    refine rg_nil (ek_next (wk_cond_f rfl (wk_skip (ek_next ?_))))
    refine wk_region [0, 0, 0, 1, 1, 0] rfl Kx ?_
    simp only [qy]
    refine rg_move ?_
    simp only [qz]
    refine rg_move ?_
    simp only [qz]
    refine rf_conv rfl rfl rfl Try.underlying2 Try.underlying153 (wrap32_ok Ox Ox) ?_
    simp only [qz]
    refine rg_newS (cs := ?_) (ty := ?_) (n := 1) (c := 1) Rx (fun w => ?_) Nz (fun g5 => ?_); rotate_left 2
    focus (go_simp; rfl)
    simp only [qz]
    refine rg_pushU rfl rfl hc1 rfl Ox Nz (fun u6 v6 hO6 => ?_)
    simp only [qz]
    refine rg_assign ?_
    simp only [qz]
    refine rg_nil (ek_block (ek_next ?_))
    refine wk_region [0, 0, 0] rfl Kx ?_
    simp only [qy]
    refine rg_move ?_
    simp only [qz]
    refine rf_add rfl rfl rfl rfl (wrap_ok Ox Ox) ?_
    simp only [qz]
    refine rg_assign ?_
    simp only [qz]
    refine rg_nil ?_
    have hdz' := hdz.snoc (y := dig xs i - bo - dig ys i) Ox Ox
    have hst := minus_step (t := dig xs i - bo - dig ys i) Ox heq.out Ox 0
    rw [show dig xs i - bo - dig ys i + 4294967296 * 0 = dig xs i - bo - dig ys i by omega] at hst
    refine ek_roundF (xs.length - (i + 1)) Ox Kx ?_
    exact ⟨i + 1, 0, v6, u6, zs ++ [dig xs i - bo - dig ys i], rfl, rfl, rfl, by rfl, by rfl, hO6, hdz', (by simp; omega), (by simp; omega), Ox, Ox, hst, Ox⟩
  (try simp only [qd, ne_eq] at h4)
  simp only [qz]
  refine rg_nil (ek_next (wk_cond_t rfl (wk_seq ?_)))
  refine wk_region [0, 0, 0] rfl Kx ?_
  simp only [qy]
  refine rg_move ?_
  simp only [qz]
  refine rf_add rfl rfl rfl rfl (wrap_ok Ox Ox) ?_
  simp only [qz]
  refine rg_assign ?_
  simp only [qz]
  refine rg_nil (ek_next ?_)
  refine wk_region [0] rfl Kx ?_
  simp only [qy]
  refine rg_assign ?_
  simp only [qz]
  refine rg_nil (ek_next ?_)
  refine wk_region [0, 0, 0, 1, 1, 0] rfl Kx ?_
  simp only [qy]
  refine rg_move ?_
  simp only [qz]
  refine rg_move ?_
  simp only [qz]
  refine rf_conv rfl rfl rfl Try.underlying2 Try.underlying153 (wrap32_ok Ox Ox) ?_
  simp only [qz]
  refine rg_newS (cs := ?_) (ty := ?_) (n := 1) (c := 1) Rx (fun w => ?_) Nz (fun g7 => ?_); rotate_left 2
  focus (go_simp; rfl)
  simp only [qz]
  refine rg_pushU rfl rfl hc1 rfl Ox Nz (fun u8 v8 hO8 => ?_)
  simp only [qz]
  refine rg_assign ?_
  simp only [qz]
  refine rg_nil (ek_block (ek_next ?_))
  refine wk_region [0, 0, 0] rfl Kx ?_
  simp only [qy]
  refine rg_move ?_
  simp only [qz]
  refine rf_add rfl rfl rfl rfl (wrap_ok Ox Ox) ?_
  simp only [qz]
  refine rg_assign ?_
  simp only [qz]
  refine rg_nil ?_
  have hdz' := hdz.snoc (y := dig xs i - bo - dig ys i + 4294967296) Ox Ox
  have hst := minus_step (t := dig xs i - bo - dig ys i) Ox heq.out Ox 1
  rw [show dig xs i - bo - dig ys i + 4294967296 * 1 = dig xs i - bo - dig ys i + 4294967296 by omega] at hst
  refine ek_roundF (xs.length - (i + 1)) Ox Kx ?_
  exact ⟨i + 1, 1, v8, u8, zs ++ [dig xs i - bo - dig ys i + 4294967296], rfl, rfl, rfl, by rfl, by rfl, hO8, hdz', (by simp; omega), (by simp; omega), Ox, Ox, hst, Ox⟩

end Go.Proofs.Ytjeijnjaleldkaa
