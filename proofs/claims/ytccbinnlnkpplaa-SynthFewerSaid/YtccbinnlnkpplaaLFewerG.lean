/- Texts in one: Ma3, Sws, PgB, EqA, Pg1, PgC, AmHv, Pg2, Pg3, Sf, Pg4. -/
import Derived.Test.YtccbinnlnkpplaaLFewerF
namespace Go.Proofs.Ytccbinnlnkpplaa
set_option linter.all false
open Go.RowKit

theorem fit_own {N : Nat} {x : It} (h : fitB N x = true) : 1 ≤ x.at_ ∧ (x.at_ - 1).toNat + ownN x ≤ N ∧ 1 ≤ ownN x ∧ ownN x ≤ 2 ∧ x.at_ = ((x.at_ - 1).toNat : Int) + 1 := by
  unfold fitB at h
  rw [decide_eq_true_eq] at h
  obtain ⟨h1, h2, h3⟩ := h
  unfold wd at h1 h3
  unfold ownN
  by_cases hk : x.kind = 1
  · rw [if_pos hk] at h1 h3 ⊢
    split at h1
    · next hn => rw [if_pos hn] at h3; omega
    exact absurd rfl h1
  rw [if_neg hk] at h1 h3 ⊢
  split at h1
  · next hn =>
    rw [if_pos hn] at h3
    split at h1
    · next hm => rw [if_pos hm] at h3; omega
    exact absurd rfl h1
  exact absurd rfl h1
theorem itemE_zero {n : Int} {xs : List It} (h : itemE n xs = 0) : validI n xs = true := by
  unfold itemE at h
  split at h
  · split at h
    · assumption
    cases h
  cases h
theorem ownL_len (x : It) : (ownL x).length = ownN x * ownN x := by
  unfold ownL ownN
  by_cases hk : x.kind = 1
  · rw [if_pos hk, if_pos hk]; rfl
  rw [if_neg hk, if_neg hk]
  split <;> rfl
theorem itL_len {N : Nat} (h1 : 1 ≤ N) (h6 : N ≤ 6) (x : It) : (itL N x).length = N * N := by
  unfold itL plcL
  rw [plcS_len, idM_len h1 h6]
theorem mulM_code {n m : Int} {xs ys : List Nm} {c : Int} (h : mulM n m xs ys = .error c) : c ≠ 0 := by
  unfold mulM at h
  split at h
  · split at h
    · obtain ⟨i, hi, he⟩ := gather_err_mem h
      have := prodsR_code he
      omega
    cases h; decide
  cases h; decide
theorem matS_code {N : Nat} {xs : List It} : ∀ {j : Nat} {c : Int}, matS N xs j = .error c → c ≠ 0
  | 0, c, h => by cases h
  | j + 1, c, h => by
    simp only [matS] at h
    split at h
    · next c' hc => cases h; exact matS_code hc
    · exact mulM_code h
theorem rC_ok {r : LR} (hc : ∀ c, r = .error c → c ≠ 0) (h : rC r = 0) : ∃ l, r = .ok l := by
  cases r with
  | ok l => exact ⟨l, rfl⟩
  | error c => exact absurd h (hc c rfl)
theorem matS_len {N : Nat} {xs : List It} (h1 : 1 ≤ N) (h6 : N ≤ 6) : ∀ {j : Nat} {l : List Nm}, matS N xs j = .ok l → l.length = N * N
  | 0, l, h => by cases h; exact idM_len h1 h6
  | j + 1, l, h => by
    simp only [matS] at h
    split at h
    · cases h
    · unfold mulM at h
      split at h
      · rw [if_pos rfl, Int.toNat_natCast] at h
        exact made_len h
      · cases h
theorem itAt_range {w : World} {b off : Nat} {i : It} (h : ItAt w b off i) : w.rangeAt b off [.int .i64 i.kind, .int .i64 i.at_, .int .i64 i.n, .string i.name] := by
  intro j v hj
  match j, hj with
  | 0, hj => injection hj with hj; subst hj; exact h.c0
  | 1, hj => injection hj with hj; subst hj; exact h.c1
  | 2, hj => injection hj with hj; subst hj; exact h.c2
  | 3, hj => injection hj with hj; subst hj; exact h.c3
  | n + 4, hj => cases hj
theorem run_lookup_noneM (s : ByteArray) (w : World) : (Instr.lookup 148 (.map none) (.string s) true).run Try.prog w = .ok (.tuple #[.agg #[.int .i64 0, .slice none 0 0], .bool false]) w := by
  kernel_rfl
section
variable {R : Option Nat} {ops : Array Oper} {Q : Exit → Act → World → Prop} {B : World} {F : List Nat} {s0 : Option (List Blk × List Blk)}
variable {l : List (Oper × Nat)} {a : Act} {s : List Blk} {d : Option Tmp} {t : TypeId} {p : String} {af : Array Edge} {gd : Option (Nat × Bool)} {m : Nat}
theorem rf_lookM {x y : Operand} {nm_ : ByteArray} (hm : soft03 m = true) (hg : Region.wanted ⟨d, .lookup 148 x y true, t, p, af, gd⟩ (yielded ops a.tmps) = true)
    (hx : a.eval x = .map none) (hy : a.eval y = .string nm_) (h : Rg R Try.prog ops Q B F s0 l (a.put d (.tuple #[.agg #[.int .i64 0, .slice none 0 0], .bool false])) s) : Rg R Try.prog ops Q B F s0 ((⟨d, .lookup 148 x y true, t, p, af, gd⟩, m) :: l) a s := by
  refine rg_any hm hg (fun w => ?_) h
  unfold Yld
  have := run_lookup_noneM nm_ w
  simp [execOp, hx, hy, this]
end
set_option maxRecDepth 100000 in
set_option maxHeartbeats 1000000 in
theorem mcheck_any (n : Int) (xs : List It) (a : Option Addr) (c : Nat) (w : World) (hA : AS w a (its xs)) : Calls Try.prog 73 #[.int .i64 n, .slice a xs.length c] w fun e w' => e = .returned (.int .i64 (itemE n xs)) ∧ Below w.heap.size w w' := by
  go_enter Try.func73, Try.ntmps73
  refine wk_start ?_
  refine wk_seq ?_
  refine wk_region [0] rfl (by kernel_rfl) ?_
  simp only [qy]
  refine rg_assign ?_
  simp only [qz]
  refine rg_nil (ek_next (wk_seq (wk_block (wk_seq ?_))))
  refine wk_region [0, 1, 0, 0] rfl (by kernel_rfl) ?_
  simp only [qy]
  refine rg_move ?_
  simp only [qz]
  apply rg_pureb (by rfl) (by kernel_rfl)
  case hargs => (simp only [qm, qs, Act.eval]; exact rfl)
  case h => exact fun w hw => between_mesh 1 n 6 w
  case hz => exact (fun _ h => by cases h)
  intro x h1
  cases x
  · (try simp only [qd, ne_eq] at h1)
    simp only [qz]
    have hbt := betB_false h1
    clear h1
    refine rf_not rfl rfl rfl ?_
    simp only [qz]
    refine rg_assign ?_
    simp only [qz]
    refine rg_nil (ek_next (wk_cond_t rfl (wk_seq ?_)))
    refine wk_region [0] rfl (by kernel_rfl) ?_
    simp only [qy]
    refine rg_assign ?_
    simp only [qz]
    refine rg_nil (ek_next (wk_ret (ek_block_ret (ek_then_ret ?_))))
    refine ek_ret (fun w hw => ⟨rfl, _, res_t _ rfl, ?_⟩)
    (try simp only [qz])
    exact ⟨by unfold itemE; rw [if_neg hbt], hw.below⟩
  (try simp only [qd, ne_eq] at h1)
  simp only [qz]
  have hbt := betB_true h1
  clear h1
  refine rf_not rfl rfl rfl ?_
  simp only [qz]
  refine rg_assign ?_
  simp only [qz]
  refine rg_nil (ek_next (wk_cond_f rfl (wk_seq ?_)))
  refine wk_region [0, 0, 1, 0, 0] rfl (by kernel_rfl) ?_
  simp only [qy]
  refine rg_move ?_
  simp only [qz]
  refine rg_move ?_
  simp only [qz]
  apply rg_pureb (by rfl) (by kernel_rfl)
  case hargs => (simp only [qm, qs, Act.eval]; exact rfl)
  case h => exact fun w hw => mvalidI_any xs a c n w (hA.kn0 hw)
  case hz => exact (fun _ h => by cases h)
  intro x h2
  cases x
  · (try simp only [qd, ne_eq] at h2)
    simp only [qz]
    refine rf_not rfl rfl rfl ?_
    simp only [qz]
    refine rg_assign ?_
    simp only [qz]
    refine rg_nil (ek_next (wk_cond_t rfl (wk_seq ?_)))
    refine wk_region [0] rfl (by kernel_rfl) ?_
    simp only [qy]
    refine rg_assign ?_
    simp only [qz]
    refine rg_nil (ek_next (wk_ret (ek_block_ret (ek_then_ret ?_))))
    refine ek_ret (fun w hw => ⟨rfl, _, res_t _ rfl, ?_⟩)
    (try simp only [qz])
    exact ⟨by unfold itemE; rw [if_pos hbt, if_neg (by rw [h2]; decide)], hw.below⟩
  (try simp only [qd, ne_eq] at h2)
  simp only [qz]
  refine rf_not rfl rfl rfl ?_
  simp only [qz]
  refine rg_assign ?_
  simp only [qz]
  refine rg_nil (ek_next (wk_cond_f rfl (wk_skip (ek_block (ek_next (wk_seq ?_))))))
  refine wk_region [0] rfl (by kernel_rfl) ?_
  simp only [qy]
  refine rg_assign ?_
  simp only [qz]
  refine rg_nil (ek_next (wk_ret ?_))
  refine ek_ret (fun w hw => ⟨rfl, _, res_t _ rfl, ?_⟩)
  (try simp only [qz])
  exact ⟨by unfold itemE; rw [if_pos hbt, if_pos h2], hw.below⟩

set_option maxRecDepth 100000 in
set_option maxHeartbeats 1000000 in
theorem made_items (N : Nat) (xs : List It) (a : Option Addr) (c : Nat) (hN1 : 1 ≤ N) (hN6 : N ≤ 6) (hlx : xs.length ≤ 5000) (hfit : ∀ j, j < xs.length → fitB N (it xs j) = true) (w : World) (hA : AS w a (its xs)) : Calls Try.prog 74 #[.int .i64 N, .slice a xs.length c, .map none] w fun e w' => RetM w (rN N (matS N xs xs.length)) (rL (matS N xs xs.length)) (rC (matS N xs xs.length)) e w' := by
  go_enter Try.func74, Try.ntmps74
  refine wk_start ?_
  refine wk_seq ?_
  refine wk_region [1, 0] rfl (by kernel_rfl) ?_
  simp only [qy]
  refine rg_new (cs := ?_) (ty := ?_) (by rfl) (fun w => ?_) (fun _ h => by cases h) (fun g1 => ?_); rotate_left 2
  focus (go_simp; rfl)
  simp only [qz]
  refine rg_assign ?_
  simp only [qz]
  refine rg_nil (ek_next (wk_seq ?_))
  refine wk_region [0, 1, 0, 0, 0, 1, 1, 0] rfl (by kernel_rfl) ?_
  simp only [qy]
  refine rg_move ?_
  simp only [qz]
  apply (rg_retM (n := (N : Int)) (zs := idM N) (c := 0)) (by rfl) (by kernel_rfl)
  case hargs => (simp only [qm, qs, Act.eval]; exact rfl)
  case h => exact fun w hw => by have := identity_any N w; rw [ident_okM hN1 hN6, Int.toNat_natCast] at this; exact this
  case hz => exact (fun _ h => by cases h)
  intro va2 vc2 u2 hO2
  simp only [qz]
  refine rg_move ?_
  simp only [qz]
  refine rf_extract rfl rfl rfl rfl ?_
  simp only [qz]
  refine rf_extract rfl rfl rfl rfl ?_
  simp only [qz]
  refine rg_new (cs := ?_) (ty := ?_) (by rfl) (fun w => ?_) (fun _ h => by cases h) (fun g3 => ?_); rotate_left 2
  focus (go_simp; rfl)
  simp only [qz]
  refine rf_storeR (n := 2) rfl rfl (by kernel_rfl) rfl rfl (UpdR.here _ _ _ (Nat.le_of_ble_eq_true rfl)) (fun _ h => by cases h) ?_
  simp only [qz, Nat.reduceAdd]
  refine rg_assign ?_
  simp only [qz]
  refine rg_nil (ek_next (wk_seq (wk_seq ?_)))
  refine wk_region [0, 0, 0] rfl (by kernel_rfl) ?_
  simp only [qy]
  refine rg_move ?_
  simp only [qz]
  refine rf_len rfl rfl rfl Try.underlying32 ?_
  simp only [qz]
  refine rg_move ?_
  simp only [qz]
  refine rg_nil (ek_next (wk_block ?_))
  refine wk_loopF [7, 9, 11, 12, 13, 21, 22, 23, 24, 25, 26, 27, 28, 29, 30, 31, 32, 33, 34, 35, 36, 37, 38, 39, 40, 41, 42, 43, 44, 45, 46, 47, 48, 49, 50] (fun mz f s => ∃ (i : Nat) (r : LR) (va : Option Addr) (vc : Nat) (u : List Blk), f 9 = .int .i64 (rC r) ∧ f 21 = .int .i64 i ∧ s = ((g3, .cells #[.int .i64 (rN N r), .slice va (rL r).length vc] 38) :: (u ++ ((g1, .cells #[.int .i64 0, .slice none 0 0] 38) :: []))) ∧ mz = xs.length - i ∧ i ≤ xs.length ∧ Hid (matS N xs i = r) ∧ OwnN u (.slice va (rL r).length vc) (rL r)) ((fun (i : Nat) (r : LR) (va : Option Addr) (vc : Nat) (u : List Blk) => xs.length - i) (0) (.ok (idM N)) (va2) (vc2) (u2)) ?_ (by kernel_rfl) ?_
  · exact ⟨0, .ok (idM N), va2, vc2, u2, rfl, rfl, rfl, rfl, by omega, Lib.hid rfl, hO2⟩
  rintro mz f1 s ⟨i, r, va, vc, u, hs1_9, hs1_21, rfl, hn, hd1, hd2, hd3⟩
  simp only [Act.putF, List.foldl_cons, List.foldl_nil, hs1_9, hs1_21, Act.put, Act.eval, q1, q2, q3, q4, q5, q6, q7, q8, q9, q10, q11, q12, q13, q14, q15, q16, q17, q18, Nat.reduceAdd, Bool.not_true, Bool.not_false]
  clear hs1_9 hs1_21
  refine wk_seq ?_
  refine wk_region [0] rfl (by kernel_rfl) ?_
  simp only [qy]
  refine rfb_lss rfl rfl rfl rfl ?_
  intro x h1
  cases x
  · (try simp only [qd, ne_eq] at h1)
    simp only [qz]
    refine rg_nil (ek_next (wk_seq (wk_cond_f rfl (wk_exit (ek_then_exit (ek_then_exit (ek_block_exit (ek_next (wk_seq ?_)))))))))
    refine wk_region [0, 0, 1, 0] rfl (by kernel_rfl) ?_
    simp only [qy]
    refine rf_loadR (n := 2) rfl rfl rfl Try.underlying38 rfl (by kernel_rfl) (fun w hw => Kn.hd0 hw) rfl rfl ?_
    simp only [qz]
    refine rg_move ?_
    simp only [qz]
    refine rf_storeR (n := 2) rfl rfl (by kernel_rfl) rfl rfl (UpdR.there _ (UpdR.app _ (UpdR.here _ _ _ (Nat.le_of_ble_eq_true rfl)))) (fun _ h => by cases h) ?_
    simp only [qz, Nat.reduceAdd]
    refine rg_assign ?_
    simp only [qz]
    refine rg_nil (ek_next (wk_ret ?_))
    refine ek_ret (fun w hw => ⟨rfl, _, run_results2 rfl rfl (Kn.hd0 (Kn.tlU (Kn.tl hw))) Try.underlying38 rfl (by kernel_rfl), ?_⟩)
    (try simp only [qz])
    obtain rfl : i = xs.length := by omega
    rw [hd2.out]
    exact ⟨_, u, rfl, hd3, hw.made (List.Sublist.cons _ (List.sublist_append_left _ _))⟩
  (try simp only [qd, ne_eq] at h1)
  simp only [qz]
  refine rg_nil (ek_next (wk_seq (wk_cond_t rfl (wk_skip (ek_next (wk_seq (wk_block (wk_seq ?_))))))))
  obtain ⟨b, off, rfl, hlt, hcell⟩ := AS.openT hA (by omega)
  obtain ⟨x, hx⟩ : ∃ x, it xs i = x := ⟨_, rfl⟩
  have hit := hcell i (by omega)
  have hfx := hfit i (by omega)
  rw [hx] at hit hfx
  have hfo := fit_own hfx
  replace hx := Lib.hid hx
  refine wk_region [0, 0, 1, 1] rfl (by kernel_rfl) ?_
  simp only [qy]
  refine rf_indexS (n := i) (sz := 4) (j := off + i * 4) rfl rfl rfl rfl Try.underlying32 (by kernel_rfl) (by omega) (by omega) rfl ?_
  simp only [qz]
  refine rf_loadC (n := 4) (vs := itC x) rfl rfl rfl Try.underlying80 rfl (by kernel_rfl) rfl (fun w hw => itAt_range (hit.kn hw hlt (by simp))) ?_
  simp only [qz]
  refine rg_new (cs := ?_) (ty := ?_) (by rfl) (fun w => ?_) (fun _ h => by cases h) (fun g4 => ?_); rotate_left 2
  focus (go_simp; rfl)
  simp only [qz]
  refine rf_storeR (n := 4) rfl rfl (by kernel_rfl) rfl rfl (UpdR.here _ _ _ (Nat.le_of_ble_eq_true rfl)) (fun _ h => by cases h) ?_
  simp only [qz, Nat.reduceAdd]
  refine rg_nil (ek_next (wk_seq (wk_seq ?_)))
  refine wk_region [0, 0] rfl (by kernel_rfl) ?_
  simp only [qy]
  refine rg_move ?_
  simp only [qz]
  refine rfb_neq rfl rfl rfl rfl ?_
  intro x h2
  cases x
  · (try simp only [qd, ne_eq] at h2)
    simp only [qz]
    obtain ⟨l, hr⟩ := rC_ok (fun c h => matS_code (hd2.out.trans h)) (by simpa using h2)
    subst hr
    clear h2
    have hll := matS_len hN1 hN6 hd2.out
    have hil := itL_len hN1 hN6 x
    have hN36 := Nat.mul_le_mul hN6 hN6
    simp only [rN, rL, rC] at hd3 ⊢
    refine rg_nil (ek_next (wk_cond_f rfl (wk_skip (ek_next (wk_seq ?_)))))
    refine wk_region [0, 0, 0, 0, 0, 0, 0, 1, 1, 0] rfl (by kernel_rfl) ?_
    simp only [qy]
    refine rg_move ?_
    simp only [qz]
    refine rf_field (n := 0) (j := 3) rfl rfl rfl Try.underlying80 rfl (by kernel_rfl) rfl ?_
    simp only [qz]
    refine rf_load rfl rfl rfl Try.underlying9 rfl (fun w hw => (Kn.hd0 hw).at rfl) ?_
    simp only [qz]
    refine rf_lookM rfl rfl rfl rfl ?_
    simp only [qz]
    refine rg_move ?_
    simp only [qz]
    refine rf_extract rfl rfl rfl rfl ?_
    simp only [qz]
    refine rf_extract rfl rfl rfl rfl ?_
    simp only [qz]
    refine rg_new (cs := ?_) (ty := ?_) (by rfl) (fun w => ?_) (fun _ h => by cases h) (fun g5 => ?_); rotate_left 2
    focus (go_simp; rfl)
    simp only [qz]
    refine rf_storeR (n := 2) rfl rfl (by kernel_rfl) rfl rfl (UpdR.here _ _ _ (Nat.le_of_ble_eq_true rfl)) (fun _ h => by cases h) ?_
    simp only [qz, Nat.reduceAdd]
    refine rg_assign ?_
    simp only [qz]
    refine rg_nil (ek_next (wk_seq (wk_seq ?_)))
    refine wk_region [0, 0] rfl (by kernel_rfl) ?_
    simp only [qy]
    refine rg_move ?_
    simp only [qz]
    refine rf_not rfl rfl rfl ?_
    simp only [qz]
    refine rg_nil (ek_next (wk_cond_t rfl ?_))
    refine wk_region [0, 1, 1] rfl (by kernel_rfl) ?_
    simp only [qy]
    refine rf_loadR (n := 4) rfl rfl rfl Try.underlying80 rfl (by kernel_rfl) (fun w hw => Kn.hd0 (Kn.tl hw)) rfl rfl ?_
    simp only [qz]
    apply rg_retM1 (by rfl) (by kernel_rfl)
    case hargs => (simp only [qm, qs, Act.eval]; exact rfl)
    case h => exact fun w hw => own_any x w
    case hz => exact (fun _ h => by cases h)
    intro va6 vc6 u6 hO6
    simp only [qz]
    refine rf_storeR (n := 2) rfl rfl (by kernel_rfl) rfl rfl (UpdR.app _ (UpdR.here _ _ _ (Nat.le_of_ble_eq_true rfl))) (fun _ h => by cases h) ?_
    simp only [qz, Nat.reduceAdd]
    refine rg_nil (ek_next ?_)
    refine wk_draws_m (hz1 := (List.Sublist.append_left (sc _ (sc _ (sk _ (List.Sublist.append_left (sc _ sn) _)))) _)) [(0, 0), (1, 0), (2, 0), (3, 0), (5, 0), (4, 1), (6, 1), (7, 0), (8, 0), (9, 3), (10, 2), (11, 0)] 10 (by kernel_rfl) (by kernel_rfl) (fun c d v a w h => by cases d <;> exact h) ?_
    simp only [List.map_cons, List.map_nil, List.getD_cons_zero, List.getD_cons_succ]
    refine rg_move ?_
    simp only [qz]
    refine rf_field (n := 0) (j := 1) rfl rfl rfl Try.underlying80 rfl (by kernel_rfl) rfl ?_
    simp only [qz]
    refine rf_load rfl rfl rfl Try.underlying3 rfl (fun w hw => (Kn.hd0 (Kn.tl (Kn.tlU hw))).at rfl) ?_
    simp only [qz]
    refine rf_loadR (n := 2) rfl rfl rfl Try.underlying38 rfl (by kernel_rfl) (fun w hw => Kn.hd0 (Kn.tlU hw)) rfl rfl ?_
    simp only [qz]
    refine rf_loadR (n := 2) rfl rfl rfl Try.underlying38 rfl (by kernel_rfl) (fun w hw => Kn.hd0 (Kn.tl (Kn.tl (Kn.tlU hw)))) rfl rfl ?_
    simp only [qz]
    apply (rg_retM1 (n := (N : Int)) (zs := itL N x)) (by rfl) (by kernel_rfl)
    case hargs => (simp only [qm, qs, Act.eval]; exact rfl)
    case h => exact fun w hw => mplaced_int N (x.at_ - 1).toNat (ownN x) x.at_ (ownL x) va6 vc6 hfo.2.2.2.2 hN1 hN6 hfo.2.2.1 hfo.2.1 (Lib.hid (ownL_len x)) w (hO6.asM (hw.perm (List.Perm.refl _)))
    case hz => exact (fun _ h => by cases h; exact (List.Sublist.append_left (sc _ (sc _ (sc _ (List.Sublist.append_left (sc _ sn) _)))) _))
    intro va7 vc7 u7 hO7
    simp only [qz]
    apply (rg_retM (n := rN N (mulM N N (itL N x) l)) (zs := rL (mulM N N (itL N x) l)) (c := rC (mulM N N (itL N x) l))) (by rfl) (by kernel_rfl)
    case hargs => (simp only [qm, qs, Act.eval]; exact rfl)
    case h => exact fun w hw => by have := mul_any N N (itL N x) l va7 va vc7 vc (by omega) (by omega) w (hO7.asM (hw.perm (List.Perm.refl _))) (hd3.asM (hw.perm ((((((((((((List.Perm.refl _).cons _).trans (List.perm_middle (l₁ := u)).symm).cons _).trans (List.perm_middle (l₁ := u)).symm).cons _).trans (List.perm_middle (l₁ := u)).symm).append_left _).trans (List.perm_append_comm_assoc u6 u _)).append_left _).trans (List.perm_append_comm_assoc u7 u _)).trans ((List.Perm.refl _).append_left _)))); rw [Int.toNat_natCast] at this; exact this
    case hz => exact (fun _ h => by cases h; exact ((List.Sublist.append_left (sc _ (sc _ (sc _ (List.Sublist.append_left (sc _ sn) _)))) _).trans (List.sublist_append_right _ _)))
    intro va8 vc8 u8 hO8
    simp only [qz]
    refine rg_move ?_
    simp only [qz]
    refine rf_extract rfl rfl rfl rfl ?_
    simp only [qz]
    refine rf_extract rfl rfl rfl rfl ?_
    simp only [qz]
    refine rf_storeRM (n := 2) rfl rfl (by kernel_rfl) rfl rfl (UpdR.app _ (UpdR.app _ (UpdR.app _ (UpdR.there _ (UpdR.there _ (UpdR.here _ _ _ (Nat.le_of_ble_eq_true rfl))))))) (((List.Sublist.append_left (sc _ (sc _ (sk _ (List.Sublist.append_left (sc _ sn) _)))) _).trans (List.sublist_append_right _ _)).trans (List.sublist_append_right _ _)) ?_
    simp only [qz, Nat.reduceAdd]
    refine rg_assign ?_
    simp only [qz]
    refine rg_nil (ek_block (ek_next ?_))
    refine wk_region [0, 0] rfl (by kernel_rfl) ?_
    simp only [qy]
    refine rf_add rfl rfl rfl rfl (wrap_ok (by omega) (by omega)) ?_
    simp only [qz]
    refine rg_move ?_
    simp only [qz]
    refine rg_nil ?_
    refine ek_sub (List.Sublist.append_left (((sk _ (sk _ (sc _ ((sc _ sn).trans (List.sublist_append_right _ _))))).trans (List.sublist_append_right _ _)).trans (List.sublist_append_right _ _)) _) ?_
    refine ek_perm ((((List.Perm.refl _).append_left _).trans (List.perm_middle (l₁ := u8))).trans ((List.Perm.refl _).cons _)) ?_
    refine ek_roundF (xs.length - (i + 1)) (by omega) (by kernel_rfl) ?_
    exact ⟨i + 1, mulM N N (itL N x) l, va8, vc8, u8, rfl, rfl, by rfl, by rfl, (by omega), (Lib.hid (by rw [matS, hd2.out, hx.out])), hO8⟩
  (try simp only [qd, ne_eq] at h2)
  simp only [qz]
  refine rg_nil (ek_next (wk_cond_t rfl (wk_seq ?_)))
  refine wk_region [0, 0, 1, 0] rfl (by kernel_rfl) ?_
  simp only [qy]
  refine rf_build (cs := fun a => #[.int .i64 0, .slice none 0 0]) rfl rfl (by kernel_rfl) ?_
  simp only [qz]
  refine rg_move ?_
  simp only [qz]
  refine rf_storeR (n := 2) rfl rfl (by kernel_rfl) rfl rfl (UpdR.there _ (UpdR.there _ (UpdR.app _ (UpdR.here _ _ _ (Nat.le_of_ble_eq_true rfl))))) (fun _ h => by cases h) ?_
  simp only [qz, Nat.reduceAdd]
  refine rg_assign ?_
  simp only [qz]
  refine rg_nil (ek_next (wk_ret (ek_then_ret (ek_block_ret (ek_then_ret (ek_then_ret (ek_block_ret (ek_then_ret ?_))))))))
  refine ek_ret (fun w hw => ⟨rfl, _, run_results2 rfl rfl (Kn.hd0 (Kn.tlU (Kn.tl (Kn.tl hw)))) Try.underlying38 rfl (by kernel_rfl), ?_⟩)
  (try simp only [qz])
  cases r with
  | ok l => exact absurd rfl h2
  | error cc =>
    rw [matS_err hd2.out xs.length (by omega)]
    exact ⟨.slice none 0 0, [], rfl, OwnG.nil, .nil hw.below⟩

set_option maxRecDepth 100000 in
set_option maxHeartbeats 1000000 in
theorem matrixOf_any (n : Int) (xs : List It) (a : Option Addr) (c : Nat) (w : World) (hA : AS w a (its xs)) : Calls Try.prog 37 #[.int .i64 n, .slice a xs.length c] w fun e w' => RetM w (rN n.toNat (matO n xs)) (rL (matO n xs)) (rC (matO n xs)) e w' := by
  go_enter Try.func37, Try.ntmps37
  refine wk_start ?_
  refine wk_seq ?_
  refine wk_region [1, 0] rfl (by kernel_rfl) ?_
  simp only [qy]
  refine rg_new (cs := ?_) (ty := ?_) (by rfl) (fun w => ?_) (fun _ h => by cases h) (fun g1 => ?_); rotate_left 2
  focus (go_simp; rfl)
  simp only [qz]
  refine rg_assign ?_
  simp only [qz]
  refine rg_nil (ek_next (wk_seq (wk_seq ?_)))
  refine wk_region [0, 0, 1, 0] rfl (by kernel_rfl) ?_
  simp only [qy]
  refine rg_move ?_
  simp only [qz]
  refine rg_move ?_
  simp only [qz]
  apply rg_pure (by rfl) (by kernel_rfl)
  case hargs => (simp only [qm, qs, Act.eval]; exact rfl)
  case h => exact fun w hw => mcheck_any n xs a c w (hA.kn0 hw)
  case hz => exact (fun _ h => by cases h)
  simp only [qz]
  refine rg_assign ?_
  simp only [qz]
  refine rg_nil (ek_next (wk_seq ?_))
  refine wk_region [0, 0] rfl (by kernel_rfl) ?_
  simp only [qy]
  refine rg_move ?_
  simp only [qz]
  refine rfb_neq rfl rfl rfl rfl ?_
  intro x h1
  cases x
  · (try simp only [qd, ne_eq] at h1)
    simp only [qz]
    have hie : itemE n xs = 0 := by simpa using h1
    refine rg_nil (ek_next (wk_cond_f rfl (wk_skip (ek_next (wk_seq ?_)))))
    refine wk_region [0, 0, 1, 0, 0, 1, 0] rfl (by kernel_rfl) ?_
    simp only [qy]
    refine rg_move ?_
    simp only [qz]
    refine rg_move ?_
    simp only [qz]
    obtain ⟨hn1, hn6, hl5, hft⟩ := validB_all (n := n) (xs := xs) (itemE_zero hie)
    obtain ⟨N, rfl⟩ : ∃ N : Nat, n = N := ⟨n.toNat, by omega⟩
    have hmo : matO (N : Int) xs = matS N xs xs.length := by (unfold matO; rw [if_pos hie, Int.toNat_natCast])
    replace hmo := Lib.hid hmo
    apply rg_retM (by rfl) (by kernel_rfl)
    case hargs => (simp only [qm, qs, Act.eval]; exact rfl)
    case h => exact fun w hw => made_items N xs a c (by omega) (by omega) hl5 hft w (hA.kn0 hw)
    case hz => exact (fun _ h => by cases h)
    intro va2 vc2 u2 hO2
    simp only [qz]
    refine rf_extract rfl rfl rfl rfl ?_
    simp only [qz]
    refine rf_extract rfl rfl rfl rfl ?_
    simp only [qz]
    refine rf_storeR (n := 2) rfl rfl (by kernel_rfl) rfl rfl (UpdR.app _ (UpdR.here _ _ _ (Nat.le_of_ble_eq_true rfl))) (fun _ h => by cases h) ?_
    simp only [qz, Nat.reduceAdd]
    refine rg_assign ?_
    simp only [qz]
    refine rg_nil (ek_next (wk_ret ?_))
    refine ek_ret (fun w hw => ⟨rfl, _, run_results2 rfl rfl (Kn.hd0 (Kn.tlU hw)) Try.underlying38 rfl (by kernel_rfl), ?_⟩)
    (try simp only [qz])
    rw [hmo.out, Int.toNat_natCast]
    exact ⟨_, u2, rfl, hO2, hw.made (List.sublist_append_left _ _)⟩
  (try simp only [qd, ne_eq] at h1)
  simp only [qz]
  have hie : itemE n xs ≠ 0 := by simpa using h1
  refine rg_nil (ek_next (wk_cond_t rfl (wk_seq ?_)))
  refine wk_region [0, 0, 1, 0] rfl (by kernel_rfl) ?_
  simp only [qy]
  refine rf_build (cs := fun a => #[.int .i64 0, .slice none 0 0]) rfl rfl (by kernel_rfl) ?_
  simp only [qz]
  refine rg_move ?_
  simp only [qz]
  refine rf_storeR (n := 2) rfl rfl (by kernel_rfl) rfl rfl (UpdR.here _ _ _ (Nat.le_of_ble_eq_true rfl)) (fun _ h => by cases h) ?_
  simp only [qz, Nat.reduceAdd]
  refine rg_assign ?_
  simp only [qz]
  refine rg_nil (ek_next (wk_ret (ek_then_ret ?_)))
  refine ek_ret (fun w hw => ⟨rfl, _, run_results2 rfl rfl (Kn.hd0 hw) Try.underlying38 rfl (by kernel_rfl), ?_⟩)
  (try simp only [qz])
  have hmo : matO n xs = .error (itemE n xs) := by (unfold matO; rw [if_neg hie])
  rw [hmo]
  exact ⟨.slice none 0 0, [], rfl, OwnG.nil, .nil hw.below⟩

end Go.Proofs.Ytccbinnlnkpplaa
namespace Go.Proofs.Ytccbinnlnkpplaa
set_option linter.all false
open Go.RowKit

/-- The items of a switch. -/
def cplI (at_ : Int) : It := ⟨2, at_, 0, ⟨#[]⟩⟩
def phsI (at_ n : Int) : It := ⟨1, at_, n, ⟨#[]⟩⟩
/-- A list of items and an error. -/
def RetS (w : World) (L : List It) (cc : Int) (e : Ending) (w' : World) : Prop := ∃ v u, e = .returned (.tuple #[v, .int .i64 cc]) ∧ OwnT u v L ∧ Made w u w'
theorem OwnT.asT {B w : World} {F : List Nat} {u s : List Blk} {a : Option Addr} {n c : Nat} {xs : List It} (h : OwnT u (.slice a n c) xs) (K : Kn B F (u ++ s) w) : AS w a (its xs) := by
  obtain ⟨a', c', e, h'⟩ := Own.as h K
  cases e
  exact h'
section
variable {R : Option Nat} {ops : Array Oper} {Q : Exit → Act → World → Prop} {B : World} {F : List Nat} {s0 : Option (List Blk × List Blk)}
variable {l : List (Oper × Nat)} {a : Act} {s S : List Blk} {d : Option Tmp} {op : Op} {t : TypeId} {p : String} {af : Array Edge} {v : Value}
theorem rg_retS {f : Nat} {cargs : Array Operand} {at_ : Array TypeId} {args : Array Value} {L : List It} {cc : Int} {P : Program} {gd : Option (Nat × Bool)} (hg : Region.wanted ⟨d, .call ⟨.value (.func f), cargs, at_⟩, t, p, af, gd⟩ (yielded ops a.tmps) = true) (hgo : isGo P f = true)
    (h : ∀ w, Kn B F s w → Calls P f args w (RetS w L cc)) (hargs : cargs.map a.eval = args)
    (hz : ∀ z ∈ s0, z.1.Sublist s) (k : ∀ (va : Option Addr) (vc : Nat) (u : List Blk), OwnT u (.slice va L.length vc) L → Rg R P ops Q B F s0 l (a.put d (.tuple #[.slice va L.length vc, .int .i64 cc])) (u ++ s)) :
    Rg R P ops Q B F s0 ((⟨d, .call ⟨.value (.func f), cargs, at_⟩, t, p, af, gd⟩, 1) :: l) a s :=
  rg_call hg hgo hargs fun w K => (h w K).mono fun e w' ⟨v, u, he, hO, hm⟩ => by
    obtain ⟨a', c', rfl, -⟩ := Own.val hO
    exact ⟨_, u ++ s, he, K.add hm, fun z hz' => (hz z hz').trans (List.sublist_append_right _ _), k a' c' u hO⟩
end
end Go.Proofs.Ytccbinnlnkpplaa
namespace Go.Proofs.Ytccbinnlnkpplaa
set_option linter.all false
open Go.RowKit

/-- A row: its block, the capacity, the numbers, what lies behind them. -/
structure RW where
  b : Nat
  c : Nat
  l : List Nm
  r : List Value
def RW.blk (x : RW) : Blk := (x.b, .cells (NmE.flat x.l ++ x.r).toArray 45)
def RW.val (N : Nat) (x : RW) : Value := .slice (some ⟨x.b, 0, none⟩) N x.c
abbrev rwV (N : Nat) (rs : List RW) : List Value := rs.map (RW.val N)
abbrev rwB (rs : List RW) : List Blk := rs.map RW.blk
/-- The blocks of a work: its own, the list of the rows, the rows, the items. -/
structure WS (N gw : Nat) (z : Zt) (L : List It) (s : List Blk) : Prop where
  ex : ∃ (go oc : Nat) (ro : List Value) (rs : List RW) (ia : Option Addr) (ic : Nat) (u : List Blk),
    s = (gw, .cells #[.slice (some ⟨go, 0, none⟩) N oc, .slice ia L.length ic] 131) :: (go, .cells (rwV N rs ++ ro).toArray 36) :: (rwB rs ++ (u ++ [])) ∧
    rs.length = N ∧ N ≤ oc ∧ (∀ x ∈ rs, x.l.length = N) ∧ (∀ i x, rs[i]? = some x → ∀ k, k < N → nm x.l k = z i k) ∧ OwnT u (.slice ia L.length ic) L ∧ (∀ i k, i < N → k < N → (z i k).Ok)

/-- The blocks in the walk's form. -/
theorem WS.open_ {N gw : Nat} {z : Zt} {L : List It} {s : List Blk} (h : WS N gw z L s) : ∃ (go oc : Nat) (ro : List Value) (rs : List RW) (ia : Option Addr) (ic : Nat) (u : List Blk),
    s ++ [] = (gw, .cells #[.slice (some ⟨go, 0, none⟩) N oc, .slice ia L.length ic] 131) :: (go, .cells (rwV N rs ++ ro).toArray 36) :: (rwB rs ++ (u ++ [])) ∧
    rs.length = N ∧ N ≤ oc ∧ (∀ x ∈ rs, x.l.length = N) ∧ (∀ i x, rs[i]? = some x → ∀ k, k < N → nm x.l k = z i k) ∧ OwnT u (.slice ia L.length ic) L ∧ (∀ i k, i < N → k < N → (z i k).Ok) := by
  obtain ⟨go, oc, ro, rs, ia, ic, u, e, h⟩ := h
  exact ⟨go, oc, ro, rs, ia, ic, u, (List.append_nil s).trans e, h⟩
theorem Kn.to {B w : World} {F : List Nat} {s s' : List Blk} (e : s = s') (h : Kn B F s w) : Kn B F s' w := e ▸ h
theorem Kn.nil' {B w : World} {F : List Nat} {s : List Blk} (h : Kn B F s w) : Kn B F (s ++ []) w := h.to (List.append_nil s).symm
theorem Kn.of_nil {B w : World} {F : List Nat} {s : List Blk} (h : Kn B F (s ++ []) w) : Kn B F s w := h.to (List.append_nil s)
/-- A call that leaves its blocks as they were. -/
theorem Kn.same {w w' : World} {s : List Blk} (h : Kn w (s.map (·.1)) s w) (h' : Kn w (s.map (·.1)) s w') : Below w.heap.size w w' :=
  ⟨h'.os, h'.tape, h'.output, h'.size, fun k hk => by
    by_cases hF : k ∈ s.map (·.1)
    · obtain ⟨b, hb, rfl⟩ := List.mem_map.1 hF
      exact (h'.own b hb).trans (h.own b hb).symm
    · exact h'.old k hk hF⟩
theorem wk_perm {R : Option Nat} {P : Program} {Q : Exit → Act → World → Prop} {B : World} {F : List Nat} {a : Act} {s s' : List Blk} {c : Code} (hp : s.Perm s') (h : Wk R P B F Q a s' c) : Wk R P B F Q a s c := fun w K => h w (K.perm hp)
theorem rw_one {A C : List RW} {b c : Nat} {l : List Nm} {r : List Value} : rwB (A ++ ⟨b, c, l, r⟩ :: C) = rwB A ++ (b, .cells (NmE.flat l ++ r).toArray 45) :: rwB C := by
  unfold rwB; rw [List.map_append, List.map_cons]; rfl
theorem rw_two {A C : List RW} {b c b' c' : Nat} {l l' : List Nm} {r r' : List Value} : rwB (A ++ ⟨b, c, l, r⟩ :: ⟨b', c', l', r'⟩ :: C) = rwB A ++ (b, .cells (NmE.flat l ++ r).toArray 45) :: (b', .cells (NmE.flat l' ++ r').toArray 45) :: rwB C := by
  unfold rwB; rw [List.map_append, List.map_cons, List.map_cons]; rfl
theorem split1 {rs : List RW} {p : Nat} (h : p < rs.length) : ∃ A b c l r C, rs = A ++ ⟨b, c, l, r⟩ :: C ∧ A.length = p := by
  refine ⟨rs.take p, rs[p].b, rs[p].c, rs[p].l, rs[p].r, rs.drop (p + 1), ?_, by rw [List.length_take]; omega⟩
  show rs = rs.take p ++ rs[p] :: rs.drop (p + 1)
  rw [← List.drop_eq_getElem_cons h, List.take_append_drop]
theorem split2 {rs : List RW} {p : Nat} (h : p + 1 < rs.length) : ∃ A b c l r b' c' l' r' C, rs = A ++ ⟨b, c, l, r⟩ :: ⟨b', c', l', r'⟩ :: C ∧ A.length = p := by
  refine ⟨rs.take p, rs[p].b, rs[p].c, rs[p].l, rs[p].r, rs[p + 1].b, rs[p + 1].c, rs[p + 1].l, rs[p + 1].r, rs.drop (p + 2), ?_, by rw [List.length_take]; omega⟩
  show rs = rs.take p ++ rs[p] :: rs[p + 1] :: rs.drop (p + 2)
  rw [← List.drop_eq_getElem_cons (show p + 1 < rs.length by omega), ← List.drop_eq_getElem_cons (show p < rs.length by omega), List.take_append_drop]
theorem rwV_get {N i : Nat} {rs : List RW} {ro : List Value} {x : RW} (h : rs[i]? = some x) : (rwV N rs ++ ro).toArray[i]? = some (x.val N) := by
  have hl : i < rs.length := by
    rcases Nat.lt_or_ge i rs.length with h' | h'
    · exact h'
    · rw [List.getElem?_eq_none h'] at h; cases h
  rw [List.getElem?_toArray, List.getElem?_append_left (by rw [List.length_map]; exact hl), List.getElem?_map, h]; rfl
section
variable {B w w' : World} {F : List Nat} {s : List Blk} {N : Nat}
theorem Kn.outer {go T i : Nat} {rs : List RW} {ro : List Value} {x : RW} (K : Kn B F ((go, .cells (rwV N rs ++ ro).toArray T) :: s) w) (h : rs[i]? = some x) : w.cell? ⟨go, i, none⟩ = some (x.val N) :=
  ((Kn.hd0 K).cell i).trans (rwV_get h)
theorem nm_hd {b : Nat} {l : List Nm} {r : List Value} {k : Nat} (h : Hd w b 45 (NmE.flat l ++ r).toArray) (hk : k < l.length) : NmAt w b (0 + k * 5) (nm l k) := by
  have hc := fun j => h.cell (0 + k * 5 + j)
  have hg := fun j (hj : j < 5) => NmE.get l k j hk hj
  have hl := NmE.flat_len l
  have hlt : ∀ j, j < 5 → 0 + k * 5 + j < (NmE.flat l).length := fun j hj => by rw [hl]; show 0 + k * 5 + j < l.length * 5; omega
  have go : ∀ j v, j < 5 → (nmC (nm l k))[j]? = some v → w.cell? ⟨b, 0 + k * 5 + j, none⟩ = some v := fun j v hj hv => by
    rw [hc j, List.getElem?_toArray, List.getElem?_append_left (hlt j hj), ← hv, ← hg j hj, Nat.zero_add]
  exact ⟨go 0 _ (by omega) rfl, go 1 _ (by omega) rfl, go 2 _ (by omega) rfl, go 3 _ (by omega) rfl, go 4 _ (by omega) rfl⟩
theorem Kn.row {rs : List RW} {i k : Nat} {x : RW} (K : Kn B F (rwB rs ++ s) w) (h : rs[i]? = some x) (hk : k < x.l.length) : NmAt w x.b (0 + k * 5) (nm x.l k) := by
  have hm : x.blk ∈ rwB rs ++ s := List.mem_append_left _ (List.mem_map.2 ⟨x, List.mem_of_getElem? h, rfl⟩)
  exact nm_hd (K.own _ hm) hk
end
section
variable {R : Option Nat} {ops : Array Oper} {Q : Exit → Act → World → Prop} {B : World} {F : List Nat} {s0 : Option (List Blk × List Blk)}
variable {l : List (Oper × Nat)} {a : Act} {s S : List Blk} {d : Option Tmp} {op : Op} {t : TypeId} {p : String} {af : Array Edge} {v : Value}
/-- A call that turns the blocks v into others. -/
theorem rg_eff {P : Program} {T : List Blk → Prop} {f : Nat} {cargs : Array Operand} {at_ : Array TypeId} {args : Array Value} {gd : Option (Nat × Bool)} {vb rest : List Blk}
    (hg : Region.wanted ⟨d, .call ⟨.value (.func f), cargs, at_⟩, t, p, af, gd⟩ (yielded ops a.tmps) = true) (hgo : isGo P f = true) (hargs : cargs.map a.eval = args) (hp : S.Perm (vb ++ rest))
    (h : ∀ w, Kn w (vb.map (·.1)) vb w → Calls P f args w fun e w' => e = .returned v ∧ ∃ vb', Kn w (vb.map (·.1)) vb' w' ∧ T vb')
    (k : ∀ vb', T vb' → Rg R P ops Q B F none l (a.put d v) (vb' ++ rest)) :
    Rg R P ops Q B F none ((⟨d, .call ⟨.value (.func f), cargs, at_⟩, t, p, af, gd⟩, 1) :: l) a S :=
  rg_call hg hgo hargs fun w K => by
    have K1 := K.perm hp
    exact (h w K1.self).mono fun e w' ⟨he, vb', hK, hT⟩ => ⟨_, vb' ++ rest, he, K1.effApp hK, Nz, k vb' hT⟩
/-- The same in a region that draws its order, as the operation behind which less is known. -/
theorem rg_effM {P : Program} {T : List Blk → Prop} {f : Nat} {cargs : Array Operand} {at_ : Array TypeId} {args : Array Value} {gd : Option (Nat × Bool)} {vb rest : List Blk} {z : List Blk × List Blk}
    (hg : Region.wanted ⟨d, .call ⟨.value (.func f), cargs, at_⟩, t, p, af, gd⟩ (yielded ops a.tmps) = true) (hgo : isGo P f = true) (hargs : cargs.map a.eval = args) (hp : S.Perm (vb ++ rest)) (hz : z.2.Sublist rest)
    (h : ∀ w, Kn w (vb.map (·.1)) vb w → Calls P f args w fun e w' => e = .returned v ∧ ∃ vb', Kn w (vb.map (·.1)) vb' w' ∧ T vb')
    (k : ∀ vb', T vb' → Rg R P ops Q B F (some (z.2, z.2)) l (a.put d v) (vb' ++ rest)) :
    Rg R P ops Q B F (some z) ((⟨d, .call ⟨.value (.func f), cargs, at_⟩, t, p, af, gd⟩, 2) :: l) a S := by
  refine ⟨z, rfl, fun w K => ?_⟩
  unfold hop
  rw [if_pos hg]
  unfold Oper.wp
  have hr : (execOp a.eval ⟨d, .call ⟨.value (.func f), cargs, at_⟩, t, p, af, gd⟩).run P w = .ok (.enter f args) w := by
    have he : #[] ++ cargs.map a.eval ++ #[] = args := by simpa using hargs
    rw [execOp_call_go, he]
    exact run_callFunc_go hgo args w
  rw [hr]
  have K1 := K.perm hp
  refine (h w K1.self).mono fun e w' ⟨he, vb', hK, hT⟩ => ?_
  subst he
  exact ⟨vb' ++ rest, K1.effApp hK, hz.trans (List.sublist_append_right _ _), k vb' hT⟩
end
end Go.Proofs.Ytccbinnlnkpplaa
namespace Go.Proofs.Ytccbinnlnkpplaa
set_option linter.all false
open Go.RowKit
set_option maxRecDepth 100000 in
theorem arr_eqIn0 (a b c d a' b' c' d' : Int) (w : World) : (Op.equalIn 10000 43 (.agg #[.int .i64 a, .int .i64 b, .int .i64 c, .int .i64 d]) (.agg #[.int .i64 a', .int .i64 b', .int .i64 c', .int .i64 d'])).run Try.prog w = .ok (decide (a = a' ∧ b = b' ∧ c = c' ∧ d = d')) w := by
  have u3 := Try.underlying3
  have a3 := Try.isAgg3
  have z3 := Try.sizeOf3
  rw [show (10000 : Nat) = 9999 + 1 from rfl, Op.equalIn]
  simp only [Sem.run_bind, run_underlying Try.underlying43, Result.andThen_ok]
  simp only [Std.Legacy.Range.forIn_eq_forIn_range', Std.Legacy.Range.size, Nat.sub_zero, Nat.add_sub_cancel, Nat.div_one, List.range'_succ, List.range'_zero, List.forIn_cons, List.forIn_nil]
  go_simp
  by_cases h1 : a = a' <;> by_cases h2 : b = b' <;> by_cases h3 : c = c' <;> by_cases h4 : d = d' <;> simp [h1, h2, h3, h4]
theorem arr_guard (op : BinOp) (u v : Operand) (x y : Array Value) (w : World) : (eqGuard op 43 u v (.agg x) (.agg y)).run Try.prog w = .ok () w := by
  have h : (Try.prog.eqGuardType Try.prog.depth 43) = false := by kernel_rfl
  unfold eqGuard
  cases op <;> simp [h]
section
variable {R : Option Nat} {ops : Array Oper} {Q : Exit → Act → World → Prop} {B : World} {F : List Nat} {s0 : Option (List Blk × List Blk)}
variable {l : List (Oper × Nat)} {a : Act} {s : List Blk} {d : Option Tmp} {t : TypeId} {p : String} {af : Array Edge} {gd : Option (Nat × Bool)} {m : Nat}
theorem rf_eqA4 {x y : Operand} {z : TypeId} {i j k n i' j' k' n' : Int} (hm : soft03 m = true) (hg : Region.wanted ⟨d, .binOp .eql 43 x y z, t, p, af, gd⟩ (yielded ops a.tmps) = true)
    (hx : a.eval x = .agg #[.int .i64 i, .int .i64 j, .int .i64 k, .int .i64 n]) (hy : a.eval y = .agg #[.int .i64 i', .int .i64 j', .int .i64 k', .int .i64 n']) (h : Rg R Try.prog ops Q B F s0 l (a.put d (.bool (decide (i = i' ∧ j = j' ∧ k = k' ∧ n = n')))) s) : Rg R Try.prog ops Q B F s0 ((⟨d, .binOp .eql 43 x y z, t, p, af, gd⟩, m) :: l) a s := by
  refine rg_any hm hg (fun w => ?_) h
  unfold Yld
  have hb : (binOp .eql 43 (.agg #[.int .i64 i, .int .i64 j, .int .i64 k, .int .i64 n]) (.agg #[.int .i64 i', .int .i64 j', .int .i64 k', .int .i64 n'])).run Try.prog w = .ok (.bool (decide (i = i' ∧ j = j' ∧ k = k' ∧ n = n'))) w := by rw [run_eql_struct, arr_eqIn0]; rfl
  have hgd := arr_guard .eql x y #[.int .i64 i, .int .i64 j, .int .i64 k, .int .i64 n] #[.int .i64 i', .int .i64 j', .int .i64 k', .int .i64 n'] w
  show ((eqGuard .eql _ x y (a.eval x) (a.eval y) >>= fun _ => binOp .eql _ (a.eval x) (a.eval y)) >>= fun r => pure (Next.value r)).run Try.prog w = _
  rw [hx, hy, Sem.run_bind, Sem.run_bind, hgd, Result.andThen_ok, hb]
  rfl
end
end Go.Proofs.Ytccbinnlnkpplaa
namespace Go.Proofs.Ytccbinnlnkpplaa
set_option linter.all false
open Go.RowKit

def oddV (z : Nm) : Value := .agg #[.int .i64 (z.a % 2), .int .i64 (z.b % 2), .int .i64 (z.c % 2), .int .i64 (z.d % 2)]
theorem okM_t1 {x y : Nm} (h : wtE x = wtE y) (h2 : x.a % 2 = y.a % 2 ∧ x.b % 2 = y.b % 2 ∧ x.c % 2 = y.c % 2 ∧ x.d % 2 = y.d % 2) : okM x y = true := by unfold okM; rw [if_pos h]; exact decide_eq_true h2
theorem okM_f1 {x y : Nm} (h : wtE x = wtE y) (h2 : ¬ (x.a % 2 = y.a % 2 ∧ x.b % 2 = y.b % 2 ∧ x.c % 2 = y.c % 2 ∧ x.d % 2 = y.d % 2)) : okM x y = false := by unfold okM; rw [if_pos h]; exact decide_eq_false h2
theorem okM_t2 {x y : Nm} (h : ¬ wtE x = wtE y) (h2 : x.a % 2 = 1 - y.a % 2 ∧ x.b % 2 = 1 - y.b % 2 ∧ x.c % 2 = 1 - y.c % 2 ∧ x.d % 2 = 1 - y.d % 2) : okM x y = true := by unfold okM; rw [if_neg h]; exact decide_eq_true h2
theorem okM_f2 {x y : Nm} (h : ¬ wtE x = wtE y) (h2 : ¬ (x.a % 2 = 1 - y.a % 2 ∧ x.b % 2 = 1 - y.b % 2 ∧ x.c % 2 = 1 - y.c % 2 ∧ x.d % 2 = 1 - y.d % 2)) : okM x y = false := by unfold okM; rw [if_neg h]; exact decide_eq_false h2
theorem turn_N {n : Nat} (h : n < 4) (y : Nm) : Nm.turn ((n : Int) % 8).toNat y = turnN n y := by
  rcases (by omega : n = 0 ∨ n = 1 ∨ n = 2 ∨ n = 3) with rfl | rfl | rfl | rfl <;> rfl
theorem match_at {x y : Nm} {n : Nat} (hn : n < 4) (hf : ∀ j, j < n → okM x (turnN j y) = false) (ht : okM x (turnN n y) = true) : matchN x y = n := by
  unfold matchN
  rcases (by omega : n = 0 ∨ n = 1 ∨ n = 2 ∨ n = 3) with rfl | rfl | rfl | rfl
  · rw [if_pos ht]
  · rw [hf 0 (by omega), if_neg (by decide), if_pos ht]
  · rw [hf 0 (by omega), hf 1 (by omega), if_neg (by decide), if_neg (by decide), if_pos ht]
  rw [hf 0 (by omega), hf 1 (by omega), hf 2 (by omega), if_neg (by decide), if_neg (by decide), if_neg (by decide), if_pos ht]
theorem match_no {x y : Nm} (hf : ∀ j, j < 4 → okM x (turnN j y) = false) : matchN x y = 0 := by
  unfold matchN
  rw [hf 0 (by omega), hf 1 (by omega), hf 2 (by omega), hf 3 (by omega)]; rfl
set_option maxRecDepth 100000 in
set_option maxHeartbeats 1000000 in
theorem must_any (z : Nm) (c : Int) (w : World) : Calls Try.prog 158 #[.agg #[.int .i64 z.a, .int .i64 z.b, .int .i64 z.c, .int .i64 z.d, .int .i64 z.k], .int .i64 c] w fun e w' => e = .returned (nmV z) ∧ Below w.heap.size w w' := by
  go_enter Try.func158, Try.ntmps158
  refine wk_start ?_
  refine wk_seq ?_
  refine wk_region [1, 1] rfl (by kernel_rfl) ?_
  simp only [qy]
  refine rg_new (cs := ?_) (ty := ?_) (by rfl) (fun w => ?_) (fun _ h => by cases h) (fun g1 => ?_); rotate_left 2
  focus (go_simp; rfl)
  simp only [qz]
  refine rg_new (cs := ?_) (ty := ?_) (by rfl) (fun w => ?_) (fun _ h => by cases h) (fun g2 => ?_); rotate_left 2
  focus (go_simp; rfl)
  simp only [qz]
  refine rg_nil (ek_next (wk_seq ?_))
  refine wk_region [0, 1] rfl (by kernel_rfl) ?_
  simp only [qy]
  refine rf_loadR (n := 5) rfl rfl rfl Try.underlying45 rfl (by kernel_rfl) (fun w hw => Kn.hd0 (Kn.tl hw)) rfl rfl ?_
  simp only [qz]
  refine rf_storeR (n := 5) rfl rfl (by kernel_rfl) rfl rfl (UpdR.here _ _ _ (Nat.le_of_ble_eq_true rfl)) (fun _ h => by cases h) ?_
  simp only [qz, Nat.reduceAdd]
  refine rg_nil (ek_next (wk_ret ?_))
  refine ek_ret (fun w hw => ⟨rfl, _, run_results1 rfl rfl (Kn.hd0 hw) Try.underlying45 rfl (by kernel_rfl), ?_⟩)
  (try simp only [qz])
  first | exact ⟨rfl, hw.below⟩ | exact ⟨trivial, hw.below⟩ | exact hw.below

set_option maxRecDepth 100000 in
set_option maxHeartbeats 1000000 in
theorem weight_any (a b c d : Int) (h : 0 ≤ a ∧ a ≤ 1 ∧ 0 ≤ b ∧ b ≤ 1 ∧ 0 ≤ c ∧ c ≤ 1 ∧ 0 ≤ d ∧ d ≤ 1) (w : World) : Calls Try.prog 211 #[.agg #[.int .i64 a, .int .i64 b, .int .i64 c, .int .i64 d]] w fun e w' => e = .returned (.int .i64 (a + b + c + d)) ∧ Below w.heap.size w w' := by
  go_enter Try.func211, Try.ntmps211
  refine wk_start ?_
  refine wk_seq ?_
  refine wk_region [1, 0] rfl (by kernel_rfl) ?_
  simp only [qy]
  refine rg_new (cs := ?_) (ty := ?_) (by rfl) (fun w => ?_) (fun _ h => by cases h) (fun g1 => ?_); rotate_left 2
  focus (go_simp; rfl)
  simp only [qz]
  refine rg_assign ?_
  simp only [qz]
  refine rg_nil (ek_next (wk_seq ?_))
  refine wk_region [0, 0, 0, 0, 0, 0, 0, 0, 0, 0, 0, 0] rfl (by kernel_rfl) ?_
  simp only [qy]
  refine rf_indexA (n := 0) (sz := 1) (j := 0) rfl rfl rfl rfl Try.underlying43 (by kernel_rfl) (by decide) rfl ?_
  simp only [qz]
  refine rf_load rfl rfl rfl Try.underlying3 rfl (fun w hw => (Kn.hd0 hw).at rfl) ?_
  simp only [qz]
  refine rf_indexA (n := 1) (sz := 1) (j := 1) rfl rfl rfl rfl Try.underlying43 (by kernel_rfl) (by decide) rfl ?_
  simp only [qz]
  refine rf_load rfl rfl rfl Try.underlying3 rfl (fun w hw => (Kn.hd0 hw).at rfl) ?_
  simp only [qz]
  refine rf_add rfl rfl rfl rfl (wrap_ok (by omega) (by omega)) ?_
  simp only [qz]
  refine rf_indexA (n := 2) (sz := 1) (j := 2) rfl rfl rfl rfl Try.underlying43 (by kernel_rfl) (by decide) rfl ?_
  simp only [qz]
  refine rf_load rfl rfl rfl Try.underlying3 rfl (fun w hw => (Kn.hd0 hw).at rfl) ?_
  simp only [qz]
  refine rf_add rfl rfl rfl rfl (wrap_ok (by omega) (by omega)) ?_
  simp only [qz]
  refine rf_indexA (n := 3) (sz := 1) (j := 3) rfl rfl rfl rfl Try.underlying43 (by kernel_rfl) (by decide) rfl ?_
  simp only [qz]
  refine rf_load rfl rfl rfl Try.underlying3 rfl (fun w hw => (Kn.hd0 hw).at rfl) ?_
  simp only [qz]
  refine rf_add rfl rfl rfl rfl (wrap_ok (by omega) (by omega)) ?_
  simp only [qz]
  refine rg_assign ?_
  simp only [qz]
  refine rg_nil (ek_next (wk_ret ?_))
  refine ek_ret (fun w hw => ⟨rfl, _, res_t _ rfl, ?_⟩)
  (try simp only [qz])
  first | exact ⟨rfl, hw.below⟩ | exact ⟨trivial, hw.below⟩ | exact hw.below

set_option maxRecDepth 100000 in
set_option maxHeartbeats 1000000 in
theorem odd_any (z : Nm) (w : World) : Calls Try.prog 212 #[.agg #[.int .i64 z.a, .int .i64 z.b, .int .i64 z.c, .int .i64 z.d, .int .i64 z.k]] w fun e w' => e = .returned (oddV z) ∧ Below w.heap.size w w' := by
  go_enter Try.func212, Try.ntmps212
  refine wk_start ?_
  refine wk_seq ?_
  refine wk_region [1, 1] rfl (by kernel_rfl) ?_
  simp only [qy]
  refine rg_new (cs := ?_) (ty := ?_) (by rfl) (fun w => ?_) (fun _ h => by cases h) (fun g1 => ?_); rotate_left 2
  focus (go_simp; rfl)
  simp only [qz]
  refine rg_new (cs := ?_) (ty := ?_) (by rfl) (fun w => ?_) (fun _ h => by cases h) (fun g2 => ?_); rotate_left 2
  focus (go_simp; rfl)
  simp only [qz]
  refine rg_nil (ek_next (wk_seq ?_))
  refine wk_region [1] rfl (by kernel_rfl) ?_
  simp only [qy]
  refine rg_new (cs := ?_) (ty := ?_) (by rfl) (fun w => ?_) (fun _ h => by cases h) (fun g3 => ?_); rotate_left 2
  focus (go_simp; rfl)
  simp only [qz]
  refine rg_nil (ek_next (wk_seq (wk_seq ?_)))
  refine wk_region [0, 0, 0] rfl (by kernel_rfl) ?_
  simp only [qy]
  refine rf_field (n := 3) (j := 0) rfl rfl rfl Try.underlying45 rfl (by kernel_rfl) rfl ?_
  simp only [qz]
  refine rf_loadR (n := 4) rfl rfl rfl Try.underlying43 rfl (by kernel_rfl) (fun w hw => Kn.hd0 (Kn.tl (Kn.tl hw))) rfl rfl ?_
  simp only [qz]
  refine rg_move ?_
  simp only [qz]
  refine rg_nil (ek_next (wk_block ?_))
  refine wk_unroll 4 ?_
  refine wk_seq ?_
  refine wk_region [0] rfl (by kernel_rfl) ?_
  simp only [qy]
  refine rf_lss (b := true) rfl rfl rfl rfl (by decide) ?_
  simp only [qz]
  refine rg_nil (ek_next (wk_seq (wk_cond_t rfl (wk_skip (ek_next (wk_seq (wk_block (wk_seq ?_))))))))
  refine wk_region [0, 0, 0, 0] rfl (by kernel_rfl) ?_
  simp only [qy]
  refine rg_move ?_
  simp only [qz]
  apply rg_soft
  case hy => (intro w hw; have hand := and1; go_simp; (try go_bits); exact Yld.mk _ _)
  simp only [qz]
  refine rg_assign ?_
  simp only [qz]
  refine rg_assign ?_
  simp only [qz]
  refine rg_nil (ek_next ?_)
  refine wk_region [0, 0, 0, 0, 1] rfl (by kernel_rfl) ?_
  simp only [qy]
  refine rg_move ?_
  simp only [qz]
  refine rg_move ?_
  simp only [qz]
  refine rf_and rfl rfl rfl rfl (and1 _) ?_
  simp only [qz]
  refine rf_indexA (n := 0) (sz := 1) (j := 0) rfl rfl rfl rfl Try.underlying43 (by kernel_rfl) (by decide) rfl ?_
  simp only [qz]
  refine rf_store rfl rfl (by kernel_rfl) rfl rfl (UpdR.here _ _ _ (Nat.le_of_ble_eq_true rfl)) (fun _ h => by cases h) ?_
  simp only [qz]
  refine rg_nil (ek_block (ek_next ?_))
  refine wk_region [0, 0] rfl (by kernel_rfl) ?_
  simp only [qy]
  refine rf_add (r := 1) rfl rfl rfl rfl (by decide) ?_
  simp only [qz]
  refine rg_move ?_
  simp only [qz]
  refine rg_nil (ek_again (wk_seq ?_))
  refine wk_region [0] rfl (by kernel_rfl) ?_
  simp only [qy]
  refine rf_lss (b := true) rfl rfl rfl rfl (by decide) ?_
  simp only [qz]
  refine rg_nil (ek_next (wk_seq (wk_cond_t rfl (wk_skip (ek_next (wk_seq (wk_block (wk_seq ?_))))))))
  refine wk_region [0, 0, 0, 0] rfl (by kernel_rfl) ?_
  simp only [qy]
  refine rg_move ?_
  simp only [qz]
  apply rg_soft
  case hy => (intro w hw; have hand := and1; go_simp; (try go_bits); exact Yld.mk _ _)
  simp only [qz]
  refine rg_assign ?_
  simp only [qz]
  refine rg_assign ?_
  simp only [qz]
  refine rg_nil (ek_next ?_)
  refine wk_region [0, 0, 0, 0, 1] rfl (by kernel_rfl) ?_
  simp only [qy]
  refine rg_move ?_
  simp only [qz]
  refine rg_move ?_
  simp only [qz]
  refine rf_and rfl rfl rfl rfl (and1 _) ?_
  simp only [qz]
  refine rf_indexA (n := 1) (sz := 1) (j := 1) rfl rfl rfl rfl Try.underlying43 (by kernel_rfl) (by decide) rfl ?_
  simp only [qz]
  refine rf_store rfl rfl (by kernel_rfl) rfl rfl (UpdR.here _ _ _ (Nat.le_of_ble_eq_true rfl)) (fun _ h => by cases h) ?_
  simp only [qz]
  refine rg_nil (ek_block (ek_next ?_))
  refine wk_region [0, 0] rfl (by kernel_rfl) ?_
  simp only [qy]
  refine rf_add (r := 2) rfl rfl rfl rfl (by decide) ?_
  simp only [qz]
  refine rg_move ?_
  simp only [qz]
  refine rg_nil (ek_again (wk_seq ?_))
  refine wk_region [0] rfl (by kernel_rfl) ?_
  simp only [qy]
  refine rf_lss (b := true) rfl rfl rfl rfl (by decide) ?_
  simp only [qz]
  refine rg_nil (ek_next (wk_seq (wk_cond_t rfl (wk_skip (ek_next (wk_seq (wk_block (wk_seq ?_))))))))
  refine wk_region [0, 0, 0, 0] rfl (by kernel_rfl) ?_
  simp only [qy]
  refine rg_move ?_
  simp only [qz]
  apply rg_soft
  case hy => (intro w hw; have hand := and1; go_simp; (try go_bits); exact Yld.mk _ _)
  simp only [qz]
  refine rg_assign ?_
  simp only [qz]
  refine rg_assign ?_
  simp only [qz]
  refine rg_nil (ek_next ?_)
  refine wk_region [0, 0, 0, 0, 1] rfl (by kernel_rfl) ?_
  simp only [qy]
  refine rg_move ?_
  simp only [qz]
  refine rg_move ?_
  simp only [qz]
  refine rf_and rfl rfl rfl rfl (and1 _) ?_
  simp only [qz]
  refine rf_indexA (n := 2) (sz := 1) (j := 2) rfl rfl rfl rfl Try.underlying43 (by kernel_rfl) (by decide) rfl ?_
  simp only [qz]
  refine rf_store rfl rfl (by kernel_rfl) rfl rfl (UpdR.here _ _ _ (Nat.le_of_ble_eq_true rfl)) (fun _ h => by cases h) ?_
  simp only [qz]
  refine rg_nil (ek_block (ek_next ?_))
  refine wk_region [0, 0] rfl (by kernel_rfl) ?_
  simp only [qy]
  refine rf_add (r := 3) rfl rfl rfl rfl (by decide) ?_
  simp only [qz]
  refine rg_move ?_
  simp only [qz]
  refine rg_nil (ek_again (wk_seq ?_))
  refine wk_region [0] rfl (by kernel_rfl) ?_
  simp only [qy]
  refine rf_lss (b := true) rfl rfl rfl rfl (by decide) ?_
  simp only [qz]
  refine rg_nil (ek_next (wk_seq (wk_cond_t rfl (wk_skip (ek_next (wk_seq (wk_block (wk_seq ?_))))))))
  refine wk_region [0, 0, 0, 0] rfl (by kernel_rfl) ?_
  simp only [qy]
  refine rg_move ?_
  simp only [qz]
  apply rg_soft
  case hy => (intro w hw; have hand := and1; go_simp; (try go_bits); exact Yld.mk _ _)
  simp only [qz]
  refine rg_assign ?_
  simp only [qz]
  refine rg_assign ?_
  simp only [qz]
  refine rg_nil (ek_next ?_)
  refine wk_region [0, 0, 0, 0, 1] rfl (by kernel_rfl) ?_
  simp only [qy]
  refine rg_move ?_
  simp only [qz]
  refine rg_move ?_
  simp only [qz]
  refine rf_and rfl rfl rfl rfl (and1 _) ?_
  simp only [qz]
  refine rf_indexA (n := 3) (sz := 1) (j := 3) rfl rfl rfl rfl Try.underlying43 (by kernel_rfl) (by decide) rfl ?_
  simp only [qz]
  refine rf_store rfl rfl (by kernel_rfl) rfl rfl (UpdR.here _ _ _ (Nat.le_of_ble_eq_true rfl)) (fun _ h => by cases h) ?_
  simp only [qz]
  refine rg_nil (ek_block (ek_next ?_))
  refine wk_region [0, 0] rfl (by kernel_rfl) ?_
  simp only [qy]
  refine rf_add (r := 4) rfl rfl rfl rfl (by decide) ?_
  simp only [qz]
  refine rg_move ?_
  simp only [qz]
  refine rg_nil (ek_again (wk_seq ?_))
  refine wk_region [0] rfl (by kernel_rfl) ?_
  simp only [qy]
  refine rf_lss (b := false) rfl rfl rfl rfl (by decide) ?_
  simp only [qz]
  refine rg_nil (ek_next (wk_seq (wk_cond_f rfl (wk_exit (ek_then_exit (ek_then_exit (ek_block_exit (ek_next (wk_seq ?_)))))))))
  refine wk_region [0, 1] rfl (by kernel_rfl) ?_
  simp only [qy]
  refine rf_loadR (n := 4) rfl rfl rfl Try.underlying43 rfl (by kernel_rfl) (fun w hw => Kn.hd0 hw) rfl rfl ?_
  simp only [qz]
  refine rf_storeR (n := 4) rfl rfl (by kernel_rfl) rfl rfl (UpdR.there _ (UpdR.here _ _ _ (Nat.le_of_ble_eq_true rfl))) (fun _ h => by cases h) ?_
  simp only [qz, Nat.reduceAdd]
  refine rg_nil (ek_next (wk_ret ?_))
  refine ek_ret (fun w hw => ⟨rfl, _, run_results1 rfl rfl (Kn.hd0 (Kn.tl hw)) Try.underlying43 rfl (by kernel_rfl), ?_⟩)
  (try simp only [qz])
  exact ⟨rfl, hw.below⟩

set_option maxRecDepth 100000 in
set_option maxHeartbeats 1000000 in
theorem kind_any (z : Nm) (k : Int) (w : World) : Calls Try.prog 190 #[.agg #[.int .i64 z.a, .int .i64 z.b, .int .i64 z.c, .int .i64 z.d, .int .i64 z.k], .int .i64 k] w fun e w' => e = .returned (.int .i64 (kindN z k)) ∧ Below w.heap.size w w' := by
  go_enter Try.func190, Try.ntmps190
  refine wk_start ?_
  refine wk_seq ?_
  refine wk_region [1, 0] rfl (by kernel_rfl) ?_
  simp only [qy]
  refine rg_new (cs := ?_) (ty := ?_) (by rfl) (fun w => ?_) (fun _ h => by cases h) (fun g1 => ?_); rotate_left 2
  focus (go_simp; rfl)
  simp only [qz]
  refine rg_assign ?_
  simp only [qz]
  refine rg_nil (ek_next (wk_seq (wk_block (wk_seq ?_))))
  refine wk_region [0, 0, 0, 0, 0] rfl (by kernel_rfl) ?_
  simp only [qy]
  refine rf_field (n := 0) (j := 4) rfl rfl rfl Try.underlying45 rfl (by kernel_rfl) rfl ?_
  simp only [qz]
  refine rf_load rfl rfl rfl Try.underlying3 rfl (fun w hw => (Kn.hd0 hw).at rfl) ?_
  simp only [qz]
  refine rg_move ?_
  simp only [qz]
  refine rfb_lss rfl rfl rfl rfl ?_
  intro x h1
  cases x
  · (try simp only [qd, ne_eq] at h1)
    simp only [qz]
    refine rg_assign ?_
    simp only [qz]
    refine rg_nil (ek_next (wk_cond_f rfl (wk_seq ?_)))
    refine wk_region [0, 1, 1, 0, 0, 0] rfl (by kernel_rfl) ?_
    simp only [qy]
    refine rf_loadR (n := 5) rfl rfl rfl Try.underlying45 rfl (by kernel_rfl) (fun w hw => Kn.hd0 hw) rfl rfl ?_
    simp only [qz]
    apply rg_pure (by rfl) (by kernel_rfl)
    case hargs => (simp only [qm, qs, Act.eval]; exact rfl)
    case h => exact fun w hw => odd_any z w
    case hz => exact (fun _ h => by cases h)
    simp only [qz]
    apply rg_pure (by rfl) (by kernel_rfl)
    case hargs => (simp only [qm, qs, Act.eval]; exact rfl)
    case h => exact fun w hw => weight_any (z.a % 2) (z.b % 2) (z.c % 2) (z.d % 2) (by omega) w
    case hz => exact (fun _ h => by cases h)
    simp only [qz]
    refine rf_and (r := (z.a % 2 + z.b % 2 + z.c % 2 + z.d % 2) % 2) rfl rfl rfl rfl (and1 _) ?_
    simp only [qz]
    refine rfb_eql rfl rfl rfl rfl ?_
    intro x h2
    cases x
    · (try simp only [qd, ne_eq] at h2)
      simp only [qz]
      refine rg_assign ?_
      simp only [qz]
      refine rg_nil (ek_next (wk_cond_f rfl (wk_skip (ek_block (ek_next (wk_seq ?_))))))
      refine wk_region [0] rfl (by kernel_rfl) ?_
      simp only [qy]
      refine rg_assign ?_
      simp only [qz]
      refine rg_nil (ek_next (wk_ret ?_))
      refine ek_ret (fun w hw => ⟨rfl, _, res_t _ rfl, ?_⟩)
      (try simp only [qz])
      exact ⟨by rw [show kindN z k = 2 by (unfold kindN sumE; rw [if_neg (by omega), if_neg (by omega)])], hw.below⟩
    (try simp only [qd, ne_eq] at h2)
    simp only [qz]
    refine rg_assign ?_
    simp only [qz]
    refine rg_nil (ek_next (wk_cond_t rfl (wk_seq ?_)))
    refine wk_region [0] rfl (by kernel_rfl) ?_
    simp only [qy]
    refine rg_assign ?_
    simp only [qz]
    refine rg_nil (ek_next (wk_ret (ek_block_ret (ek_then_ret ?_))))
    refine ek_ret (fun w hw => ⟨rfl, _, res_t _ rfl, ?_⟩)
    (try simp only [qz])
    exact ⟨by rw [show kindN z k = 1 by (unfold kindN sumE; rw [if_neg (by omega), if_pos (by omega)])], hw.below⟩
  (try simp only [qd, ne_eq] at h1)
  simp only [qz]
  refine rg_assign ?_
  simp only [qz]
  refine rg_nil (ek_next (wk_cond_t rfl (wk_seq ?_)))
  refine wk_region [0] rfl (by kernel_rfl) ?_
  simp only [qy]
  refine rg_assign ?_
  simp only [qz]
  refine rg_nil (ek_next (wk_ret (ek_block_ret (ek_then_ret ?_))))
  refine ek_ret (fun w hw => ⟨rfl, _, res_t _ rfl, ?_⟩)
  (try simp only [qz])
  exact ⟨by rw [show kindN z k = 0 from if_pos (by omega)], hw.below⟩

set_option maxRecDepth 100000 in
set_option maxHeartbeats 1000000 in
theorem match_any (x y : Nm) (hy : y.Ok) (w : World) : Calls Try.prog 191 #[.agg #[.int .i64 x.a, .int .i64 x.b, .int .i64 x.c, .int .i64 x.d, .int .i64 x.k], .agg #[.int .i64 y.a, .int .i64 y.b, .int .i64 y.c, .int .i64 y.d, .int .i64 y.k]] w fun e w' => e = .returned (.int .i64 (matchN x y : Nat)) ∧ Below w.heap.size w w' := by
  go_enter Try.func191, Try.ntmps191
  refine wk_start ?_
  refine wk_seq ?_
  refine wk_region [1, 1, 0] rfl (by kernel_rfl) ?_
  simp only [qy]
  refine rg_new (cs := ?_) (ty := ?_) (by rfl) (fun w => ?_) (fun _ h => by cases h) (fun g1 => ?_); rotate_left 2
  focus (go_simp; rfl)
  simp only [qz]
  refine rg_new (cs := ?_) (ty := ?_) (by rfl) (fun w => ?_) (fun _ h => by cases h) (fun g2 => ?_); rotate_left 2
  focus (go_simp; rfl)
  simp only [qz]
  refine rg_assign ?_
  simp only [qz]
  refine rg_nil (ek_next (wk_seq ?_))
  refine wk_region [0, 1, 1, 1] rfl (by kernel_rfl) ?_
  simp only [qy]
  refine rf_loadR (n := 5) rfl rfl rfl Try.underlying45 rfl (by kernel_rfl) (fun w hw => Kn.hd0 (Kn.tl hw)) rfl rfl ?_
  simp only [qz]
  apply rg_pure (by rfl) (by kernel_rfl)
  case hargs => (simp only [qm, qs, Act.eval]; exact rfl)
  case h => exact fun w hw => odd_any x w
  case hz => exact (fun _ h => by cases h)
  simp only [qz]
  refine rg_new (cs := ?_) (ty := ?_) (by rfl) (fun w => ?_) (fun _ h => by cases h) (fun g3 => ?_); rotate_left 2
  focus (go_simp; rfl)
  simp only [qz]
  refine rf_storeR (n := 4) rfl rfl (by kernel_rfl) rfl rfl (UpdR.here _ _ _ (Nat.le_of_ble_eq_true rfl)) (fun _ h => by cases h) ?_
  simp only [qz, Nat.reduceAdd]
  refine rg_nil (ek_next (wk_seq (wk_seq ?_)))
  refine wk_region [0] rfl (by kernel_rfl) ?_
  simp only [qy]
  refine rg_move ?_
  simp only [qz]
  refine rg_nil (ek_next (wk_block ?_))
  refine wk_loopF [4, 6, 7, 8, 11, 12, 13, 14, 15, 16, 17, 18, 19, 20, 21, 22, 23, 24, 25, 26, 27, 28, 29, 30, 31, 32, 33, 34, 35, 36, 37, 38, 39, 40] (fun mz f s => ∃ (n : Nat), f 11 = .int .i64 n ∧ s = ((g3, .cells #[.int .i64 (x.a % 2), .int .i64 (x.b % 2), .int .i64 (x.c % 2), .int .i64 (x.d % 2)] 43) :: ((g2, .cells #[.int .i64 y.a, .int .i64 y.b, .int .i64 y.c, .int .i64 y.d, .int .i64 y.k] 45) :: ((g1, .cells #[.int .i64 x.a, .int .i64 x.b, .int .i64 x.c, .int .i64 x.d, .int .i64 x.k] 45) :: []))) ∧ mz = 4 - n ∧ n ≤ 4 ∧ (∀ j, j < n → okM x (turnN j y) = false)) ((fun (n : Nat) => 4 - n) (0)) ?_ (by kernel_rfl) ?_
  · exact ⟨0, rfl, rfl, rfl, by omega, (fun j hj => absurd hj (by omega))⟩
  rintro mz f1 s ⟨n, hs1_11, rfl, hn, hc1, hc2⟩
  simp only [Act.putF, List.foldl_cons, List.foldl_nil, hs1_11, Act.put, Act.eval, q1, q2, q3, q4, q5, q6, q7, q8, q9, q10, q11, q12, q13, q14, q15, q16, q17, q18, Nat.reduceAdd, Bool.not_true, Bool.not_false]
  clear hs1_11
  refine wk_seq ?_
  refine wk_region [0] rfl (by kernel_rfl) ?_
  simp only [qy]
  refine rfb_lss rfl rfl rfl rfl ?_
  intro x h1
  cases x
  · (try simp only [qd, ne_eq] at h1)
    simp only [qz]
    refine rg_nil (ek_next (wk_seq (wk_cond_f rfl (wk_exit (ek_then_exit (ek_then_exit (ek_block_exit (ek_next (wk_seq ?_)))))))))
    refine wk_region [0] rfl (by kernel_rfl) ?_
    simp only [qy]
    refine rg_assign ?_
    simp only [qz]
    refine rg_nil (ek_next (wk_ret ?_))
    refine ek_ret (fun w hw => ⟨rfl, _, res_t _ rfl, ?_⟩)
    (try simp only [qz])
    obtain rfl : n = 4 := by omega
    exact ⟨by rw [match_no hc2]; rfl, hw.below⟩
  (try simp only [qd, ne_eq] at h1)
  simp only [qz]
  refine rg_nil (ek_next (wk_seq (wk_cond_t rfl (wk_skip (ek_next (wk_seq (wk_block (wk_seq ?_))))))))
  refine wk_region [0, 0] rfl (by kernel_rfl) ?_
  simp only [qy]
  refine rg_move ?_
  simp only [qz]
  refine rg_assign ?_
  simp only [qz]
  refine rg_nil (ek_next (wk_seq ?_))
  refine wk_region [0, 0, 1, 0, 0, 1, 1, 1, 1] rfl (by kernel_rfl) ?_
  simp only [qy]
  refine rf_loadR (n := 5) rfl rfl rfl Try.underlying45 rfl (by kernel_rfl) (fun w hw => Kn.hd0 (Kn.tl hw)) rfl rfl ?_
  simp only [qz]
  refine rg_move ?_
  simp only [qz]
  apply rg_pure (by rfl) (by kernel_rfl)
  case hargs => (simp only [qm, qs, Act.eval]; exact rfl)
  case h => exact fun w hw => by have := amTurn_ok y (n : Int) hy w; rw [turn_N (by omega)] at this; exact this
  case hz => exact (fun _ h => by cases h)
  simp only [qz]
  refine rf_extract rfl rfl rfl rfl ?_
  simp only [qz]
  refine rf_extract rfl rfl rfl rfl ?_
  simp only [qz]
  apply rg_pure (by rfl) (by kernel_rfl)
  case hargs => (simp only [qm, qs, Act.eval]; exact rfl)
  case h => exact fun w hw => must_any (turnN n y) 0 w
  case hz => exact (fun _ h => by cases h)
  simp only [qz]
  apply rg_pure (by rfl) (by kernel_rfl)
  case hargs => (simp only [qm, qs, Act.eval]; exact rfl)
  case h => exact fun w hw => odd_any (turnN n y) w
  case hz => exact (fun _ h => by cases h)
  simp only [qz]
  refine rg_new (cs := ?_) (ty := ?_) (by rfl) (fun w => ?_) (fun _ h => by cases h) (fun g4 => ?_); rotate_left 2
  focus (go_simp; rfl)
  simp only [qz]
  refine rf_storeR (n := 4) rfl rfl (by kernel_rfl) rfl rfl (UpdR.here _ _ _ (Nat.le_of_ble_eq_true rfl)) (fun _ h => by cases h) ?_
  simp only [qz, Nat.reduceAdd]
  refine rg_nil (ek_next (wk_seq (wk_seq ?_)))
  refine wk_draws _ _ [(0, 0), (2, 0), (1, 1), (3, 1), (4, 0)] [] (by kernel_rfl) (by kernel_rfl) (fun c d v a w h => by cases d <;> exact h) ((sc _ (sc _ (sc _ (sc _ sn))))) (fun e => by first | exact absurd e (by decide) | rfl) ?_
  simp only [List.map_cons, List.map_nil, List.getD_cons_zero, List.getD_cons_succ]
  refine rf_loadR (n := 4) rfl rfl rfl Try.underlying43 rfl (by kernel_rfl) (fun w hw => Kn.hd0 (Kn.tl hw)) rfl rfl ?_
  simp only [qz]
  refine rf_loadR (n := 4) rfl rfl rfl Try.underlying43 rfl (by kernel_rfl) (fun w hw => Kn.hd0 hw) rfl rfl ?_
  simp only [qz]
  apply rg_pure (by rfl) (by kernel_rfl)
  case hargs => (simp only [qm, qs, Act.eval]; exact rfl)
  case h => exact fun w hw => weight_any (x.a % 2) (x.b % 2) (x.c % 2) (x.d % 2) (by omega) w
  case hz => exact (fun _ h => by cases h; exact (sc _ (sc _ (sc _ (sc _ sn)))))
  simp only [qz]
  apply rg_pure (by rfl) (by kernel_rfl)
  case hargs => (simp only [qm, qs, Act.eval]; exact rfl)
  case h => exact fun w hw => weight_any ((turnN n y).a % 2) ((turnN n y).b % 2) ((turnN n y).c % 2) ((turnN n y).d % 2) (by omega) w
  case hz => exact (fun _ h => by cases h; exact (sc _ (sc _ (sc _ (sc _ sn)))))
  simp only [qz]
  refine rfb_neq rfl rfl rfl rfl ?_
  intro x h2
  cases x
  · (try simp only [qd, ne_eq] at h2)
    simp only [qz]
    refine rg_nil (ek_next (wk_cond_f rfl (wk_skip (ek_next (wk_seq ?_)))))
    refine wk_region [0, 0, 0] rfl (by kernel_rfl) ?_
    simp only [qy]
    refine rf_loadR (n := 4) rfl rfl rfl Try.underlying43 rfl (by kernel_rfl) (fun w hw => Kn.hd0 (Kn.tl hw)) rfl rfl ?_
    simp only [qz]
    refine rf_loadR (n := 4) rfl rfl rfl Try.underlying43 rfl (by kernel_rfl) (fun w hw => Kn.hd0 hw) rfl rfl ?_
    simp only [qz]
    refine rf_eqA4 rfl rfl rfl rfl ?_
    simp only [qz]
    refine rg_nil (ek_next ?_)
    refine wk_cond (t := _) rfl (fun h3 => ?_) (fun h3 => ?_)
    · replace h3 := of_decide_eq_true h3
      refine wk_seq ?_
      refine wk_region [0, 0] rfl (by kernel_rfl) ?_
      simp only [qy]
      refine rg_move ?_
      simp only [qz]
      refine rg_assign ?_
      simp only [qz]
      refine rg_nil (ek_next (wk_ret (ek_block_ret (ek_then_ret (ek_then_ret (ek_block_ret (ek_then_ret ?_)))))))
      refine ek_ret (fun w hw => ⟨rfl, _, res_t _ rfl, ?_⟩)
      (try simp only [qz])
      have e := match_at (x := x) (y := y) (show n < 4 by omega) hc2 (okM_t1 (by unfold wtE; omega) h3)
      exact ⟨by rw [e], hw.below⟩
    replace h3 := of_decide_eq_false h3
    refine wk_skip (ek_block (ek_next ?_))
    refine wk_region [0, 0] rfl (by kernel_rfl) ?_
    simp only [qy]
    refine rf_add rfl rfl rfl rfl (wrap_ok (by omega) (by omega)) ?_
    simp only [qz]
    refine rg_move ?_
    simp only [qz]
    refine rg_nil ?_
    refine ek_sub (sk _ (sc _ (sc _ (sc _ sn)))) ?_
    refine ek_roundF (4 - (n + 1)) (by omega) (by kernel_rfl) ?_
    exact ⟨n + 1, rfl, by rfl, by rfl, by omega, (fun j hj => if e : j = n then e ▸ okM_f1 (by unfold wtE; omega) h3 else hc2 j (by omega))⟩
  (try simp only [qd, ne_eq] at h2)
  simp only [qz]
  refine rg_nil (ek_next (wk_cond_t rfl (wk_seq ?_)))
  refine wk_region [0] rfl (by kernel_rfl) ?_
  simp only [qy]
  refine rg_move ?_
  simp only [qz]
  refine rg_nil (ek_next (wk_block ?_))
  refine wk_unroll 4 ?_
  refine wk_seq ?_
  refine wk_region [0] rfl (by kernel_rfl) ?_
  simp only [qy]
  refine rf_lss (b := true) rfl rfl rfl rfl (by decide) ?_
  simp only [qz]
  refine rg_nil (ek_next (wk_seq (wk_cond_t rfl (wk_skip (ek_next (wk_seq (wk_block (wk_seq ?_))))))))
  refine wk_region [0, 0] rfl (by kernel_rfl) ?_
  simp only [qy]
  refine rg_move ?_
  simp only [qz]
  refine rg_assign ?_
  simp only [qz]
  refine rg_nil (ek_next ?_)
  refine wk_region [0, 0, 0, 0, 0, 0, 1] rfl (by kernel_rfl) ?_
  simp only [qy]
  refine rg_move ?_
  simp only [qz]
  refine rg_move ?_
  simp only [qz]
  refine rf_indexA (n := 0) (sz := 1) (j := 0) rfl rfl rfl rfl Try.underlying43 (by kernel_rfl) (by decide) rfl ?_
  simp only [qz]
  refine rf_load rfl rfl rfl Try.underlying3 rfl (fun w hw => (Kn.hd0 hw).at rfl) ?_
  simp only [qz]
  refine rf_sub rfl rfl rfl rfl (wrap_ok (by omega) (by omega)) ?_
  simp only [qz]
  refine rf_indexA (n := 0) (sz := 1) (j := 0) rfl rfl rfl rfl Try.underlying43 (by kernel_rfl) (by decide) rfl ?_
  simp only [qz]
  refine rf_store rfl rfl (by kernel_rfl) rfl rfl (UpdR.here _ _ _ (Nat.le_of_ble_eq_true rfl)) (fun _ h => by cases h) ?_
  simp only [qz]
  refine rg_nil (ek_block (ek_next ?_))
  refine wk_region [0, 0] rfl (by kernel_rfl) ?_
  simp only [qy]
  refine rf_add (r := 1) rfl rfl rfl rfl (by decide) ?_
  simp only [qz]
  refine rg_move ?_
  simp only [qz]
  refine rg_nil (ek_again (wk_seq ?_))
  refine wk_region [0] rfl (by kernel_rfl) ?_
  simp only [qy]
  refine rf_lss (b := true) rfl rfl rfl rfl (by decide) ?_
  simp only [qz]
  refine rg_nil (ek_next (wk_seq (wk_cond_t rfl (wk_skip (ek_next (wk_seq (wk_block (wk_seq ?_))))))))
  refine wk_region [0, 0] rfl (by kernel_rfl) ?_
  simp only [qy]
  refine rg_move ?_
  simp only [qz]
  refine rg_assign ?_
  simp only [qz]
  refine rg_nil (ek_next ?_)
  refine wk_region [0, 0, 0, 0, 0, 0, 1] rfl (by kernel_rfl) ?_
  simp only [qy]
  refine rg_move ?_
  simp only [qz]
  refine rg_move ?_
  simp only [qz]
  refine rf_indexA (n := 1) (sz := 1) (j := 1) rfl rfl rfl rfl Try.underlying43 (by kernel_rfl) (by decide) rfl ?_
  simp only [qz]
  refine rf_load rfl rfl rfl Try.underlying3 rfl (fun w hw => (Kn.hd0 hw).at rfl) ?_
  simp only [qz]
  refine rf_sub rfl rfl rfl rfl (wrap_ok (by omega) (by omega)) ?_
  simp only [qz]
  refine rf_indexA (n := 1) (sz := 1) (j := 1) rfl rfl rfl rfl Try.underlying43 (by kernel_rfl) (by decide) rfl ?_
  simp only [qz]
  refine rf_store rfl rfl (by kernel_rfl) rfl rfl (UpdR.here _ _ _ (Nat.le_of_ble_eq_true rfl)) (fun _ h => by cases h) ?_
  simp only [qz]
  refine rg_nil (ek_block (ek_next ?_))
  refine wk_region [0, 0] rfl (by kernel_rfl) ?_
  simp only [qy]
  refine rf_add (r := 2) rfl rfl rfl rfl (by decide) ?_
  simp only [qz]
  refine rg_move ?_
  simp only [qz]
  refine rg_nil (ek_again (wk_seq ?_))
  refine wk_region [0] rfl (by kernel_rfl) ?_
  simp only [qy]
  refine rf_lss (b := true) rfl rfl rfl rfl (by decide) ?_
  simp only [qz]
  refine rg_nil (ek_next (wk_seq (wk_cond_t rfl (wk_skip (ek_next (wk_seq (wk_block (wk_seq ?_))))))))
  refine wk_region [0, 0] rfl (by kernel_rfl) ?_
  simp only [qy]
  refine rg_move ?_
  simp only [qz]
  refine rg_assign ?_
  simp only [qz]
  refine rg_nil (ek_next ?_)
  refine wk_region [0, 0, 0, 0, 0, 0, 1] rfl (by kernel_rfl) ?_
  simp only [qy]
  refine rg_move ?_
  simp only [qz]
  refine rg_move ?_
  simp only [qz]
  refine rf_indexA (n := 2) (sz := 1) (j := 2) rfl rfl rfl rfl Try.underlying43 (by kernel_rfl) (by decide) rfl ?_
  simp only [qz]
  refine rf_load rfl rfl rfl Try.underlying3 rfl (fun w hw => (Kn.hd0 hw).at rfl) ?_
  simp only [qz]
  refine rf_sub rfl rfl rfl rfl (wrap_ok (by omega) (by omega)) ?_
  simp only [qz]
  refine rf_indexA (n := 2) (sz := 1) (j := 2) rfl rfl rfl rfl Try.underlying43 (by kernel_rfl) (by decide) rfl ?_
  simp only [qz]
  refine rf_store rfl rfl (by kernel_rfl) rfl rfl (UpdR.here _ _ _ (Nat.le_of_ble_eq_true rfl)) (fun _ h => by cases h) ?_
  simp only [qz]
  refine rg_nil (ek_block (ek_next ?_))
  refine wk_region [0, 0] rfl (by kernel_rfl) ?_
  simp only [qy]
  refine rf_add (r := 3) rfl rfl rfl rfl (by decide) ?_
  simp only [qz]
  refine rg_move ?_
  simp only [qz]
  refine rg_nil (ek_again (wk_seq ?_))
  refine wk_region [0] rfl (by kernel_rfl) ?_
  simp only [qy]
  refine rf_lss (b := true) rfl rfl rfl rfl (by decide) ?_
  simp only [qz]
  refine rg_nil (ek_next (wk_seq (wk_cond_t rfl (wk_skip (ek_next (wk_seq (wk_block (wk_seq ?_))))))))
  refine wk_region [0, 0] rfl (by kernel_rfl) ?_
  simp only [qy]
  refine rg_move ?_
  simp only [qz]
  refine rg_assign ?_
  simp only [qz]
  refine rg_nil (ek_next ?_)
  refine wk_region [0, 0, 0, 0, 0, 0, 1] rfl (by kernel_rfl) ?_
  simp only [qy]
  refine rg_move ?_
  simp only [qz]
  refine rg_move ?_
  simp only [qz]
  refine rf_indexA (n := 3) (sz := 1) (j := 3) rfl rfl rfl rfl Try.underlying43 (by kernel_rfl) (by decide) rfl ?_
  simp only [qz]
  refine rf_load rfl rfl rfl Try.underlying3 rfl (fun w hw => (Kn.hd0 hw).at rfl) ?_
  simp only [qz]
  refine rf_sub rfl rfl rfl rfl (wrap_ok (by omega) (by omega)) ?_
  simp only [qz]
  refine rf_indexA (n := 3) (sz := 1) (j := 3) rfl rfl rfl rfl Try.underlying43 (by kernel_rfl) (by decide) rfl ?_
  simp only [qz]
  refine rf_store rfl rfl (by kernel_rfl) rfl rfl (UpdR.here _ _ _ (Nat.le_of_ble_eq_true rfl)) (fun _ h => by cases h) ?_
  simp only [qz]
  refine rg_nil (ek_block (ek_next ?_))
  refine wk_region [0, 0] rfl (by kernel_rfl) ?_
  simp only [qy]
  refine rf_add (r := 4) rfl rfl rfl rfl (by decide) ?_
  simp only [qz]
  refine rg_move ?_
  simp only [qz]
  refine rg_nil (ek_again (wk_seq ?_))
  refine wk_region [0] rfl (by kernel_rfl) ?_
  simp only [qy]
  refine rf_lss (b := false) rfl rfl rfl rfl (by decide) ?_
  simp only [qz]
  refine rg_nil (ek_next (wk_seq (wk_cond_f rfl (wk_exit (ek_then_exit (ek_then_exit (ek_block_exit (ek_next (wk_seq ?_)))))))))
  refine wk_region [0, 0, 0] rfl (by kernel_rfl) ?_
  simp only [qy]
  refine rf_loadR (n := 4) rfl rfl rfl Try.underlying43 rfl (by kernel_rfl) (fun w hw => Kn.hd0 (Kn.tl hw)) rfl rfl ?_
  simp only [qz]
  refine rf_loadR (n := 4) rfl rfl rfl Try.underlying43 rfl (by kernel_rfl) (fun w hw => Kn.hd0 hw) rfl rfl ?_
  simp only [qz]
  refine rf_eqA4 rfl rfl rfl rfl ?_
  simp only [qz]
  refine rg_nil (ek_next ?_)
  refine wk_cond (t := _) rfl (fun h4 => ?_) (fun h4 => ?_)
  · replace h4 := of_decide_eq_true h4
    refine wk_seq ?_
    refine wk_region [0, 0] rfl (by kernel_rfl) ?_
    simp only [qy]
    refine rg_move ?_
    simp only [qz]
    refine rg_assign ?_
    simp only [qz]
    refine rg_nil (ek_next (wk_ret (ek_block_ret (ek_then_ret (ek_then_ret (ek_block_ret (ek_then_ret ?_)))))))
    refine ek_ret (fun w hw => ⟨rfl, _, res_t _ rfl, ?_⟩)
    (try simp only [qz])
    have e := match_at (x := x) (y := y) (show n < 4 by omega) hc2 (okM_t2 (by unfold wtE; omega) h4)
    exact ⟨by rw [e], hw.below⟩
  replace h4 := of_decide_eq_false h4
  refine wk_skip (ek_block (ek_next ?_))
  refine wk_region [0, 0] rfl (by kernel_rfl) ?_
  simp only [qy]
  refine rf_add rfl rfl rfl rfl (wrap_ok (by omega) (by omega)) ?_
  simp only [qz]
  refine rg_move ?_
  simp only [qz]
  refine rg_nil ?_
  refine ek_sub (sk _ (sc _ (sc _ (sc _ sn)))) ?_
  refine ek_roundF (4 - (n + 1)) (by omega) (by kernel_rfl) ?_
  exact ⟨n + 1, rfl, by rfl, by rfl, by omega, (fun j hj => if e : j = n then e ▸ okM_f2 (by unfold wtE; omega) h4 else hc2 j (by omega))⟩

end Go.Proofs.Ytccbinnlnkpplaa
namespace Go.Proofs.Ytccbinnlnkpplaa
set_option linter.all false
open Go.RowKit

/-- A row of which the first k numbers are written. -/
def wrS (l : List Nm) (f : Nat → Nm) (k : Nat) : List Nm := (List.range l.length).map fun j => if j < k then f j else nm l j
theorem wrS_len (l : List Nm) (f : Nat → Nm) (k : Nat) : (wrS l f k).length = l.length := by simp [wrS]
theorem wrS_nm {l : List Nm} {f : Nat → Nm} {k j : Nat} (h : j < l.length) : nm (wrS l f k) j = if j < k then f j else nm l j := by
  show ((wrS l f k).getD j _) = _
  unfold wrS
  rw [List.getD_eq_getElem?_getD, List.getElem?_map, List.getElem?_range h]; rfl
theorem wrS_zero (l : List Nm) (f : Nat → Nm) : wrS l f 0 = l := by
  refine List.ext_getElem (wrS_len l f 0) fun j h1 h2 => ?_
  have e := wrS_nm (l := l) (f := f) (k := 0) h2
  rw [if_neg (by omega)] at e
  unfold nm El.at at e
  rw [List.getD_eq_getElem?_getD, List.getD_eq_getElem?_getD, List.getElem?_eq_getElem h1, List.getElem?_eq_getElem h2] at e
  exact e
theorem wrS_set {l : List Nm} {f : Nat → Nm} {k : Nat} (h : k < l.length) : (wrS l f k).set k (f k) = wrS l f (k + 1) := by
  refine List.ext_getElem (by rw [List.length_set, wrS_len, wrS_len]) fun j h1 h2 => ?_
  have hj : j < l.length := by rw [wrS_len] at h2; exact h2
  have e1 := wrS_nm (l := l) (f := f) (k := k) hj
  have e2 := wrS_nm (l := l) (f := f) (k := k + 1) hj
  unfold nm El.at at e1 e2
  rw [List.getD_eq_getElem?_getD, List.getElem?_eq_getElem (by rw [wrS_len]; exact hj)] at e1
  rw [List.getD_eq_getElem?_getD, List.getElem?_eq_getElem h2] at e2
  simp only [Option.getD_some] at e1 e2
  rw [List.getElem_set, e2]
  by_cases e : k = j
  · subst e; rw [if_pos rfl, if_pos (by omega)]
  · rw [if_neg e, e1]
    by_cases hlt : j < k
    · rw [if_pos hlt, if_pos (by omega)]
    · rw [if_neg hlt, if_neg (by omega)]
theorem sw_get {x y : RW} {A C : List RW} {i : Nat} : (A ++ y :: x :: C)[i]? = (A ++ x :: y :: C)[swq A.length i]? := by
  rcases (by omega : i < A.length ∨ i = A.length ∨ i = A.length + 1 ∨ A.length + 2 ≤ i) with h | h | h | h
  · rw [swq_o (by omega) (by omega), List.getElem?_append_left h, List.getElem?_append_left h]
  · subst h; rw [swq_p, List.getElem?_append_right (Nat.le_refl _), List.getElem?_append_right (by omega)]; simp
  · subst h; rw [swq_q, List.getElem?_append_right (by omega), List.getElem?_append_right (Nat.le_refl _)]; simp
  · rw [swq_o (by omega) (by omega), List.getElem?_append_right (by omega), List.getElem?_append_right (by omega)]
    obtain ⟨m, hm⟩ : ∃ m, i - A.length = m + 2 := ⟨i - A.length - 2, by omega⟩
    rw [hm]; rfl
theorem ap_one {x : RW} {A C : List RW} {i : Nat} {q : RW} (h : (A ++ x :: C)[i]? = some q) : i = A.length ∧ q = x ∨ i ≠ A.length ∧ ∀ x', (A ++ x' :: C)[i]? = some q := by
  rcases (by omega : i < A.length ∨ i = A.length ∨ A.length + 1 ≤ i) with h1 | h1 | h1
  · refine .inr ⟨by omega, fun x' => ?_⟩
    rw [List.getElem?_append_left h1] at h ⊢; exact h
  · subst h1
    rw [List.getElem?_append_right (Nat.le_refl _), Nat.sub_self] at h
    exact .inl ⟨rfl, (Option.some.inj h).symm⟩
  · refine .inr ⟨by omega, fun x' => ?_⟩
    rw [List.getElem?_append_right (by omega)] at h ⊢
    obtain ⟨m, hm⟩ : ∃ m, i - A.length = m + 1 := ⟨i - A.length - 1, by omega⟩
    rw [hm] at h ⊢; exact h
theorem ap_two {x y : RW} {A C : List RW} {i : Nat} {q : RW} (h : (A ++ x :: y :: C)[i]? = some q) : i = A.length ∧ q = x ∨ i = A.length + 1 ∧ q = y ∨ i ≠ A.length ∧ i ≠ A.length + 1 ∧ ∀ x' y', (A ++ x' :: y' :: C)[i]? = some q := by
  rcases (by omega : i < A.length ∨ i = A.length ∨ i = A.length + 1 ∨ A.length + 2 ≤ i) with h1 | h1 | h1 | h1
  · refine .inr (.inr ⟨by omega, by omega, fun x' y' => ?_⟩)
    rw [List.getElem?_append_left h1] at h ⊢; exact h
  · subst h1
    rw [List.getElem?_append_right (Nat.le_refl _), Nat.sub_self] at h
    exact .inl ⟨rfl, (Option.some.inj h).symm⟩
  · subst h1
    rw [List.getElem?_append_right (by omega), show A.length + 1 - A.length = 1 by omega] at h
    exact .inr (.inl ⟨rfl, (Option.some.inj h).symm⟩)
  · refine .inr (.inr ⟨by omega, by omega, fun x' y' => ?_⟩)
    rw [List.getElem?_append_right (by omega)] at h ⊢
    obtain ⟨m, hm⟩ : ∃ m, i - A.length = m + 2 := ⟨i - A.length - 2, by omega⟩
    rw [hm] at h ⊢; exact h
theorem at_one {x : RW} {A C : List RW} : (A ++ x :: C)[A.length]? = some x := by rw [List.getElem?_append_right (Nat.le_refl _), Nat.sub_self]; rfl
theorem at_two {x y : RW} {A C : List RW} : (A ++ x :: y :: C)[A.length + 1]? = some y := by rw [List.getElem?_append_right (by omega), show A.length + 1 - A.length = 1 by omega]; rfl
theorem at_oneP {x : RW} {A C : List RW} {p : Nat} (h : A.length = p) : (A ++ x :: C)[p]? = some x := h ▸ at_one
theorem at_twoP {x y : RW} {A C : List RW} {p : Nat} (h : A.length = p) : (A ++ x :: y :: C)[p + 1]? = some y := h ▸ at_two
/-- Both stores of an exchange. -/
theorem cross_set {N p : Nat} {A C : List RW} {b c b' c' : Nat} {l l' : List Nm} {r r' ro : List Value} (hA : A.length = p) :
    (((rwV N (A ++ ⟨b, c, l, r⟩ :: ⟨b', c', l', r'⟩ :: C) ++ ro).set p (.slice (some ⟨b', 0, none⟩) N c')).set (p + 1) (.slice (some ⟨b, 0, none⟩) N c)) = rwV N (A ++ ⟨b', c', l', r'⟩ :: ⟨b, c, l, r⟩ :: C) ++ ro := by
  subst hA
  have hl : (A.map (RW.val N)).length = A.length := List.length_map ..
  simp only [rwV, List.map_append, List.map_cons, List.append_assoc, List.cons_append]
  rw [List.set_append_right _ _ (by rw [hl]; exact Nat.le_refl _), hl, Nat.sub_self, List.set_cons_zero, List.set_append_right _ _ (by rw [hl]; omega), hl, show A.length + 1 - A.length = 0 + 1 by omega, List.set_cons_succ, List.set_cons_zero]
  rfl
theorem go_sz {N : Nat} {rs : List RW} {ro : List Value} {i : Nat} (h : i < rs.length) (v : Value) : i + [v].length ≤ (rwV N rs ++ ro).toArray.size := by
  rw [List.size_toArray, List.length_append, List.length_map]
  show i + 1 ≤ _
  omega
theorem go_sz2 {N : Nat} {rs : List RW} {ro : List Value} {i j : Nat} (h : i < rs.length) (v v' : Value) : i + [v].length ≤ ((rwV N rs ++ ro).set j v').toArray.size := by
  rw [List.size_toArray, List.length_set, List.length_append, List.length_map]
  show i + 1 ≤ _
  omega
section
variable {N gw go oc : Nat} {z : Zt} {L : List It} {ro : List Value} {ia : Option Addr} {ic : Nat} {u : List Blk}
theorem rw_swap {A C : List RW} {x y : RW} : (rwB (A ++ x :: y :: C)).Perm (rwB (A ++ y :: x :: C)) := ((List.Perm.swap _ _ _).append_left A).map _
theorem WS.crossed {p : Nat} {A C : List RW} {x y : RW} (hA : A.length = p) (hl : (A ++ x :: y :: C).length = N) (hp : p + 1 < N) (hoc : N ≤ oc) (hlen : ∀ q ∈ A ++ x :: y :: C, q.l.length = N)
    (hval : ∀ i q, (A ++ x :: y :: C)[i]? = some q → ∀ k, k < N → nm q.l k = z i k) (hO : OwnT u (.slice ia L.length ic) L) (hok : ∀ i k, i < N → k < N → (z i k).Ok) :
    WS N gw (crZ p z) L ((gw, .cells #[.slice (some ⟨go, 0, none⟩) N oc, .slice ia L.length ic] 131) :: (go, .cells (rwV N (A ++ y :: x :: C) ++ ro).toArray 36) :: (rwB (A ++ y :: x :: C) ++ (u ++ []))) :=
  ⟨go, oc, ro, A ++ y :: x :: C, ia, ic, u, rfl, by rw [← hl]; simp, hoc, fun q hq => hlen q (by simp at hq ⊢; rcases hq with h | h | h | h <;> simp [h]), fun i q hq k hk => by
    rw [sw_get] at hq
    subst hA
    exact hval _ q hq k hk, hO, fun i k hi hk => hok _ k (swq_lt hp hi) hk⟩
theorem WS.wrote {p : Nat} {A C : List RW} {b c : Nat} {l : List Nm} {r : List Value} {f : Nat → Nm} {z' : Zt} (hA : A.length = p) (hl : (A ++ ⟨b, c, l, r⟩ :: C).length = N) (hoc : N ≤ oc) (hlen : ∀ q ∈ A ++ ⟨b, c, l, r⟩ :: C, q.l.length = N)
    (hval : ∀ i q, (A ++ ⟨b, c, l, r⟩ :: C)[i]? = some q → ∀ k, k < N → nm q.l k = z i k) (hO : OwnT u (.slice ia L.length ic) L) (hok : ∀ i k, i < N → k < N → (z' i k).Ok) (hf : ∀ k, k < N → f k = z' p k) (hz : ∀ i k, i ≠ p → i < N → k < N → z' i k = z i k) :
    WS N gw z' L ((gw, .cells #[.slice (some ⟨go, 0, none⟩) N oc, .slice ia L.length ic] 131) :: (go, .cells (rwV N (A ++ ⟨b, c, l, r⟩ :: C) ++ ro).toArray 36) :: (rwB A ++ (b, .cells (NmE.flat (wrS l f N) ++ r).toArray 45) :: (rwB C ++ (u ++ [])))) := by
  have hll : l.length = N := hlen ⟨b, c, l, r⟩ (by simp)
  refine ⟨go, oc, ro, A ++ ⟨b, c, wrS l f N, r⟩ :: C, ia, ic, u, ?_, by rw [← hl]; simp, hoc, fun q hq => ?_, fun i q hq k hk => ?_, hO, hok⟩
  · rw [rw_one, List.append_assoc, List.cons_append]
    have e : rwV N (A ++ ⟨b, c, l, r⟩ :: C) = rwV N (A ++ ⟨b, c, wrS l f N, r⟩ :: C) := by unfold rwV; rw [List.map_append, List.map_append, List.map_cons, List.map_cons]; rfl
    rw [e]
  · rcases List.mem_append.1 hq with h | h
    · exact hlen q (List.mem_append_left _ h)
    · rcases List.mem_cons.1 h with rfl | h
      · exact (wrS_len l f N).trans hll
      · exact hlen q (List.mem_append_right _ (List.mem_cons_of_mem _ h))
  · have hiN : i < N := by
      rcases Nat.lt_or_ge i (A ++ ⟨b, c, wrS l f N, r⟩ :: C).length with h | h
      · rw [← hl]; simpa using h
      · rw [List.getElem?_eq_none h] at hq; cases hq
    rcases ap_one hq with ⟨e1, e2⟩ | ⟨e1, e2⟩
    · subst e2 e1
      show nm (wrS l f N) k = _
      rw [wrS_nm (by omega), if_pos hk, hf k hk, hA]
    · rw [hval i q (e2 _) k hk, hz i k (by omega) hiN hk]
theorem WS.wrote2 {p : Nat} {A C : List RW} {b c b1 c1 : Nat} {l l1 : List Nm} {r r1 : List Value} {f g : Nat → Nm} {z' : Zt} (hA : A.length = p) (hl : (A ++ ⟨b, c, l, r⟩ :: ⟨b1, c1, l1, r1⟩ :: C).length = N) (hoc : N ≤ oc) (hlen : ∀ q ∈ A ++ ⟨b, c, l, r⟩ :: ⟨b1, c1, l1, r1⟩ :: C, q.l.length = N)
    (hval : ∀ i q, (A ++ ⟨b, c, l, r⟩ :: ⟨b1, c1, l1, r1⟩ :: C)[i]? = some q → ∀ k, k < N → nm q.l k = z i k) (hO : OwnT u (.slice ia L.length ic) L) (hok : ∀ i k, i < N → k < N → (z' i k).Ok) (hf : ∀ k, k < N → f k = z' p k) (hg : ∀ k, k < N → g k = z' (p + 1) k) (hz : ∀ i k, i ≠ p → i ≠ p + 1 → i < N → k < N → z' i k = z i k) :
    WS N gw z' L ((gw, .cells #[.slice (some ⟨go, 0, none⟩) N oc, .slice ia L.length ic] 131) :: (go, .cells (rwV N (A ++ ⟨b, c, l, r⟩ :: ⟨b1, c1, l1, r1⟩ :: C) ++ ro).toArray 36) :: (rwB A ++ (b, .cells (NmE.flat (wrS l f N) ++ r).toArray 45) :: (b1, .cells (NmE.flat (wrS l1 g N) ++ r1).toArray 45) :: (rwB C ++ (u ++ [])))) := by
  have hll : l.length = N := hlen ⟨b, c, l, r⟩ (by simp)
  have hll1 : l1.length = N := hlen ⟨b1, c1, l1, r1⟩ (by simp)
  refine ⟨go, oc, ro, A ++ ⟨b, c, wrS l f N, r⟩ :: ⟨b1, c1, wrS l1 g N, r1⟩ :: C, ia, ic, u, ?_, by rw [← hl]; simp, hoc, fun q hq => ?_, fun i q hq k hk => ?_, hO, hok⟩
  · rw [rw_two, List.append_assoc, List.cons_append, List.cons_append]
    have e : rwV N (A ++ ⟨b, c, l, r⟩ :: ⟨b1, c1, l1, r1⟩ :: C) = rwV N (A ++ ⟨b, c, wrS l f N, r⟩ :: ⟨b1, c1, wrS l1 g N, r1⟩ :: C) := by
      unfold rwV; rw [List.map_append, List.map_append, List.map_cons, List.map_cons, List.map_cons, List.map_cons]; rfl
    rw [e]
  · rcases List.mem_append.1 hq with h | h
    · exact hlen q (List.mem_append_left _ h)
    · rcases List.mem_cons.1 h with rfl | h
      · exact (wrS_len l f N).trans hll
      · rcases List.mem_cons.1 h with rfl | h
        · exact (wrS_len l1 g N).trans hll1
        · exact hlen q (List.mem_append_right _ (List.mem_cons_of_mem _ (List.mem_cons_of_mem _ h)))
  · have hiN : i < N := by
      rcases Nat.lt_or_ge i (A ++ ⟨b, c, wrS l f N, r⟩ :: ⟨b1, c1, wrS l1 g N, r1⟩ :: C).length with h | h
      · rw [← hl]; simpa using h
      · rw [List.getElem?_eq_none h] at hq; cases hq
    rcases ap_two hq with ⟨e1, e2⟩ | ⟨e1, e2⟩ | ⟨e1, e2, e3⟩
    · subst e2 e1
      show nm (wrS l f N) k = _
      rw [wrS_nm (by omega), if_pos hk, hf k hk, hA]
    · subst e2 e1
      show nm (wrS l1 g N) k = _
      rw [wrS_nm (by omega), if_pos hk, hg k hk, hA]
    · rw [hval i q (e3 _ _) k hk, hz i k (by omega) (by omega) hiN hk]
end
end Go.Proofs.Ytccbinnlnkpplaa
namespace Go.Proofs.Ytccbinnlnkpplaa
set_option linter.all false
open Go.RowKit

set_option maxRecDepth 100000 in
set_option maxHeartbeats 1000000 in
theorem amHalve_ok (z : Nm) (n : Int) (hz : z.Ok) (h0 : 0 ≤ n) (h1 : n ≤ 100) (w : World) : Calls Try.prog 83 #[nmV z, .int .i64 n] w fun e w' => e = .returned (numV (z.halve n)) ∧ Below w.heap.size w w' := by
  obtain ⟨hk0, hk1⟩ := (⟨hz.k0, hz.k1⟩ : 0 ≤ z.k ∧ z.k ≤ 40)
  go_enter Try.func83, Try.ntmps83
  refine wk_start ?_
  refine wk_seq ?_
  refine wk_region [1, 1, 0] rfl Kx ?_
  simp only [qy]
  refine Rgn fun g1 => ?_
  simp only [qz]
  refine Rgn fun g2 => ?_
  simp only [qz]
  refine rg_assign ?_
  simp only [qz]
  refine rg_nil (ek_next (wk_seq (wk_block (wk_seq ?_))))
  refine wk_region [0, 1, 0, 0] rfl Kx ?_
  simp only [qy]
  refine rf_loadR (n := 5) rfl rfl rfl Try.underlying45 rfl Kx (fun w hw => Kn.hd0 (Kn.tl hw)) rfl rfl ?_
  simp only [qz]
  apply rg_pure Rx Kx
  case hargs => exact Ax
  case h => exact fun w hw => by have := amvalid_any z w; rw [okB_yes hz] at this; exact this
  case hz => exact Nz
  simp only [qz]
  refine rf_not rfl rfl rfl ?_
  simp only [qz]
  refine rg_assign ?_
  simp only [qz]
  refine rg_nil (ek_next (wk_cond_f rfl (wk_seq ?_)))
  refine wk_region [0, 0, 0, 0, 0, 0, 0] rfl Kx ?_
  simp only [qy]
  refine rg_move ?_
  simp only [qz]
  refine rfb_lss rfl rfl rfl rfl ?_
  intro x h1
  obtain rfl : x = false := by (refine h1.symm.trans ?_; exact decide_eq_false Ox)
  clear h1
  simp only [qz]
  refine rg_move ?_
  simp only [qz]
  apply rg_soft_g
  case hg => rfl
  case hy => (intro w hw; go_simp; (try go_bits); exact Yld.mk _ _)
  simp only [qz]
  refine rfb_gtr rfl rfl rfl rfl ?_
  intro x h2
  obtain rfl : x = false := by (refine h2.symm.trans ?_; exact decide_eq_false Ox)
  clear h2
  simp only [qz]
  refine rf_pick rfl rfl rfl ?_
  simp only [qz]
  refine rg_assign ?_
  simp only [qz]
  refine rg_nil (ek_next (wk_cond_f rfl (wk_skip (ek_block (ek_next (wk_seq ?_))))))
  refine wk_region [0, 0, 0, 0, 0, 0, 0, 1, 0, 0, 1, 0] rfl Kx ?_
  simp only [qy]
  refine rf_field (n := 3) (j := 0) rfl rfl rfl Try.underlying45 rfl Kx rfl ?_
  simp only [qz]
  refine rf_loadR (n := 4) rfl rfl rfl Try.underlying43 rfl Kx (fun w hw => Kn.hd0 (Kn.tl hw)) rfl rfl ?_
  simp only [qz]
  refine rf_field (n := 0) (j := 4) rfl rfl rfl Try.underlying45 rfl Kx rfl ?_
  simp only [qz]
  refine rf_load rfl rfl rfl Try.underlying3 rfl (fun w hw => (Kn.hd0 (Kn.tl hw)).at rfl) ?_
  simp only [qz]
  refine rg_move ?_
  simp only [qz]
  refine rf_add rfl rfl rfl rfl (wrap_ok Ox Ox) ?_
  simp only [qz]
  refine rf_build (cs := fun a => #[cellAt (a.eval (.tmp 20)) 0, cellAt (a.eval (.tmp 20)) 1, cellAt (a.eval (.tmp 20)) 2, cellAt (a.eval (.tmp 20)) 3, a.eval (.tmp 24)]) rfl rfl Kx ?_
  simp only [qz]
  apply rg_num Rx Kx
  case hargs => exact Ax
  case h => exact fun w hw => result_any ⟨z.a, z.b, z.c, z.d, z.k + n⟩ (by have := Nm.fit_mono hz.fit (show (1000000000 : Int) ≤ 4611686018427387903 by omega); exact ⟨this.a0, this.a1, this.b0, this.b1, this.c0, this.c1, this.d0, this.d1⟩) (by have := hz.k1; dsimp only; omega) w
  case hz => exact Nz
  case hc => exact (fun c h => mk_err h)
  · intro hr3
    simp only [qz]
    refine rf_extract rfl rfl rfl rfl ?_
    simp only [qz]
    refine rf_extract rfl rfl rfl rfl ?_
    simp only [qz]
    refine rf_storeR (n := 5) rfl rfl Kx rfl rfl (UpdR.here _ _ _ Nl) Nz ?_
    simp only [qz, Nat.reduceAdd]
    refine rg_assign ?_
    simp only [qz]
    refine rg_nil (ek_next (wk_ret ?_))
    refine ek_ret (fun w hw => ⟨rfl, _, run_results2 rfl rfl (Kn.hd0 hw) Try.underlying45 rfl Kx, ?_⟩)
    (try simp only [qz])
    exact ⟨by rw [show z.halve n = _ from hr3]; rfl, hw.below⟩
  intro z3 hr3
  simp only [qz]
  refine rf_extract rfl rfl rfl rfl ?_
  simp only [qz]
  refine rf_extract rfl rfl rfl rfl ?_
  simp only [qz]
  refine rf_storeR (n := 5) rfl rfl Kx rfl rfl (UpdR.here _ _ _ Nl) Nz ?_
  simp only [qz, Nat.reduceAdd]
  refine rg_assign ?_
  simp only [qz]
  refine rg_nil (ek_next (wk_ret ?_))
  refine ek_ret (fun w hw => ⟨rfl, _, run_results2 rfl rfl (Kn.hd0 hw) Try.underlying45 rfl Kx, ?_⟩)
  (try simp only [qz])
  exact ⟨by rw [show z.halve n = _ from hr3]; rfl, hw.below⟩

end Go.Proofs.Ytccbinnlnkpplaa
namespace Go.Proofs.Ytccbinnlnkpplaa
set_option linter.all false
open Go.RowKit

theorem errI_mt : ∀ r : NR, numV r = .tuple #[nmV (mtR r), .int .i64 (match r with | .ok _ => 0 | .error c => c)]
  | .ok _ => rfl
  | .error _ => rfl
def errI (r : NR) : Int := match r with
  | .ok _ => 0
  | .error c => c
theorem amAdd_mt (x y : Nm) (hx : x.Ok) (hy : y.Ok) (w : World) : Calls Try.prog 82 #[nmV x, nmV y] w fun e w' => e = .returned (.tuple #[nmV (mtR (x.add y)), .int .i64 (errI (x.add y))]) ∧ Below w.heap.size w w' :=
  (amAdd_ok x y hx hy w).mono fun e w' ⟨h1, h2⟩ => ⟨h1.trans (by rw [errI_mt]; rfl), h2⟩
theorem amHalve_mt (z : Nm) (hz : z.Ok) (w : World) : Calls Try.prog 83 #[nmV z, .int .i64 1] w fun e w' => e = .returned (.tuple #[nmV (mtR (z.halve 1)), .int .i64 (errI (z.halve 1))]) ∧ Below w.heap.size w w' :=
  (amHalve_ok z 1 hz (by omega) (by omega) w).mono fun e w' ⟨h1, h2⟩ => ⟨h1.trans (by rw [errI_mt]; rfl), h2⟩
theorem amTurn2 (z : Nm) (hz : z.Ok) (w : World) : Calls Try.prog 159 #[nmV z, .int .i64 2] w fun e w' => e = .returned (.tuple #[nmV z.rot.rot, .int .i64 0]) ∧ Below w.heap.size w w' := amTurn_ok z 2 hz w
theorem amTurnM (z : Nm) (m : Nat) (hm : m < 8) (hz : z.Ok) (w : World) : Calls Try.prog 159 #[nmV z, .int .i64 (m : Int)] w fun e w' => e = .returned (.tuple #[nmV (turnM m z), .int .i64 0]) ∧ Below w.heap.size w w' := by
  have h := amTurn_ok z (m : Int) hz w
  have e : Nm.turn ((m : Int) % 8).toNat z = turnM m z := by
    rw [show ((m : Int) % 8).toNat = m by omega]
    clear h hm hz
    induction m with
    | zero => rfl
    | succ m ih => show (Nm.turn m z).rot = (turnM m z).rot; rw [ih]
  rw [e] at h
  exact h
theorem mtR_ok {x : Nm} (h0 : 0 ≤ x.k) : (mtR x.mk').Ok := by
  cases h : x.mk' with
  | ok v => exact (mk_ok h0 h).1
  | error c => exact zero_ok
theorem cX_ok {x y : Nm} (hx : x.Ok) (hy : y.Ok) : (mtR (x.add y.rot.rot)).Ok ∧ (cX x y).Ok := by
  have h1 : (mtR (x.add y.rot.rot)).Ok := mtR_ok (addR_k hx.k0)
  exact ⟨h1, mtR_ok (by show 0 ≤ (mtR (x.add y.rot.rot)).k + 1; have := h1.k0; omega)⟩
theorem cY_ok {x y : Nm} (hx : x.Ok) (hy : y.Ok) : (mtR (x.rot.rot.add y)).Ok ∧ (cY x y).Ok := by
  have h1 : (mtR (x.rot.rot.add y)).Ok := mtR_ok (addR_k (show 0 ≤ x.k from hx.k0))
  exact ⟨h1, mtR_ok (by show 0 ≤ (mtR (x.rot.rot.add y)).k + 1; have := h1.k0; omega)⟩
set_option maxRecDepth 100000 in
set_option maxHeartbeats 1000000 in
theorem wcross_any (N p gw : Nat) (z : Zt) (L : List It) (s : List Blk) (hS : WS N gw z L s) (hN : N ≤ 6) (hL : L.length ≤ 100000) (hp : p + 1 < N) (w : World) (hK : Kn w (s.map (·.1)) s w) : Calls Try.prog 193 #[.pointer (some ⟨gw, 0, none⟩), .int .i64 (p : Int)] w fun e w' => e = .returned (.tuple #[]) ∧ ∃ s', Kn w (s.map (·.1)) s' w' ∧ WS N gw (crZ p z) (L ++ [cross p]) s' := by
  obtain ⟨go, oc, ro, rs, ia, ic, u, rfl, hrl, hoc, hlen, hval, hO, hok⟩ := hS
  obtain ⟨A, b, c, l, r, b1, c1, l1, r1, C, rfl, hA⟩ := split2 (p := p) (rs := rs) (by omega)
  have hpl : p + 1 < (A ++ ⟨b, c, l, r⟩ :: ⟨b1, c1, l1, r1⟩ :: C).length := by omega
  go_enter Try.func193, Try.ntmps193
  refine wk_startF hK ?_
  refine wk_seq ?_
  refine wk_draws_m (hz1 := (sc _ (sk _ (List.Sublist.append_left (List.Sublist.append_left sn _) _)))) [(0, 0), (1, 0), (2, 0), (3, 0), (4, 0), (5, 3), (6, 3), (7, 3), (8, 0), (9, 3), (10, 3), (11, 0), (12, 0), (13, 0), (14, 0), (15, 0), (16, 0), (17, 0), (18, 0), (19, 3), (20, 3), (21, 3), (22, 0), (23, 3), (24, 3), (25, 0), (26, 0), (27, 2), (28, 0), (29, 1)] 27 (by kernel_rfl) (by kernel_rfl) (fun c d v a w h => by cases d <;> exact h) ?_
  simp only [List.map_cons, List.map_nil, List.getD_cons_zero, List.getD_cons_succ]
  refine rg_move ?_
  simp only [qz]
  apply rg_soft
  case hy => (intro w hw; go_simp; (try go_bits); exact Yld.mk _ _)
  simp only [qz]
  refine rf_field (n := 0) (j := 0) rfl rfl rfl Try.underlying131 rfl (by kernel_rfl) rfl ?_
  simp only [qz]
  refine rf_load rfl rfl rfl Try.underlying129 rfl (fun w hw => (Kn.hd0 hw).at rfl) ?_
  simp only [qz]
  refine rg_move ?_
  simp only [qz]
  refine rg_moveP ?_
  simp only [qz]
  apply rg_softP
  case hy => (intro w hw; go_simp; (try go_bits); exact Yld.mk _ _)
  simp only [qz]
  refine rf_field (n := 0) (j := 0) rfl rfl rfl Try.underlying131 rfl (by kernel_rfl) rfl ?_
  simp only [qz]
  refine rf_load rfl rfl rfl Try.underlying129 rfl (fun w hw => (Kn.hd0 hw).at rfl) ?_
  simp only [qz]
  refine rg_moveP ?_
  simp only [qz]
  refine rf_add rfl rfl rfl rfl (wrap_ok (by omega) (by omega)) ?_
  simp only [qz]
  refine rg_move ?_
  simp only [qz]
  apply rg_soft
  case hy => (intro w hw; go_simp; (try go_bits); exact Yld.mk _ _)
  simp only [qz]
  refine rf_field (n := 0) (j := 0) rfl rfl rfl Try.underlying131 rfl (by kernel_rfl) rfl ?_
  simp only [qz]
  refine rf_load rfl rfl rfl Try.underlying129 rfl (fun w hw => (Kn.hd0 hw).at rfl) ?_
  simp only [qz]
  refine rg_move ?_
  simp only [qz]
  refine rf_add rfl rfl rfl rfl (wrap_ok (by omega) (by omega)) ?_
  simp only [qz]
  refine rf_indexS (n := p + 1) (sz := 1) (j := p + 1) rfl rfl rfl rfl Try.underlying129 (by kernel_rfl) (by omega) (by omega) (by omega) ?_
  simp only [qz]
  refine rf_load (v := .slice (some ⟨b1, 0, none⟩) N c1) rfl rfl rfl Try.underlying36 rfl (fun w hw => Kn.outer (Kn.tl hw) (at_twoP hA)) ?_
  simp only [qz]
  refine rg_moveP ?_
  simp only [qz]
  apply rg_softP
  case hy => (intro w hw; go_simp; (try go_bits); exact Yld.mk _ _)
  simp only [qz]
  refine rf_field (n := 0) (j := 0) rfl rfl rfl Try.underlying131 rfl (by kernel_rfl) rfl ?_
  simp only [qz]
  refine rf_load rfl rfl rfl Try.underlying129 rfl (fun w hw => (Kn.hd0 hw).at rfl) ?_
  simp only [qz]
  refine rg_moveP ?_
  simp only [qz]
  refine rf_indexS (n := p) (sz := 1) (j := p) rfl rfl rfl rfl Try.underlying129 (by kernel_rfl) (by omega) (by omega) (by omega) ?_
  simp only [qz]
  refine rf_load (v := .slice (some ⟨b, 0, none⟩) N c) rfl rfl rfl Try.underlying36 rfl (fun w hw => Kn.outer (Kn.tl hw) (at_oneP hA)) ?_
  simp only [qz]
  refine rf_indexS (n := p) (sz := 1) (j := p) rfl rfl rfl rfl Try.underlying129 (by kernel_rfl) (by omega) (by omega) (by omega) ?_
  simp only [qz]
  have hs1 := go_sz (N := N) (ro := ro) (i := p) (rs := A ++ ⟨b, c, l, r⟩ :: ⟨b1, c1, l1, r1⟩ :: C) (by omega) (.slice (some ⟨b1, 0, none⟩) N c1)
  refine rf_storeM rfl rfl (by kernel_rfl) rfl rfl (UpdR.there _ (UpdR.here _ _ _ hs1)) (sc _ (sk _ (List.Sublist.append_left (List.Sublist.append_left sn _) _))) ?_
  simp only [qz]
  refine rf_indexS (n := p + 1) (sz := 1) (j := p + 1) rfl rfl rfl rfl Try.underlying129 (by kernel_rfl) (by omega) (by omega) (by omega) ?_
  simp only [qz]
  have hs2 := go_sz2 (N := N) (ro := ro) (i := p + 1) (j := p) (rs := A ++ ⟨b, c, l, r⟩ :: ⟨b1, c1, l1, r1⟩ :: C) (by omega) (.slice (some ⟨b, 0, none⟩) N c) (.slice (some ⟨b1, 0, none⟩) N c1)
  refine rf_store rfl rfl (by kernel_rfl) rfl rfl (UpdR.there _ (UpdR.here _ _ _ hs2)) (fun _ h => by cases h; exact (sc _ (sk _ (List.Sublist.append_left (List.Sublist.append_left sn _) _)))) ?_
  simp only [qz]
  rw [cross_set hA]
  refine rg_nil (ek_next ?_)
  refine wk_region [0, 0, 0, 0, 0, 0, 0, 0, 1, 1, 0, 0, 1] rfl (by kernel_rfl) ?_
  simp only [qy]
  refine rg_move ?_
  simp only [qz]
  refine rg_move ?_
  simp only [qz]
  apply rg_soft
  case hy => (intro w hw; go_simp; (try go_bits); exact Yld.mk _ _)
  simp only [qz]
  refine rf_field (n := 0) (j := 1) rfl rfl rfl Try.underlying131 rfl (by kernel_rfl) rfl ?_
  simp only [qz]
  refine rf_load rfl rfl rfl Try.underlying32 rfl (fun w hw => (Kn.hd0 hw).at rfl) ?_
  simp only [qz]
  refine rg_move ?_
  simp only [qz]
  refine rf_add rfl rfl rfl rfl (wrap_ok (by omega) (by omega)) ?_
  simp only [qz]
  refine rf_build (cs := fun a => #[a.eval (.const (.int .i64 3)), a.eval (.tmp 38), .int .i64 0, .string ⟨#[]⟩]) rfl rfl (by kernel_rfl) ?_
  simp only [qz]
  refine rg_newS (cs := ?_) (ty := ?_) (n := 1) (c := 1) (by rfl) (fun w => ?_) (fun _ h => by cases h) (fun g1 => ?_); rotate_left 2
  focus (go_simp; rfl)
  simp only [qz]
  refine rg_appendT (xs := L) (x := cross p) (by rfl) rfl hO rfl (by omega) ((((((((((List.Perm.refl _).append_left _).trans (List.perm_append_comm_assoc (rwB (A ++ ⟨b, c, l, r⟩ :: ⟨b1, c1, l1, r1⟩ :: C)) u _)).cons _).trans (List.perm_middle (l₁ := u)).symm).cons _).trans (List.perm_middle (l₁ := u)).symm).cons _).trans (List.perm_middle (l₁ := u)).symm).trans ((List.Perm.refl _).append_left _)) (fun w hw => Kn.hd0 hw) (fun _ h => by cases h) (fun uQ vQ hOQ => ?_)
  obtain ⟨aQ, cQ, rfl, -⟩ := Own.val hOQ
  simp only [qz]
  apply rg_soft
  case hy => (intro w hw; go_simp; (try go_bits); exact Yld.mk _ _)
  simp only [qz]
  refine rf_field (n := 0) (j := 1) rfl rfl rfl Try.underlying131 rfl (by kernel_rfl) rfl ?_
  simp only [qz]
  refine rf_store rfl rfl (by kernel_rfl) rfl rfl (UpdR.app _ (UpdR.there _ (UpdR.here _ _ _ (Nat.le_of_ble_eq_true rfl)))) (fun _ h => by cases h) ?_
  simp only [qz]
  refine rg_nil ?_
  refine ek_perm ((((((List.Perm.refl _).cons _).trans (List.Perm.swap _ _ _)).append_left _).trans (List.perm_middle (l₁ := uQ))).trans (((((((List.Perm.refl _).cons _).trans (List.Perm.swap _ _ _)).append_left _).trans (List.perm_middle (l₁ := uQ))).trans (((((((List.Perm.refl _).cons _).trans (List.perm_middle (l₁ := (rwB (A ++ ⟨b, c, l, r⟩ :: ⟨b1, c1, l1, r1⟩ :: C)))).symm).append_left _).trans (List.perm_append_comm_assoc uQ (rwB (A ++ ⟨b, c, l, r⟩ :: ⟨b1, c1, l1, r1⟩ :: C)) _)).trans ((List.Perm.refl _).append_left _)).cons _)).cons _)) ?_
  refine ek_sub (sc _ (sc _ (List.Sublist.append_left (List.Sublist.append_left (sk _ sn) _) _))) ?_
  refine ek_norm (fun w hw => ⟨rfl, _, res_0 rfl, ?_⟩)
  (try simp only [qz])
  have hW := WS.crossed (gw := gw) (go := go) (oc := oc) (ro := ro) (z := z) (L := L ++ [cross p]) (ia := aQ) (ic := cQ) (u := uQ) hA hrl hp hoc hlen hval hOQ hok
  exact ⟨(by first | rfl | trivial), _, hw.perm (((rw_swap.append_right _).cons _).cons _), hW⟩

set_option maxRecDepth 100000 in
set_option maxHeartbeats 1000000 in
theorem wphase_any (N p gw : Nat) (z : Zt) (L : List It) (s : List Blk) (hS : WS N gw z L s) (hN : N ≤ 6) (hL : L.length ≤ 100000) (hp : p < N) (n : Int) (m : Nat) (hm : n % 8 = (m : Int)) (w : World) (hK : Kn w (s.map (·.1)) s w) : Calls Try.prog 160 #[.pointer (some ⟨gw, 0, none⟩), .int .i64 (p : Int), .int .i64 n] w fun e w' => e = .returned (.tuple #[]) ∧ ∃ s', Kn w (s.map (·.1)) s' w' ∧ WS N gw (phZ p m z) (if m = 0 then L else L ++ [phsI ((p : Int) + 1) m]) s' := by
  obtain ⟨go, oc, ro, rs, ia, ic, u, rfl, hrl, hoc, hlen, hval, hO, hok⟩ := hS
  obtain ⟨A, b, c, l, r, C, rfl, hA⟩ := split1 (p := p) (rs := rs) (by omega)
  have hll : l.length = N := hlen ⟨b, c, l, r⟩ (by simp)
  rw [rw_one, List.append_assoc, List.cons_append] at hK ⊢
  go_enter Try.func160, Try.ntmps160
  refine wk_startF hK ?_
  refine wk_seq (wk_seq ?_)
  refine wk_region [0, 0, 0] rfl (by kernel_rfl) ?_
  simp only [qy]
  refine rg_move ?_
  simp only [qz]
  refine rf_and (r := (m : Int)) rfl rfl rfl rfl ((and7 n).trans hm) ?_
  simp only [qz]
  refine rg_assign ?_
  simp only [qz]
  refine rg_nil (ek_next (wk_seq ?_))
  refine wk_region [0, 0] rfl (by kernel_rfl) ?_
  simp only [qy]
  refine rg_move ?_
  simp only [qz]
  refine rfb_eql rfl rfl rfl rfl ?_
  intro x h1
  cases x
  · (try simp only [qd, ne_eq] at h1)
    simp only [qz]
    refine rg_nil (ek_next (wk_cond_f rfl (wk_skip (ek_next (wk_seq (wk_seq ?_))))))
    refine wk_region [0, 0, 0, 0, 0, 0, 0, 0, 0] rfl (by kernel_rfl) ?_
    simp only [qy]
    refine rg_move ?_
    simp only [qz]
    apply rg_soft
    case hy => (intro w hw; go_simp; (try go_bits); exact Yld.mk _ _)
    simp only [qz]
    refine rf_field (n := 0) (j := 0) rfl rfl rfl Try.underlying131 rfl (by kernel_rfl) rfl ?_
    simp only [qz]
    refine rf_load rfl rfl rfl Try.underlying129 rfl (fun w hw => (Kn.hd0 hw).at rfl) ?_
    simp only [qz]
    refine rg_move ?_
    simp only [qz]
    refine rf_indexS (n := p) (sz := 1) (j := p) rfl rfl rfl rfl Try.underlying129 (by kernel_rfl) (by omega) (by omega) (by omega) ?_
    simp only [qz]
    refine rf_load (v := .slice (some ⟨b, 0, none⟩) N c) rfl rfl rfl Try.underlying36 rfl (fun w hw => Kn.outer (Kn.tl hw) (at_oneP hA)) ?_
    simp only [qz]
    refine rf_len rfl rfl rfl Try.underlying36 ?_
    simp only [qz]
    refine rg_move ?_
    simp only [qz]
    refine rg_nil (ek_next (wk_block ?_))
    refine wk_loopF [6, 7, 20, 21, 22, 23, 24, 25, 26, 27, 28, 29, 30, 31, 32, 33, 34, 35, 36, 37, 38, 39, 40] (fun mz f s => ∃ (k : Nat), f 20 = .int .i64 k ∧ s = ((gw, .cells #[.slice (some ⟨go, 0, none⟩) N oc, .slice ia L.length ic] 131) :: ((go, .cells (rwV N (A ++ ⟨b, c, l, r⟩ :: C) ++ ro).toArray 36) :: (rwB A ++ ((b, .cells (NmE.flat (wrS l (fun k => turnM m (z p k)) k) ++ r).toArray 45) :: (rwB C ++ (u ++ [])))))) ∧ mz = N - k ∧ k ≤ N) ((fun (k : Nat) => N - k) (0)) ?_ (by kernel_rfl) ?_
    · exact ⟨0, rfl, (by rw [wrS_zero]), rfl, by omega⟩
    rintro mz f1 s ⟨k, hs1_20, rfl, hn, hc1⟩
    simp only [Act.putF, List.foldl_cons, List.foldl_nil, hs1_20, Act.put, Act.eval, q1, q2, q3, q4, q5, q6, q7, q8, q9, q10, q11, q12, q13, q14, q15, q16, q17, q18, Nat.reduceAdd, Bool.not_true, Bool.not_false]
    clear hs1_20
    refine wk_seq ?_
    refine wk_region [0] rfl (by kernel_rfl) ?_
    simp only [qy]
    refine rfb_lss rfl rfl rfl rfl ?_
    intro x h2
    cases x
    · (try simp only [qd, ne_eq] at h2)
      simp only [qz]
      refine rg_nil (ek_next (wk_seq (wk_cond_f rfl (wk_exit (ek_then_exit (ek_then_exit (ek_block_exit (ek_next ?_))))))))
      refine wk_region [0, 0, 0, 0, 0, 0, 0, 0, 0, 1, 1, 0, 0, 1] rfl (by kernel_rfl) ?_
      simp only [qy]
      refine rg_move ?_
      simp only [qz]
      refine rg_move ?_
      simp only [qz]
      apply rg_soft
      case hy => (intro w hw; go_simp; (try go_bits); exact Yld.mk _ _)
      simp only [qz]
      refine rf_field (n := 0) (j := 1) rfl rfl rfl Try.underlying131 rfl (by kernel_rfl) rfl ?_
      simp only [qz]
      refine rf_load rfl rfl rfl Try.underlying32 rfl (fun w hw => (Kn.hd0 hw).at rfl) ?_
      simp only [qz]
      refine rg_move ?_
      simp only [qz]
      refine rf_add rfl rfl rfl rfl (wrap_ok (by omega) (by omega)) ?_
      simp only [qz]
      refine rg_move ?_
      simp only [qz]
      refine rf_build (cs := fun a => #[a.eval (.const (.int .i64 1)), a.eval (.tmp 47), a.eval (.tmp 48), .string ⟨#[]⟩]) rfl rfl (by kernel_rfl) ?_
      simp only [qz]
      refine rg_newS (cs := ?_) (ty := ?_) (n := 1) (c := 1) (by rfl) (fun w => ?_) (fun _ h => by cases h) (fun g1 => ?_); rotate_left 2
      focus (go_simp; rfl)
      simp only [qz]
      refine rg_appendT (xs := L) (x := phsI ((p : Int) + 1) m) (by rfl) rfl hO rfl (by omega) ((((((((((((((List.Perm.refl _).append_left _).trans (List.perm_append_comm_assoc (rwB C) u _)).cons _).trans (List.perm_middle (l₁ := u)).symm).append_left _).trans (List.perm_append_comm_assoc (rwB A) u _)).cons _).trans (List.perm_middle (l₁ := u)).symm).cons _).trans (List.perm_middle (l₁ := u)).symm).cons _).trans (List.perm_middle (l₁ := u)).symm).trans ((List.Perm.refl _).append_left _)) (fun w hw => Kn.hd0 hw) (fun _ h => by cases h) (fun uQ vQ hOQ => ?_)
      obtain ⟨aQ, cQ, rfl, -⟩ := Own.val hOQ
      simp only [qz]
      apply rg_soft
      case hy => (intro w hw; go_simp; (try go_bits); exact Yld.mk _ _)
      simp only [qz]
      refine rf_field (n := 0) (j := 1) rfl rfl rfl Try.underlying131 rfl (by kernel_rfl) rfl ?_
      simp only [qz]
      refine rf_store rfl rfl (by kernel_rfl) rfl rfl (UpdR.app _ (UpdR.there _ (UpdR.here _ _ _ (Nat.le_of_ble_eq_true rfl)))) (fun _ h => by cases h) ?_
      simp only [qz]
      refine rg_nil ?_
      refine ek_perm ((((((List.Perm.refl _).cons _).trans (List.Perm.swap _ _ _)).append_left _).trans (List.perm_middle (l₁ := uQ))).trans (((((((List.Perm.refl _).cons _).trans (List.Perm.swap _ _ _)).append_left _).trans (List.perm_middle (l₁ := uQ))).trans (((((((List.Perm.refl _).cons _).trans (List.perm_middle (l₁ := (rwB A))).symm).append_left _).trans (List.perm_append_comm_assoc uQ (rwB A) _)).trans (((((((List.Perm.refl _).cons _).trans (List.Perm.swap _ _ _)).append_left _).trans (List.perm_middle (l₁ := uQ))).trans (((((((List.Perm.refl _).cons _).trans (List.perm_middle (l₁ := (rwB C))).symm).append_left _).trans (List.perm_append_comm_assoc uQ (rwB C) _)).trans ((List.Perm.refl _).append_left _)).cons _)).append_left _)).cons _)).cons _)) ?_
      refine ek_sub (sc _ (sc _ (List.Sublist.append_left (sc _ (List.Sublist.append_left (List.Sublist.append_left (sk _ sn) _) _)) _))) ?_
      refine ek_norm (fun w hw => ⟨rfl, _, res_0 rfl, ?_⟩)
      (try simp only [qz])
      obtain rfl : k = N := by omega
      rw [if_neg (by omega)]
      have hW := WS.wrote (gw := gw) (go := go) (oc := oc) (ro := ro) (z := z) (z' := phZ p m z) (L := L ++ [phsI ((p : Int) + 1) m]) (ia := aQ) (ic := cQ) (u := uQ) (f := (fun k => turnM m (z p k))) hA hrl hoc hlen hval hOQ (fun i k' hi hk' => by unfold phZ; split; exact turnM_ok (hok i k' hi hk') m; exact hok i k' hi hk') (fun k' hk' => (if_pos rfl).symm) (fun i k' hi _ _ => if_neg hi)
      exact ⟨(by first | rfl | trivial), _, hw, hW⟩
    (try simp only [qd, ne_eq] at h2)
    simp only [qz]
    refine rg_nil (ek_next (wk_seq (wk_cond_t rfl (wk_skip (ek_next (wk_seq (wk_block (wk_seq ?_))))))))
    have hkN : k < N := by omega
    have hkl : k < l.length := by rw [hll]; exact hkN
    have hzk : nm (wrS l (fun k => turnM m (z p k)) k) k = z p k := by rw [wrS_nm hkl, if_neg (by omega)]; exact hval p ⟨b, c, l, r⟩ (at_oneP hA) k hkN
    have hok1 := hok p k (by omega) hkN
    refine wk_region [0, 0, 0, 1, 0, 1] rfl (by kernel_rfl) ?_
    simp only [qy]
    refine rg_move ?_
    simp only [qz]
    refine rf_indexS (n := k) (sz := 5) (j := 0 + k * 5) rfl rfl rfl rfl Try.underlying36 (by kernel_rfl) (by omega) (by omega) rfl ?_
    simp only [qz]
    refine rf_loadC (n := 5) (vs := [.int .i64 (z p k).a, .int .i64 (z p k).b, .int .i64 (z p k).c, .int .i64 (z p k).d, .int .i64 (z p k).k]) rfl rfl rfl Try.underlying45 rfl (by kernel_rfl) rfl (fun w hw => atN_range (by have := nm_hd (Kn.hd0 (Kn.tlU (Kn.tl (Kn.tl hw)))) (k := k) (by rw [wrS_len]; omega); rw [hzk] at this; exact this)) ?_
    simp only [qz]
    refine rg_new (cs := ?_) (ty := ?_) (by rfl) (fun w => ?_) (fun _ h => by cases h) (fun g2 => ?_); rotate_left 2
    focus (go_simp; rfl)
    simp only [qz]
    refine rg_assign ?_
    simp only [qz]
    refine rf_storeR (n := 5) rfl rfl (by kernel_rfl) rfl rfl (UpdR.here _ _ _ (Nat.le_of_ble_eq_true rfl)) (fun _ h => by cases h) ?_
    simp only [qz, Nat.reduceAdd]
    refine rg_nil (ek_next ?_)
    refine wk_draws_m (hz1 := (sc _ (sc _ (sc _ (List.Sublist.append_left (sk _ (List.Sublist.append_left (List.Sublist.append_left sn _) _)) _))))) [(0, 0), (1, 0), (2, 0), (3, 0), (4, 0), (5, 0), (6, 0), (7, 0), (8, 0), (9, 0), (10, 1), (11, 0), (12, 0), (13, 1), (14, 0), (15, 2)] 15 (by kernel_rfl) (by kernel_rfl) (fun c d v a w h => by cases d <;> exact h) ?_
    simp only [List.map_cons, List.map_nil, List.getD_cons_zero, List.getD_cons_succ]
    refine rg_move ?_
    simp only [qz]
    apply rg_soft
    case hy => (intro w hw; go_simp; (try go_bits); exact Yld.mk _ _)
    simp only [qz]
    refine rf_field (n := 0) (j := 0) rfl rfl rfl Try.underlying131 rfl (by kernel_rfl) rfl ?_
    simp only [qz]
    refine rf_load rfl rfl rfl Try.underlying129 rfl (fun w hw => (Kn.hd0 (Kn.tl hw)).at rfl) ?_
    simp only [qz]
    refine rg_move ?_
    simp only [qz]
    refine rf_indexS (n := p) (sz := 1) (j := p) rfl rfl rfl rfl Try.underlying129 (by kernel_rfl) (by omega) (by omega) (by omega) ?_
    simp only [qz]
    refine rf_load (v := .slice (some ⟨b, 0, none⟩) N c) rfl rfl rfl Try.underlying36 rfl (fun w hw => Kn.outer (Kn.tl (Kn.tl hw)) (at_oneP hA)) ?_
    simp only [qz]
    refine rg_move ?_
    simp only [qz]
    refine rf_loadR (n := 5) rfl rfl rfl Try.underlying45 rfl (by kernel_rfl) (fun w hw => Kn.hd0 hw) rfl rfl ?_
    simp only [qz]
    refine rg_move ?_
    simp only [qz]
    apply rg_pure (by rfl) (by kernel_rfl)
    case hargs => (simp only [qm, qs, Act.eval]; exact rfl)
    case h => exact fun w hw => amTurnM (z p k) m (by omega) hok1 w
    case hz => exact (fun _ h => by cases h; exact (sc _ (sc _ (sc _ (List.Sublist.append_left (sc _ (List.Sublist.append_left (List.Sublist.append_left sn _) _)) _)))))
    simp only [qz]
    refine rf_extract rfl rfl rfl rfl ?_
    simp only [qz]
    refine rf_extract rfl rfl rfl rfl ?_
    simp only [qz]
    apply rg_pure (by rfl) (by kernel_rfl)
    case hargs => (simp only [qm, qs, Act.eval]; exact rfl)
    case h => exact fun w hw => must_any (turnM m (z p k)) 0 w
    case hz => exact (fun _ h => by cases h; exact (sc _ (sc _ (sc _ (List.Sublist.append_left (sc _ (List.Sublist.append_left (List.Sublist.append_left sn _) _)) _)))))
    simp only [qz]
    refine rf_indexS (n := k) (sz := 5) (j := 0 + k * 5) rfl rfl rfl rfl Try.underlying36 (by kernel_rfl) (by omega) (by omega) rfl ?_
    simp only [qz]
    have hszb := nm_szM (wrS l (fun k => turnM m (z p k)) k) k (turnM m (z p k)) r (by rw [wrS_len]; exact hkl)
    refine rf_storeRM (n := 5) (vs := nmC (turnM m (z p k))) rfl rfl (by kernel_rfl) rfl rfl (UpdR.there _ (UpdR.there _ (UpdR.there _ (UpdR.app _ (UpdR.here _ _ _ hszb))))) (sc _ (sc _ (sc _ (List.Sublist.append_left (sk _ (List.Sublist.append_left (List.Sublist.append_left sn _) _)) _)))) ?_
    rw [nm_flM (wrS l (fun k => turnM m (z p k)) k) k (turnM m (z p k)) r (by rw [wrS_len]; exact hkl), wrS_set (f := (fun k => turnM m (z p k))) hkl]
    simp only [qz]
    refine rg_nil (ek_block (ek_next ?_))
    refine wk_region [0, 0] rfl (by kernel_rfl) ?_
    simp only [qy]
    refine rf_add rfl rfl rfl rfl (wrap_ok (by omega) (by omega)) ?_
    simp only [qz]
    refine rg_move ?_
    simp only [qz]
    refine rg_nil ?_
    refine ek_sub (sk _ (sc _ (sc _ (List.Sublist.append_left (sc _ (List.Sublist.append_left (List.Sublist.append_left sn _) _)) _)))) ?_
    refine ek_roundF (N - (k + 1)) (by omega) (by kernel_rfl) ?_
    exact ⟨k + 1, rfl, by rfl, by rfl, by omega⟩
  (try simp only [qd, ne_eq] at h1)
  simp only [qz]
  refine rg_nil (ek_next (wk_cond_t rfl (wk_ret (ek_then_ret ?_))))
  refine ek_ret (fun w hw => ⟨rfl, _, res_0 rfl, ?_⟩)
  (try simp only [qz])
  obtain rfl : m = 0 := by omega
  rw [if_pos rfl]
  refine ⟨(by first | rfl | trivial), _, hw, go, oc, ro, _, ia, ic, u, (by rw [rw_one, List.append_assoc, List.cons_append]), hrl, hoc, hlen, fun i q hq k hk => (hval i q hq k hk).trans (by unfold phZ; split <;> rfl), hO, fun i k hi hk => by unfold phZ; split; exact hok i k hi hk; exact hok i k hi hk⟩

end Go.Proofs.Ytccbinnlnkpplaa
namespace Go.Proofs.Ytccbinnlnkpplaa
set_option linter.all false
open Go.RowKit

set_option maxRecDepth 100000 in
set_option maxHeartbeats 1000000 in
theorem wcouple_any (N p gw : Nat) (z : Zt) (L : List It) (s : List Blk) (hS : WS N gw z L s) (hN : N ≤ 6) (hL : L.length ≤ 100000) (hp : p + 1 < N) (w : World) (hK : Kn w (s.map (·.1)) s w) : Calls Try.prog 192 #[.pointer (some ⟨gw, 0, none⟩), .int .i64 (p : Int)] w fun e w' => e = .returned (.tuple #[]) ∧ ∃ s', Kn w (s.map (·.1)) s' w' ∧ WS N gw (cpZ p z) (L ++ [cplI ((p : Int) + 1)]) s' := by
  obtain ⟨go, oc, ro, rs, ia, ic, u, rfl, hrl, hoc, hlen, hval, hO, hok⟩ := hS
  obtain ⟨A, b, c, l, r, b1, c1, l1, r1, C, rfl, hA⟩ := split2 (p := p) (rs := rs) (by omega)
  have hll : l.length = N := hlen ⟨b, c, l, r⟩ (by simp)
  have hll1 : l1.length = N := hlen ⟨b1, c1, l1, r1⟩ (by simp)
  rw [rw_two, List.append_assoc, List.cons_append, List.cons_append] at hK ⊢
  go_enter Try.func192, Try.ntmps192
  refine wk_startF hK ?_
  refine wk_seq (wk_seq ?_)
  refine wk_region [0, 0, 0, 0, 0, 0, 0, 0, 0] rfl (by kernel_rfl) ?_
  simp only [qy]
  refine rg_move ?_
  simp only [qz]
  apply rg_soft
  case hy => (intro w hw; go_simp; (try go_bits); exact Yld.mk _ _)
  simp only [qz]
  refine rf_field (n := 0) (j := 0) rfl rfl rfl Try.underlying131 rfl (by kernel_rfl) rfl ?_
  simp only [qz]
  refine rf_load rfl rfl rfl Try.underlying129 rfl (fun w hw => (Kn.hd0 hw).at rfl) ?_
  simp only [qz]
  refine rg_move ?_
  simp only [qz]
  refine rf_indexS (n := p) (sz := 1) (j := p) rfl rfl rfl rfl Try.underlying129 (by kernel_rfl) (by omega) (by omega) (by omega) ?_
  simp only [qz]
  refine rf_load (v := .slice (some ⟨b, 0, none⟩) N c) rfl rfl rfl Try.underlying36 rfl (fun w hw => Kn.outer (Kn.tl hw) (at_oneP hA)) ?_
  simp only [qz]
  refine rf_len rfl rfl rfl Try.underlying36 ?_
  simp only [qz]
  refine rg_move ?_
  simp only [qz]
  refine rg_nil (ek_next (wk_block ?_))
  refine wk_loopF [4, 5, 6, 15, 16, 17, 18, 19, 20, 21, 22, 23, 24, 25, 26, 27, 28, 29, 30, 31, 32, 33, 34, 35, 36, 37, 38, 39, 40, 41, 42, 43, 44, 45, 46, 47, 48, 49, 50, 51, 52, 53, 54, 55, 56, 57, 58, 59, 60, 61, 62, 63, 64, 65, 66, 67, 68, 69, 70, 71, 72, 73, 74, 75, 76, 77, 78] (fun mz f s => ∃ (k : Nat), f 15 = .int .i64 k ∧ s = ((gw, .cells #[.slice (some ⟨go, 0, none⟩) N oc, .slice ia L.length ic] 131) :: ((go, .cells (rwV N (A ++ ⟨b, c, l, r⟩ :: ⟨b1, c1, l1, r1⟩ :: C) ++ ro).toArray 36) :: (rwB A ++ ((b, .cells (NmE.flat (wrS l (fun k => cX (z p k) (z (p + 1) k)) k) ++ r).toArray 45) :: ((b1, .cells (NmE.flat (wrS l1 (fun k => cY (z p k) (z (p + 1) k)) k) ++ r1).toArray 45) :: (rwB C ++ (u ++ []))))))) ∧ mz = N - k ∧ k ≤ N) ((fun (k : Nat) => N - k) (0)) ?_ (by kernel_rfl) ?_
  · exact ⟨0, rfl, (by rw [wrS_zero, wrS_zero]), rfl, by omega⟩
  rintro mz f1 s ⟨k, hs1_15, rfl, hn, hc1⟩
  simp only [Act.putF, List.foldl_cons, List.foldl_nil, hs1_15, Act.put, Act.eval, q1, q2, q3, q4, q5, q6, q7, q8, q9, q10, q11, q12, q13, q14, q15, q16, q17, q18, Nat.reduceAdd, Bool.not_true, Bool.not_false]
  clear hs1_15
  refine wk_seq ?_
  refine wk_region [0] rfl (by kernel_rfl) ?_
  simp only [qy]
  refine rfb_lss rfl rfl rfl rfl ?_
  intro x h1
  cases x
  · (try simp only [qd, ne_eq] at h1)
    simp only [qz]
    refine rg_nil (ek_next (wk_seq (wk_cond_f rfl (wk_exit (ek_then_exit (ek_then_exit (ek_block_exit (ek_next ?_))))))))
    refine wk_region [0, 0, 0, 0, 0, 0, 0, 0, 1, 1, 0, 0, 1] rfl (by kernel_rfl) ?_
    simp only [qy]
    refine rg_move ?_
    simp only [qz]
    refine rg_move ?_
    simp only [qz]
    apply rg_soft
    case hy => (intro w hw; go_simp; (try go_bits); exact Yld.mk _ _)
    simp only [qz]
    refine rf_field (n := 0) (j := 1) rfl rfl rfl Try.underlying131 rfl (by kernel_rfl) rfl ?_
    simp only [qz]
    refine rf_load rfl rfl rfl Try.underlying32 rfl (fun w hw => (Kn.hd0 hw).at rfl) ?_
    simp only [qz]
    refine rg_move ?_
    simp only [qz]
    refine rf_add rfl rfl rfl rfl (wrap_ok (by omega) (by omega)) ?_
    simp only [qz]
    refine rf_build (cs := fun a => #[a.eval (.const (.int .i64 2)), a.eval (.tmp 85), .int .i64 0, .string ⟨#[]⟩]) rfl rfl (by kernel_rfl) ?_
    simp only [qz]
    refine rg_newS (cs := ?_) (ty := ?_) (n := 1) (c := 1) (by rfl) (fun w => ?_) (fun _ h => by cases h) (fun g1 => ?_); rotate_left 2
    focus (go_simp; rfl)
    simp only [qz]
    refine rg_appendT (xs := L) (x := cplI ((p : Int) + 1)) (by rfl) rfl hO rfl (by omega) ((((((((((((((((List.Perm.refl _).append_left _).trans (List.perm_append_comm_assoc (rwB C) u _)).cons _).trans (List.perm_middle (l₁ := u)).symm).cons _).trans (List.perm_middle (l₁ := u)).symm).append_left _).trans (List.perm_append_comm_assoc (rwB A) u _)).cons _).trans (List.perm_middle (l₁ := u)).symm).cons _).trans (List.perm_middle (l₁ := u)).symm).cons _).trans (List.perm_middle (l₁ := u)).symm).trans ((List.Perm.refl _).append_left _)) (fun w hw => Kn.hd0 hw) (fun _ h => by cases h) (fun uQ vQ hOQ => ?_)
    obtain ⟨aQ, cQ, rfl, -⟩ := Own.val hOQ
    simp only [qz]
    apply rg_soft
    case hy => (intro w hw; go_simp; (try go_bits); exact Yld.mk _ _)
    simp only [qz]
    refine rf_field (n := 0) (j := 1) rfl rfl rfl Try.underlying131 rfl (by kernel_rfl) rfl ?_
    simp only [qz]
    refine rf_store rfl rfl (by kernel_rfl) rfl rfl (UpdR.app _ (UpdR.there _ (UpdR.here _ _ _ (Nat.le_of_ble_eq_true rfl)))) (fun _ h => by cases h) ?_
    simp only [qz]
    refine rg_nil ?_
    refine ek_perm ((((((List.Perm.refl _).cons _).trans (List.Perm.swap _ _ _)).append_left _).trans (List.perm_middle (l₁ := uQ))).trans (((((((List.Perm.refl _).cons _).trans (List.Perm.swap _ _ _)).append_left _).trans (List.perm_middle (l₁ := uQ))).trans (((((((List.Perm.refl _).cons _).trans (List.perm_middle (l₁ := (rwB A))).symm).append_left _).trans (List.perm_append_comm_assoc uQ (rwB A) _)).trans (((((((List.Perm.refl _).cons _).trans (List.Perm.swap _ _ _)).append_left _).trans (List.perm_middle (l₁ := uQ))).trans (((((((List.Perm.refl _).cons _).trans (List.Perm.swap _ _ _)).append_left _).trans (List.perm_middle (l₁ := uQ))).trans (((((((List.Perm.refl _).cons _).trans (List.perm_middle (l₁ := (rwB C))).symm).append_left _).trans (List.perm_append_comm_assoc uQ (rwB C) _)).trans ((List.Perm.refl _).append_left _)).cons _)).cons _)).append_left _)).cons _)).cons _)) ?_
    refine ek_sub (sc _ (sc _ (List.Sublist.append_left (sc _ (sc _ (List.Sublist.append_left (List.Sublist.append_left (sk _ sn) _) _))) _))) ?_
    refine ek_norm (fun w hw => ⟨rfl, _, res_0 rfl, ?_⟩)
    (try simp only [qz])
    obtain rfl : k = N := by omega
    have hW := WS.wrote2 (gw := gw) (go := go) (oc := oc) (ro := ro) (z := z) (z' := cpZ p z) (L := L ++ [cplI ((p : Int) + 1)]) (ia := aQ) (ic := cQ) (u := uQ) (f := (fun k => cX (z p k) (z (p + 1) k))) (g := (fun k => cY (z p k) (z (p + 1) k))) hA hrl hoc hlen hval hOQ (fun i k' hi hk' => by unfold cpZ; split; exact (cX_ok (hok p k' (by omega) hk') (hok (p + 1) k' hp hk')).2; split; exact (cY_ok (hok p k' (by omega) hk') (hok (p + 1) k' hp hk')).2; exact hok i k' hi hk') (fun k' hk' => (if_pos rfl).symm) (fun k' hk' => by unfold cpZ; rw [if_neg (by omega), if_pos rfl]) (fun i k' h1 h2 _ _ => by unfold cpZ; rw [if_neg h1, if_neg h2])
    exact ⟨(by first | rfl | trivial), _, hw, hW⟩
  (try simp only [qd, ne_eq] at h1)
  simp only [qz]
  refine rg_nil (ek_next (wk_seq (wk_cond_t rfl (wk_skip (ek_next (wk_seq (wk_block (wk_seq ?_))))))))
  have hkN : k < N := by omega
  have hkl : k < l.length := by rw [hll]; exact hkN
  have hkl1 : k < l1.length := by rw [hll1]; exact hkN
  have hzk : nm (wrS l (fun k => cX (z p k) (z (p + 1) k)) k) k = z p k := by rw [wrS_nm hkl, if_neg (by omega)]; exact hval p ⟨b, c, l, r⟩ (at_oneP hA) k hkN
  have hzk1 : nm (wrS l1 (fun k => cY (z p k) (z (p + 1) k)) k) k = z (p + 1) k := by rw [wrS_nm hkl1, if_neg (by omega)]; exact hval (p + 1) ⟨b1, c1, l1, r1⟩ (at_twoP hA) k hkN
  have hok1 := hok p k (by omega) hkN
  have hok2 := hok (p + 1) k hp hkN
  have hcx := cX_ok hok1 hok2
  have hcy := cY_ok hok1 hok2
  refine wk_region [0, 0, 0, 1, 0, 1] rfl (by kernel_rfl) ?_
  simp only [qy]
  refine rg_move ?_
  simp only [qz]
  refine rf_indexS (n := k) (sz := 5) (j := 0 + k * 5) rfl rfl rfl rfl Try.underlying36 (by kernel_rfl) (by omega) (by omega) rfl ?_
  simp only [qz]
  refine rf_loadC (n := 5) (vs := [.int .i64 (z p k).a, .int .i64 (z p k).b, .int .i64 (z p k).c, .int .i64 (z p k).d, .int .i64 (z p k).k]) rfl rfl rfl Try.underlying45 rfl (by kernel_rfl) rfl (fun w hw => atN_range (by have := nm_hd (Kn.hd0 (Kn.tlU (Kn.tl (Kn.tl hw)))) (k := k) (by rw [wrS_len]; omega); rw [hzk] at this; exact this)) ?_
  simp only [qz]
  refine rg_new (cs := ?_) (ty := ?_) (by rfl) (fun w => ?_) (fun _ h => by cases h) (fun g2 => ?_); rotate_left 2
  focus (go_simp; rfl)
  simp only [qz]
  refine rg_assign ?_
  simp only [qz]
  refine rf_storeR (n := 5) rfl rfl (by kernel_rfl) rfl rfl (UpdR.here _ _ _ (Nat.le_of_ble_eq_true rfl)) (fun _ h => by cases h) ?_
  simp only [qz, Nat.reduceAdd]
  refine rg_nil (ek_next (wk_seq ?_))
  refine wk_region [0, 0, 0, 0, 0, 0, 0, 0, 0, 0, 0, 1, 1] rfl (by kernel_rfl) ?_
  simp only [qy]
  refine rg_move ?_
  simp only [qz]
  apply rg_soft
  case hy => (intro w hw; go_simp; (try go_bits); exact Yld.mk _ _)
  simp only [qz]
  refine rf_field (n := 0) (j := 0) rfl rfl rfl Try.underlying131 rfl (by kernel_rfl) rfl ?_
  simp only [qz]
  refine rf_load rfl rfl rfl Try.underlying129 rfl (fun w hw => (Kn.hd0 (Kn.tl hw)).at rfl) ?_
  simp only [qz]
  refine rg_move ?_
  simp only [qz]
  refine rf_add rfl rfl rfl rfl (wrap_ok (by omega) (by omega)) ?_
  simp only [qz]
  refine rf_indexS (n := p + 1) (sz := 1) (j := p + 1) rfl rfl rfl rfl Try.underlying129 (by kernel_rfl) (by omega) (by omega) (by omega) ?_
  simp only [qz]
  refine rf_load (v := .slice (some ⟨b1, 0, none⟩) N c1) rfl rfl rfl Try.underlying36 rfl (fun w hw => Kn.outer (Kn.tl (Kn.tl hw)) (at_twoP hA)) ?_
  simp only [qz]
  refine rg_move ?_
  simp only [qz]
  refine rf_indexS (n := k) (sz := 5) (j := 0 + k * 5) rfl rfl rfl rfl Try.underlying36 (by kernel_rfl) (by omega) (by omega) rfl ?_
  simp only [qz]
  refine rf_loadC (n := 5) (vs := [.int .i64 (z (p + 1) k).a, .int .i64 (z (p + 1) k).b, .int .i64 (z (p + 1) k).c, .int .i64 (z (p + 1) k).d, .int .i64 (z (p + 1) k).k]) rfl rfl rfl Try.underlying45 rfl (by kernel_rfl) rfl (fun w hw => atN_range (by have := nm_hd (Kn.hd0 (Kn.tl (Kn.tlU (Kn.tl (Kn.tl (Kn.tl hw)))))) (k := k) (by rw [wrS_len]; omega); rw [hzk1] at this; exact this)) ?_
  simp only [qz]
  refine rg_new (cs := ?_) (ty := ?_) (by rfl) (fun w => ?_) (fun _ h => by cases h) (fun g3 => ?_); rotate_left 2
  focus (go_simp; rfl)
  simp only [qz]
  refine rf_storeR (n := 5) rfl rfl (by kernel_rfl) rfl rfl (UpdR.here _ _ _ (Nat.le_of_ble_eq_true rfl)) (fun _ h => by cases h) ?_
  simp only [qz, Nat.reduceAdd]
  refine rg_nil (ek_next (wk_seq ?_))
  refine wk_draws_m (hz1 := (sc _ (sc _ (sc _ (sc _ (List.Sublist.append_left (sk _ (sc _ (List.Sublist.append_left (List.Sublist.append_left sn _) _))) _)))))) [(0, 0), (1, 0), (2, 0), (3, 0), (4, 0), (5, 0), (6, 0), (7, 0), (8, 0), (9, 0), (10, 1), (11, 0), (12, 0), (13, 1), (14, 1), (15, 0), (16, 0), (17, 1), (18, 1), (19, 0), (20, 0), (21, 1), (22, 0), (23, 2)] 23 (by kernel_rfl) (by kernel_rfl) (fun c d v a w h => by cases d <;> exact h) ?_
  simp only [List.map_cons, List.map_nil, List.getD_cons_zero, List.getD_cons_succ]
  refine rg_move ?_
  simp only [qz]
  apply rg_soft
  case hy => (intro w hw; go_simp; (try go_bits); exact Yld.mk _ _)
  simp only [qz]
  refine rf_field (n := 0) (j := 0) rfl rfl rfl Try.underlying131 rfl (by kernel_rfl) rfl ?_
  simp only [qz]
  refine rf_load rfl rfl rfl Try.underlying129 rfl (fun w hw => (Kn.hd0 (Kn.tl (Kn.tl hw))).at rfl) ?_
  simp only [qz]
  refine rg_move ?_
  simp only [qz]
  refine rf_indexS (n := p) (sz := 1) (j := p) rfl rfl rfl rfl Try.underlying129 (by kernel_rfl) (by omega) (by omega) (by omega) ?_
  simp only [qz]
  refine rf_load (v := .slice (some ⟨b, 0, none⟩) N c) rfl rfl rfl Try.underlying36 rfl (fun w hw => Kn.outer (Kn.tl (Kn.tl (Kn.tl hw))) (at_oneP hA)) ?_
  simp only [qz]
  refine rg_move ?_
  simp only [qz]
  refine rf_loadR (n := 5) rfl rfl rfl Try.underlying45 rfl (by kernel_rfl) (fun w hw => Kn.hd0 (Kn.tl hw)) rfl rfl ?_
  simp only [qz]
  refine rf_loadR (n := 5) rfl rfl rfl Try.underlying45 rfl (by kernel_rfl) (fun w hw => Kn.hd0 hw) rfl rfl ?_
  simp only [qz]
  apply rg_pure (by rfl) (by kernel_rfl)
  case hargs => (simp only [qm, qs, Act.eval]; exact rfl)
  case h => exact fun w hw => amTurn2 (z (p + 1) k) hok2 w
  case hz => exact (fun _ h => by cases h; exact (sc _ (sc _ (sc _ (sc _ (List.Sublist.append_left (sc _ (sc _ (List.Sublist.append_left (List.Sublist.append_left sn _) _))) _))))))
  simp only [qz]
  refine rf_extract rfl rfl rfl rfl ?_
  simp only [qz]
  refine rf_extract rfl rfl rfl rfl ?_
  simp only [qz]
  apply rg_pure (by rfl) (by kernel_rfl)
  case hargs => (simp only [qm, qs, Act.eval]; exact rfl)
  case h => exact fun w hw => must_any (z (p + 1) k).rot.rot 0 w
  case hz => exact (fun _ h => by cases h; exact (sc _ (sc _ (sc _ (sc _ (List.Sublist.append_left (sc _ (sc _ (List.Sublist.append_left (List.Sublist.append_left sn _) _))) _))))))
  simp only [qz]
  apply rg_pure (by rfl) (by kernel_rfl)
  case hargs => (simp only [qm, qs, Act.eval]; exact rfl)
  case h => exact fun w hw => amAdd_mt (z p k) (z (p + 1) k).rot.rot hok1 (rot_ok (rot_ok hok2)) w
  case hz => exact (fun _ h => by cases h; exact (sc _ (sc _ (sc _ (sc _ (List.Sublist.append_left (sc _ (sc _ (List.Sublist.append_left (List.Sublist.append_left sn _) _))) _))))))
  simp only [qz]
  refine rf_extract rfl rfl rfl rfl ?_
  simp only [qz]
  refine rf_extract rfl rfl rfl rfl ?_
  simp only [qz]
  apply rg_pure (by rfl) (by kernel_rfl)
  case hargs => (simp only [qm, qs, Act.eval]; exact rfl)
  case h => exact fun w hw => must_any (mtR ((z p k).add (z (p + 1) k).rot.rot)) (errI ((z p k).add (z (p + 1) k).rot.rot)) w
  case hz => exact (fun _ h => by cases h; exact (sc _ (sc _ (sc _ (sc _ (List.Sublist.append_left (sc _ (sc _ (List.Sublist.append_left (List.Sublist.append_left sn _) _))) _))))))
  simp only [qz]
  apply rg_pure (by rfl) (by kernel_rfl)
  case hargs => (simp only [qm, qs, Act.eval]; exact rfl)
  case h => exact fun w hw => amHalve_mt (mtR ((z p k).add (z (p + 1) k).rot.rot)) hcx.1 w
  case hz => exact (fun _ h => by cases h; exact (sc _ (sc _ (sc _ (sc _ (List.Sublist.append_left (sc _ (sc _ (List.Sublist.append_left (List.Sublist.append_left sn _) _))) _))))))
  simp only [qz]
  refine rf_extract rfl rfl rfl rfl ?_
  simp only [qz]
  refine rf_extract rfl rfl rfl rfl ?_
  simp only [qz]
  apply rg_pure (by rfl) (by kernel_rfl)
  case hargs => (simp only [qm, qs, Act.eval]; exact rfl)
  case h => exact fun w hw => must_any (cX (z p k) (z (p + 1) k)) (errI ((mtR ((z p k).add (z (p + 1) k).rot.rot)).halve 1)) w
  case hz => exact (fun _ h => by cases h; exact (sc _ (sc _ (sc _ (sc _ (List.Sublist.append_left (sc _ (sc _ (List.Sublist.append_left (List.Sublist.append_left sn _) _))) _))))))
  simp only [qz]
  refine rf_indexS (n := k) (sz := 5) (j := 0 + k * 5) rfl rfl rfl rfl Try.underlying36 (by kernel_rfl) (by omega) (by omega) rfl ?_
  simp only [qz]
  have hszb := nm_szM (wrS l (fun k => cX (z p k) (z (p + 1) k)) k) k (cX (z p k) (z (p + 1) k)) r (by rw [wrS_len]; exact hkl)
  refine rf_storeRM (n := 5) (vs := nmC (cX (z p k) (z (p + 1) k))) rfl rfl (by kernel_rfl) rfl rfl (UpdR.there _ (UpdR.there _ (UpdR.there _ (UpdR.there _ (UpdR.app _ (UpdR.here _ _ _ hszb)))))) (sc _ (sc _ (sc _ (sc _ (List.Sublist.append_left (sk _ (sc _ (List.Sublist.append_left (List.Sublist.append_left sn _) _))) _))))) ?_
  rw [nm_flM (wrS l (fun k => cX (z p k) (z (p + 1) k)) k) k (cX (z p k) (z (p + 1) k)) r (by rw [wrS_len]; exact hkl), wrS_set (f := (fun k => cX (z p k) (z (p + 1) k))) hkl]
  simp only [qz]
  refine rg_nil (ek_next ?_)
  refine wk_draws_m (hz1 := (sc _ (sc _ (sc _ (sc _ (List.Sublist.append_left (sc _ (sk _ (List.Sublist.append_left (List.Sublist.append_left sn _) _))) _)))))) [(0, 0), (1, 0), (2, 0), (3, 0), (4, 0), (5, 0), (6, 0), (7, 0), (8, 0), (9, 0), (14, 0), (10, 1), (11, 0), (12, 0), (13, 1), (15, 1), (16, 0), (17, 0), (18, 1), (19, 1), (20, 0), (21, 0), (22, 1), (23, 0), (24, 2)] 24 (by kernel_rfl) (by kernel_rfl) (fun c d v a w h => by cases d <;> exact h) ?_
  simp only [List.map_cons, List.map_nil, List.getD_cons_zero, List.getD_cons_succ]
  refine rg_move ?_
  simp only [qz]
  apply rg_soft
  case hy => (intro w hw; go_simp; (try go_bits); exact Yld.mk _ _)
  simp only [qz]
  refine rf_field (n := 0) (j := 0) rfl rfl rfl Try.underlying131 rfl (by kernel_rfl) rfl ?_
  simp only [qz]
  refine rf_load rfl rfl rfl Try.underlying129 rfl (fun w hw => (Kn.hd0 (Kn.tl (Kn.tl hw))).at rfl) ?_
  simp only [qz]
  refine rg_move ?_
  simp only [qz]
  refine rf_add rfl rfl rfl rfl (wrap_ok (by omega) (by omega)) ?_
  simp only [qz]
  refine rf_indexS (n := p + 1) (sz := 1) (j := p + 1) rfl rfl rfl rfl Try.underlying129 (by kernel_rfl) (by omega) (by omega) (by omega) ?_
  simp only [qz]
  refine rf_load (v := .slice (some ⟨b1, 0, none⟩) N c1) rfl rfl rfl Try.underlying36 rfl (fun w hw => Kn.outer (Kn.tl (Kn.tl (Kn.tl hw))) (at_twoP hA)) ?_
  simp only [qz]
  refine rg_move ?_
  simp only [qz]
  refine rf_loadR (n := 5) rfl rfl rfl Try.underlying45 rfl (by kernel_rfl) (fun w hw => Kn.hd0 (Kn.tl hw)) rfl rfl ?_
  simp only [qz]
  refine rf_loadR (n := 5) rfl rfl rfl Try.underlying45 rfl (by kernel_rfl) (fun w hw => Kn.hd0 hw) rfl rfl ?_
  simp only [qz]
  apply rg_pure (by rfl) (by kernel_rfl)
  case hargs => (simp only [qm, qs, Act.eval]; exact rfl)
  case h => exact fun w hw => amTurn2 (z p k) hok1 w
  case hz => exact (fun _ h => by cases h; exact (sc _ (sc _ (sc _ (sc _ (List.Sublist.append_left (sc _ (sc _ (List.Sublist.append_left (List.Sublist.append_left sn _) _))) _))))))
  simp only [qz]
  refine rf_extract rfl rfl rfl rfl ?_
  simp only [qz]
  refine rf_extract rfl rfl rfl rfl ?_
  simp only [qz]
  apply rg_pure (by rfl) (by kernel_rfl)
  case hargs => (simp only [qm, qs, Act.eval]; exact rfl)
  case h => exact fun w hw => must_any (z p k).rot.rot 0 w
  case hz => exact (fun _ h => by cases h; exact (sc _ (sc _ (sc _ (sc _ (List.Sublist.append_left (sc _ (sc _ (List.Sublist.append_left (List.Sublist.append_left sn _) _))) _))))))
  simp only [qz]
  apply rg_pure (by rfl) (by kernel_rfl)
  case hargs => (simp only [qm, qs, Act.eval]; exact rfl)
  case h => exact fun w hw => amAdd_mt (z p k).rot.rot (z (p + 1) k) (rot_ok (rot_ok hok1)) hok2 w
  case hz => exact (fun _ h => by cases h; exact (sc _ (sc _ (sc _ (sc _ (List.Sublist.append_left (sc _ (sc _ (List.Sublist.append_left (List.Sublist.append_left sn _) _))) _))))))
  simp only [qz]
  refine rf_extract rfl rfl rfl rfl ?_
  simp only [qz]
  refine rf_extract rfl rfl rfl rfl ?_
  simp only [qz]
  apply rg_pure (by rfl) (by kernel_rfl)
  case hargs => (simp only [qm, qs, Act.eval]; exact rfl)
  case h => exact fun w hw => must_any (mtR ((z p k).rot.rot.add (z (p + 1) k))) (errI ((z p k).rot.rot.add (z (p + 1) k))) w
  case hz => exact (fun _ h => by cases h; exact (sc _ (sc _ (sc _ (sc _ (List.Sublist.append_left (sc _ (sc _ (List.Sublist.append_left (List.Sublist.append_left sn _) _))) _))))))
  simp only [qz]
  apply rg_pure (by rfl) (by kernel_rfl)
  case hargs => (simp only [qm, qs, Act.eval]; exact rfl)
  case h => exact fun w hw => amHalve_mt (mtR ((z p k).rot.rot.add (z (p + 1) k))) hcy.1 w
  case hz => exact (fun _ h => by cases h; exact (sc _ (sc _ (sc _ (sc _ (List.Sublist.append_left (sc _ (sc _ (List.Sublist.append_left (List.Sublist.append_left sn _) _))) _))))))
  simp only [qz]
  refine rf_extract rfl rfl rfl rfl ?_
  simp only [qz]
  refine rf_extract rfl rfl rfl rfl ?_
  simp only [qz]
  apply rg_pure (by rfl) (by kernel_rfl)
  case hargs => (simp only [qm, qs, Act.eval]; exact rfl)
  case h => exact fun w hw => must_any (cY (z p k) (z (p + 1) k)) (errI ((mtR ((z p k).rot.rot.add (z (p + 1) k))).halve 1)) w
  case hz => exact (fun _ h => by cases h; exact (sc _ (sc _ (sc _ (sc _ (List.Sublist.append_left (sc _ (sc _ (List.Sublist.append_left (List.Sublist.append_left sn _) _))) _))))))
  simp only [qz]
  refine rf_indexS (n := k) (sz := 5) (j := 0 + k * 5) rfl rfl rfl rfl Try.underlying36 (by kernel_rfl) (by omega) (by omega) rfl ?_
  simp only [qz]
  have hszb1 := nm_szM (wrS l1 (fun k => cY (z p k) (z (p + 1) k)) k) k (cY (z p k) (z (p + 1) k)) r1 (by rw [wrS_len]; exact hkl1)
  refine rf_storeRM (n := 5) (vs := nmC (cY (z p k) (z (p + 1) k))) rfl rfl (by kernel_rfl) rfl rfl (UpdR.there _ (UpdR.there _ (UpdR.there _ (UpdR.there _ (UpdR.app _ (UpdR.there _ (UpdR.here _ _ _ hszb1))))))) (sc _ (sc _ (sc _ (sc _ (List.Sublist.append_left (sc _ (sk _ (List.Sublist.append_left (List.Sublist.append_left sn _) _))) _))))) ?_
  rw [nm_flM (wrS l1 (fun k => cY (z p k) (z (p + 1) k)) k) k (cY (z p k) (z (p + 1) k)) r1 (by rw [wrS_len]; exact hkl1), wrS_set (f := (fun k => cY (z p k) (z (p + 1) k))) hkl1]
  simp only [qz]
  refine rg_nil (ek_block (ek_next ?_))
  refine wk_region [0, 0] rfl (by kernel_rfl) ?_
  simp only [qy]
  refine rf_add rfl rfl rfl rfl (wrap_ok (by omega) (by omega)) ?_
  simp only [qz]
  refine rg_move ?_
  simp only [qz]
  refine rg_nil ?_
  refine ek_sub (sk _ (sk _ (sc _ (sc _ (List.Sublist.append_left (sc _ (sc _ (List.Sublist.append_left (List.Sublist.append_left sn _) _))) _))))) ?_
  refine ek_roundF (N - (k + 1)) (by omega) (by kernel_rfl) ?_
  exact ⟨k + 1, rfl, by rfl, by rfl, by omega⟩

end Go.Proofs.Ytccbinnlnkpplaa
namespace Go.Proofs.Ytccbinnlnkpplaa
set_option linter.all false
open Go.RowKit
section
variable {R : Option Nat} {ops : Array Oper} {Q : Exit → Act → World → Prop} {B : World} {F : List Nat} {s0 : Option (List Blk × List Blk)} {P : Program}
variable {l : List (Oper × Nat)} {a : Act} {s : List Blk} {d : Option Tmp} {t : TypeId} {p : String} {af : Array Edge} {gd : Option (Nat × Bool)} {m : Nat}
/-- A slice from lo on: x[lo:]. -/
theorem rf_sliceFrom {T : Nat} {x yl : Operand} {b off lo len cap e sz : Nat} {k' : IntKind} {zl : Int} (hm : soft03 m = true) (hg : Region.wanted ⟨d, .slice T x (some yl) none none, t, p, af, gd⟩ (yielded ops a.tmps) = true)
    (hx : a.eval x = .slice (some ⟨b, off, none⟩) len cap) (hl : a.eval yl = .int k' zl) (hu : P.underlying T = some (.slice e)) (hs : (P.info? e).map (·.size) = some sz) (hzl : zl = (lo : Int)) (hn : lo ≤ len)
    (h : Rg R P ops Q B F s0 l (a.put d (.slice (if cap = lo then some ⟨b, off, none⟩ else some ⟨b, off + lo * sz, none⟩) (len - lo) (cap - lo))) s) : Rg R P ops Q B F s0 ((⟨d, .slice T x (some yl) none none, t, p, af, gd⟩, m) :: l) a s := by
  subst hzl
  refine rg_any hm hg (fun w => ?_) h
  unfold Yld
  cases hq : P.info? e with
  | none => simp [hq] at hs
  | some q =>
    have hs' : q.size = sz := by simpa [hq] using hs
    have hb2 := fun w => run_sliceBound (P := P) w k' (lo : Int) len .sliceB (by omega) (by omega)
    have e2 : (lo : Int).toNat = lo := Int.toNat_natCast _
    rw [e2] at hb2
    simp [execOp, hx, hl, Instr.sliceAt, Instr.slice, Instr.sliceBounds, run_underlying hu, sizeOf, typeInfo, hq, hs', hb2, Addr.add_mid]
end
end Go.Proofs.Ytccbinnlnkpplaa
namespace Go.Proofs.Ytccbinnlnkpplaa
set_option linter.all false
open Go.RowKit

/-- The greatest exponent of the first rows from the row col on. -/
def expZ (z : Zt) (col : Nat) : Nat → Int
  | 0 => 0
  | j + 1 => if expZ z col j < (z (col + j) col).k then (z (col + j) col).k else expZ z col j
theorem expZ_is {z : Zt} {col : Nat} : ∀ n, 0 ≤ expZ z col n ∧ (∀ i, col ≤ i → i < col + n → (z i col).k ≤ expZ z col n) ∧ (0 < expZ z col n → ∃ i, col ≤ i ∧ i < col + n ∧ (z i col).k = expZ z col n)
  | 0 => ⟨Int.le_refl _, fun i h1 h2 => absurd h2 (by omega), fun h => absurd (show (0 : Int) < 0 from h) (by decide)⟩
  | n + 1 => by
    obtain ⟨h0, h1, h2⟩ := expZ_is (z := z) (col := col) n
    rw [expZ]
    split
    · rename_i hlt
      refine ⟨by omega, fun i hi hin => ?_, fun _ => ⟨col + n, by omega, by omega, rfl⟩⟩
      rcases (by omega : i = col + n ∨ i < col + n) with rfl | hlt'
      · exact Int.le_refl _
      · have := h1 i hi hlt'; omega
    · rename_i hge
      refine ⟨h0, fun i hi hin => ?_, fun hp => ?_⟩
      · rcases (by omega : i = col + n ∨ i < col + n) with rfl | hlt'
        · omega
        · exact h1 i hi hlt'
      · obtain ⟨i, a1, a2, a3⟩ := h2 hp
        exact ⟨i, a1, by omega, a3⟩
theorem expZ_exp {N col : Nat} {z : Zt} (hc : col ≤ N) : IsExp N col z (expZ z col (N - col)) := by
  have h := expZ_is (z := z) (col := col) (N - col)
  rw [show col + (N - col) = N by omega] at h
  exact h
def bsZ (b : Nat) (z : Zt) : Nat → Zt
  | 0 => z
  | j + 1 => crZ (b - 1 - j) (bsZ b z j)
def bsL (b : Nat) : Nat → List It
  | 0 => []
  | j + 1 => bsL b j ++ [cross (b - 1 - j)]
theorem bsL_len (b : Nat) : ∀ j, (bsL b j).length = j
  | 0 => rfl
  | j + 1 => by rw [bsL, List.length_append, bsL_len b j]; rfl
set_option maxRecDepth 100000 in
set_option maxHeartbeats 1000000 in
theorem wexpo_any (N col gw : Nat) (z : Zt) (L : List It) (s : List Blk) (hS : WS N gw z L s) (hN : N ≤ 6) (hL : L.length ≤ 100000) (hc : col < N) (w : World) (hK : Kn w (s.map (·.1)) s w) : Calls Try.prog 155 #[.pointer (some ⟨gw, 0, none⟩), .int .i64 (col : Int)] w fun e w' => e = .returned (.int .i64 (expZ z col (N - col))) ∧ Below w.heap.size w w' := by
  obtain ⟨go, oc, ro, rs, ia, ic, u, hse, hrl, hoc, hlen, hval, hO, hok⟩ := hS.open_
  go_enter Try.func155, Try.ntmps155
  refine wk_startF (Kn.to hse hK.nil') ?_
  refine wk_seq ?_
  refine wk_region [0] rfl (by kernel_rfl) ?_
  simp only [qy]
  refine rg_assign ?_
  simp only [qz]
  refine rg_nil (ek_next (wk_seq ?_))
  refine wk_region [0] rfl (by kernel_rfl) ?_
  simp only [qy]
  refine rg_assign ?_
  simp only [qz]
  refine rg_nil (ek_next (wk_seq (wk_seq ?_)))
  refine wk_region [0, 0, 0, 0, 0, 0, 0, 0] rfl (by kernel_rfl) ?_
  simp only [qy]
  refine rg_move ?_
  simp only [qz]
  apply rg_soft
  case hy => (intro w hw; go_simp; (try go_bits); exact Yld.mk _ _)
  simp only [qz]
  refine rf_field (n := 0) (j := 0) rfl rfl rfl Try.underlying131 rfl (by kernel_rfl) rfl ?_
  simp only [qz]
  refine rf_load rfl rfl rfl Try.underlying129 rfl (fun w hw => (Kn.hd0 hw).at rfl) ?_
  simp only [qz]
  refine rg_move ?_
  simp only [qz]
  refine rf_sliceFrom (lo := col) (sz := 1) rfl rfl rfl rfl Try.underlying129 (by kernel_rfl) (by omega) (by omega) ?_
  rw [if_neg (show ¬ oc = col by omega)]
  simp only [qz]
  refine rf_len rfl rfl rfl Try.underlying129 ?_
  simp only [qz]
  refine rg_move ?_
  simp only [qz]
  refine rg_nil (ek_next (wk_block ?_))
  refine wk_loopF [5, 7, 15, 16, 17, 18, 19, 20, 21, 22, 23, 24, 25, 26] (fun mz f s => ∃ (j : Nat) (k : Int), f 5 = .int .i64 k ∧ f 15 = .int .i64 j ∧ s = ((gw, .cells #[.slice (some ⟨go, 0, none⟩) N oc, .slice ia L.length ic] 131) :: ((go, .cells (rwV N (rs) ++ ro).toArray 36) :: (rwB rs ++ (u ++ [])))) ∧ mz = (N - col) - j ∧ j ≤ N - col ∧ Hid (expZ z col j = k)) ((fun (j : Nat) (k : Int) => (N - col) - j) (0) (0)) ?_ (by kernel_rfl) ?_
  · exact ⟨0, 0, rfl, rfl, rfl, rfl, by omega, Lib.hid rfl⟩
  rintro mz f1 s ⟨j, k, hs1_5, hs1_15, rfl, hn, hd1, hd2⟩
  simp only [Act.putF, List.foldl_cons, List.foldl_nil, hs1_5, hs1_15, Act.put, Act.eval, q1, q2, q3, q4, q5, q6, q7, q8, q9, q10, q11, q12, q13, q14, q15, q16, q17, q18, Nat.reduceAdd, Bool.not_true, Bool.not_false]
  clear hs1_5 hs1_15
  have hk := hd2
  clear hd2
  refine wk_seq ?_
  refine wk_region [0] rfl (by kernel_rfl) ?_
  simp only [qy]
  refine rfb_lss rfl rfl rfl rfl ?_
  intro x h1
  cases x
  · (try simp only [qd, ne_eq] at h1)
    simp only [qz]
    refine rg_nil (ek_next (wk_seq (wk_cond_f rfl (wk_exit (ek_then_exit (ek_then_exit (ek_block_exit (ek_next (wk_seq ?_)))))))))
    refine wk_region [0, 0] rfl (by kernel_rfl) ?_
    simp only [qy]
    refine rg_move ?_
    simp only [qz]
    refine rg_assign ?_
    simp only [qz]
    refine rg_nil (ek_next (wk_ret ?_))
    refine ek_ret (fun w hw => ⟨rfl, _, res_t _ rfl, ?_⟩)
    (try simp only [qz])
    obtain rfl : j = N - col := by omega
    exact ⟨by rw [hk.out], hK.same (Kn.of_nil (hw.to hse.symm))⟩
  (try simp only [qd, ne_eq] at h1)
  simp only [qz]
  refine rg_nil (ek_next (wk_seq (wk_cond_t rfl (wk_skip (ek_next (wk_seq (wk_block (wk_seq ?_))))))))
  have hcj : col + j < rs.length := by omega
  obtain ⟨⟨b, c, l, r⟩, hx⟩ : ∃ x, rs[col + j]? = some x := ⟨rs[col + j], List.getElem?_eq_getElem hcj⟩
  have hll : l.length = N := hlen ⟨b, c, l, r⟩ (List.mem_of_getElem? hx)
  have hzk : nm l col = z (col + j) col := hval _ _ hx col hc
  refine wk_region [0, 0, 0] rfl (by kernel_rfl) ?_
  simp only [qy]
  refine rf_indexS (n := j) (sz := 1) (j := col + j) rfl rfl rfl rfl Try.underlying129 (by kernel_rfl) (by omega) (by omega) (by omega) ?_
  simp only [qz]
  refine rf_load (v := .slice (some ⟨b, 0, none⟩) N c) rfl rfl rfl Try.underlying36 rfl (fun w hw => Kn.outer (Kn.tl hw) (hx)) ?_
  simp only [qz]
  refine rg_assign ?_
  simp only [qz]
  refine rg_nil (ek_next ?_)
  refine wk_region [0, 0, 0, 0, 0, 0, 0, 0] rfl (by kernel_rfl) ?_
  simp only [qy]
  refine rg_move ?_
  simp only [qz]
  refine rg_move ?_
  simp only [qz]
  refine rg_move ?_
  simp only [qz]
  refine rf_indexS (n := col) (sz := 5) (j := 0 + col * 5) rfl rfl rfl rfl Try.underlying36 (by kernel_rfl) (by omega) (by omega) rfl ?_
  simp only [qz]
  refine rf_field (n := 0) (j := 0 + col * 5 + 4) rfl rfl rfl Try.underlying45 rfl (by kernel_rfl) rfl ?_
  simp only [qz]
  refine rf_load (v := .int .i64 (z (col + j) col).k) rfl rfl rfl Try.underlying3 rfl (fun w hw => by have := Kn.row (Kn.tl (Kn.tl hw)) hx (k := col) (by rw [hll]; exact hc); rw [hzk] at this; exact this.c4) ?_
  simp only [qz]
  apply rg_soft
  case hy => (intro w hw; go_simp; (try go_bits); exact Yld.mk _ _)
  simp only [qz]
  refine rg_assign ?_
  simp only [qz]
  refine rg_nil (ek_block (ek_next ?_))
  refine wk_region [0, 0] rfl (by kernel_rfl) ?_
  simp only [qy]
  refine rf_add rfl rfl rfl rfl (wrap_ok (by omega) (by omega)) ?_
  simp only [qz]
  refine rg_move ?_
  simp only [qz]
  refine rg_nil ?_
  refine ek_roundF ((N - col) - (j + 1)) (by omega) (by kernel_rfl) ?_
  exact ⟨j + 1, _, rfl, rfl, by rfl, by rfl, by omega, (Lib.hid (by rw [expZ, hk.out]))⟩

set_option maxRecDepth 100000 in
set_option maxHeartbeats 1000000 in
theorem wbeside_any (N b t gw : Nat) (z : Zt) (L : List It) (s : List Blk) (hS : WS N gw z L s) (hN : N ≤ 6) (hL : L.length + 10 ≤ 100000) (ht : t ≤ b) (hb : b < N) (w : World) (hK : Kn w (s.map (·.1)) s w) : Calls Try.prog 157 #[.pointer (some ⟨gw, 0, none⟩), .int .i64 (b : Int), .int .i64 (t : Int)] w fun e w' => e = .returned (.tuple #[]) ∧ ∃ s', Kn w (s.map (·.1)) s' w' ∧ WS N gw (bsZ b z (b - t)) (L ++ bsL b (b - t)) s' := by
  go_enter Try.func157, Try.ntmps157
  refine wk_startF hK.nil' ?_
  refine wk_block ?_
  refine wk_loopF [1, 6, 7, 8, 9, 10, 11, 12, 13, 14] (fun mz f s => ∃ (j : Nat) (uV : List Blk), f 1 = .int .i64 ((b : Int) - j) ∧ s = (uV ++ []) ∧ mz = (b - t) - j ∧ j ≤ b - t ∧ WS N gw (bsZ b z j) (L ++ bsL b j) uV) ((fun (j : Nat) (uV : List Blk) => (b - t) - j) (0) (s)) ?_ (by kernel_rfl) ?_
  · exact ⟨0, s, rfl, rfl, rfl, by omega, (by rw [show L ++ bsL b 0 = L from List.append_nil L]; exact hS)⟩
  rintro mz f1 s ⟨j, uV, hs1_1, rfl, hn, hd1, hd2⟩
  simp only [Act.putF, List.foldl_cons, List.foldl_nil, hs1_1, Act.put, Act.eval, q1, q2, q3, q4, q5, q6, q7, q8, q9, q10, q11, q12, q13, q14, q15, q16, q17, q18, Nat.reduceAdd, Bool.not_true, Bool.not_false]
  clear hs1_1
  refine wk_seq (wk_seq ?_)
  refine wk_region [0, 0, 0] rfl (by kernel_rfl) ?_
  simp only [qy]
  refine rg_move ?_
  simp only [qz]
  refine rg_move ?_
  simp only [qz]
  refine rfb_gtr rfl rfl rfl rfl ?_
  intro x h1
  cases x
  · (try simp only [qd, ne_eq] at h1)
    simp only [qz]
    refine rg_nil (ek_next (wk_cond_f rfl (wk_exit (ek_then_exit (ek_then_exit (ek_block_exit ?_))))))
    refine ek_norm (fun w hw => ⟨rfl, _, res_0 rfl, ?_⟩)
    (try simp only [qz])
    obtain rfl : j = b - t := by omega
    exact ⟨(by first | rfl | trivial), _, hw.of_nil, hd2⟩
  (try simp only [qd, ne_eq] at h1)
  simp only [qz]
  refine rg_nil (ek_next (wk_cond_t rfl (wk_skip (ek_next (wk_seq (wk_block ?_))))))
  refine wk_region [0, 0, 0, 1] rfl (by kernel_rfl) ?_
  simp only [qy]
  refine rg_move ?_
  simp only [qz]
  refine rg_move ?_
  simp only [qz]
  refine rf_sub (r := ((b - 1 - j : Nat) : Int)) rfl rfl rfl rfl (wrap_eqB (by omega) (by omega) (by omega)) ?_
  simp only [qz]
  refine rg_eff (T := fun uX => WS N gw (crZ (b - 1 - j) (bsZ b z j)) (L ++ bsL b j ++ [cross (b - 1 - j)]) uX) (vb := uV) (rest := []) (by rfl) (by kernel_rfl) (by simp only [qm, qs, Act.eval]; try rfl) (List.Perm.refl _) (fun w hw => wcross_any N (b - 1 - j) gw (bsZ b z j) (L ++ bsL b j) uV hd2 hN (by rw [List.length_append, bsL_len]; omega) (by omega) w hw) (fun uX hTuX => ?_)
  simp only [qz]
  refine rg_nil (ek_block (ek_next ?_))
  refine wk_region [0, 0, 0] rfl (by kernel_rfl) ?_
  simp only [qy]
  refine rg_move ?_
  simp only [qz]
  refine rf_sub (r := (b : Int) - ((j + 1 : Nat) : Int)) rfl rfl rfl rfl (wrap_eqB (by omega) (by omega) (by omega)) ?_
  simp only [qz]
  refine rg_assign ?_
  simp only [qz]
  refine rg_nil ?_
  refine ek_roundF ((b - t) - (j + 1)) (by omega) (by kernel_rfl) ?_
  exact ⟨j + 1, uX, rfl, by rfl, by rfl, by omega, (by rw [bsZ, bsL, ← List.append_assoc]; exact hTuX)⟩

end Go.Proofs.Ytccbinnlnkpplaa
