/- Texts in one: La13. -/
import Derived.Test.YtjeijnjaleldkaaLTurnsF
namespace Go.Proofs.Ytjeijnjaleldkaa
set_option linter.all false
set_option maxRecDepth 100000
set_option maxHeartbeats 1000000
open Go.RowKit
theorem mtr_ok (N : Nat) (xs : List Nm) (hv : validB N xs = true) (a : Option Addr) (c : Nat) (hl : xs.length ≤ 1000000) (w : World) (hA : AS w a (nms xs)) : Calls Try.prog 27 #[.agg #[.int .i64 N, .slice a xs.length c]] w fun e w' => RetM w N (mvL (traF N xs) (N * N)) 0 e w' := by
 have h := mtranspose_any N xs a c hl w hA
 rw [tra_eq hv] at h
 exact h
theorem mper_m (n : Int) (xs : List Nm) (a : Option Addr) (c m : Nat) (hm : xs.length = m) (hl : m ≤ 1000000) (r : NR) (hr : perR n xs = r) (w : World) (hA : AS w a (nms xs)) : Calls Try.prog 17 #[.agg #[.int .i64 n, .slice a m c]] w fun e w' => e = .returned (numV r) ∧ Below w.heap.size w w' := by
 subst hm hr
 exact mpermanent_any n xs a c hl w hA
theorem malike_m (n : Int) (xs ys : List Nm) (a a' : Option Addr) (c c' m : Nat) (hm : ys.length = m) (hl : xs.length ≤ 1000000) (hl' : m ≤ 1000000) (h1 : alkB n n xs ys = true ∧ alkE n n xs ys = 0) (w : World) (hA : AS w a (nms xs)) (hB : AS w a' (nms ys)) : Calls Try.prog 39 #[.agg #[.int .i64 n, .slice a xs.length c], .agg #[.int .i64 n, .slice a' m c']] w fun e w' => e = .returned (.tuple #[.bool true, .int .i64 0]) ∧ Below w.heap.size w w' := by
 subst hm
 have h := malike_any n n xs ys a a' c c' hl hl' w hA hB
 rwa [h1.1, h1.2] at h
theorem at_div {N i k : Nat} (hk : k < N) : (N * i + k) / N = i := by rw [Nat.mul_comm]; exact ix_div hk
theorem at_mod {N i k : Nat} (hk : k < N) : (N * i + k) % N = k := by rw [Nat.mul_comm]; exact ix_mod hk
theorem rot_at (N : Nat) (xs : List Nm) (x0 x1 i : Nat) {k : Nat} (hk : k < N) : rotF N xs x0 x1 (N * i + k) = nm xs ((i + x0) % N * N + (k + x1) % N) := by
 unfold rotF; rw [at_div hk, at_mod hk]
theorem tun_at (N : Nat) (xs : List Nm) (x2 x3 i : Nat) {k : Nat} (hk : k < N) : tunF N xs x2 x3 (N * i + k) = Nm.turn ((i * x2 + k * x3) % 8) (nm xs (i * N + k)) := by
 unfold tunF; rw [at_div hk, at_mod hk, Nat.mul_comm N i]
theorem quad_bd {i x : Nat} (hi : i ≤ 6) (hx : x ≤ 255) : i * x ≤ 1530 := Nat.mul_le_mul hi hx
theorem matrixTurns_any (n : Int) (xs : List Nm) (a : Option Addr) (c : Nat) (x0 x1 x2 x3 : Nat) (hx0 : x0 ≤ 255) (hx1 : x1 ≤ 255) (hx2 : x2 ≤ 255) (hx3 : x3 ≤ 255) (w : World) (hA : AS w a (nms xs)) : Calls Try.prog 9 #[.agg #[.int .i64 n, .slice a xs.length c], .agg #[.int .u8 x0, .int .u8 x1, .int .u8 x2, .int .u8 x3]] w fun e w' => e = .returned (.bool true) ∧ Below w.heap.size w w' := by
 go_enter Try.func9, Try.ntmps9
 refine wk_start ?_
 refine wk_seq ?_
 refine wk_region [1, 1, 0] rfl (by kernel_rfl) ?_
 simp only [qy]
 refine rg_new (cs := ?_) (ty := ?_) (by rfl) (fun w => ?_) (fun _ h => by cases h) (fun g1 => ?_); rotate_left 2
 focus (go_simp; rfl)
 simp only [qz]
 refine rg_new (cs := ?_) (ty := ?_) (by rfl) (fun w => ?_) (fun _ h => by cases h) (fun g2 => ?_); rotate_left 2
 focus (go_simp; rfl)
 simp only [qz]
 refine rg_assign ?_
 simp only [qz]
 refine rg_nil (ek_next (wk_seq (wk_seq ?_)))
 refine wk_region [0, 1, 0, 0, 0, 0, 0, 0, 0, 1, 0, 0] rfl (by kernel_rfl) ?_
 simp only [qy]
 refine rf_loadR (n := 2) rfl rfl rfl Try.underlying24 rfl (by kernel_rfl) (fun w hw => Kn.hd0 (Kn.tl hw)) rfl rfl ?_
 simp only [qz]
 apply rg_pureb (by rfl) (by kernel_rfl)
 case hargs => (simp only [qm, qs, Act.eval]; exact rfl)
 case h => exact fun w hw => wide_any n xs a c w
 case hz => exact (fun _ h => by cases h)
 intro x h1
 cases x
 ·(try simp only [qd, ne_eq] at h1)
  simp only [qz]
  have hl : xs.length ≤ 1000000 := by omega
  refine rg_move ?_
  simp only [qz]
  refine rf_field (n := 0) (j := 0) rfl rfl rfl Try.underlying24 rfl (by kernel_rfl) rfl ?_
  simp only [qz]
  refine rf_load rfl rfl rfl Try.underlying3 rfl (fun w hw => (Kn.hd0 (Kn.tl hw)).at rfl) ?_
  simp only [qz]
  refine rfb_gtr rfl rfl rfl rfl ?_
  intro x h2
  cases x
  ·(try simp only [qd, ne_eq] at h2)
   simp only [qz]
   refine rf_pick rfl rfl rfl ?_
   simp only [qz]
   refine rg_move ?_
   simp only [qz]
   refine rf_loadR (n := 2) rfl rfl rfl Try.underlying24 rfl (by kernel_rfl) (fun w hw => Kn.hd0 (Kn.tl hw)) rfl rfl ?_
   simp only [qz]
   apply rg_pureb (by rfl) (by kernel_rfl)
   case hargs => (simp only [qm, qs, Act.eval]; exact rfl)
   case h => exact fun w hw => rmvalid_any n xs a c hl w (hA.kn0 hw)
   case hz => exact (fun _ h => by cases h)
   intro x h3
   cases x
   ·(try simp only [qd, ne_eq] at h3)
    simp only [qz]
    refine rf_not rfl rfl rfl ?_
    simp only [qz]
    refine rf_pick rfl rfl rfl ?_
    simp only [qz]
    refine rg_nil (ek_next (wk_cond_t rfl (wk_seq ?_)))
    refine wk_region [1, 0] rfl (by kernel_rfl) ?_
    simp only [qy]
    apply rg_pure (by rfl) (by kernel_rfl)
    case hargs => (simp only [qm, qs, Act.eval]; exact rfl)
    case h => exact fun w hw => sane2_any w
    case hz => exact (fun _ h => by cases h)
    simp only [qz]
    refine rg_assign ?_
    simp only [qz]
    refine rg_nil (ek_next (wk_ret (ek_then_ret ?_)))
    refine ek_ret (fun w hw => ⟨rfl, _, res_t _ rfl, ?_⟩)
    (try simp only [qz])
    first | exact ⟨rfl, hw.below⟩ | exact ⟨trivial, hw.below⟩ | exact hw.below
   (try simp only [qd, ne_eq] at h3)
   simp only [qz]
   have hv := h3
   obtain ⟨N, rfl, hN1, hN, hlx, hlx36, hox⟩ := validB_N' hv
   replace hlx := Lib.hid hlx
   refine rf_not rfl rfl rfl ?_
   simp only [qz]
   refine rf_pick rfl rfl rfl ?_
   simp only [qz]
   refine rg_nil (ek_next (wk_cond_f rfl (wk_skip (ek_next (wk_seq ?_)))))
   refine wk_region [0, 0, 0] rfl (by kernel_rfl) ?_
   simp only [qy]
   refine rf_field (n := 0) (j := 0) rfl rfl rfl Try.underlying24 rfl (by kernel_rfl) rfl ?_
   simp only [qz]
   refine rf_load rfl rfl rfl Try.underlying3 rfl (fun w hw => (Kn.hd0 (Kn.tl hw)).at rfl) ?_
   simp only [qz]
   refine rg_assign ?_
   simp only [qz]
   refine rg_nil (ek_next (wk_seq ?_))
   refine wk_region [0, 0, 0, 0, 1, 1, 1, 1] rfl (by kernel_rfl) ?_
   simp only [qy]
   refine rg_move ?_
   simp only [qz]
   refine rf_build (cs := fun a => #[a.eval (.tmp 35), .slice none 0 0]) rfl rfl (by kernel_rfl) ?_
   simp only [qz]
   refine rg_move ?_
   simp only [qz]
   refine rf_build (cs := fun a => #[a.eval (.tmp 37), .slice none 0 0]) rfl rfl (by kernel_rfl) ?_
   simp only [qz]
   refine rg_new (cs := ?_) (ty := ?_) (by rfl) (fun w => ?_) (fun _ h => by cases h) (fun g3 => ?_); rotate_left 2
   focus (go_simp; rfl)
   simp only [qz]
   refine rg_new (cs := ?_) (ty := ?_) (by rfl) (fun w => ?_) (fun _ h => by cases h) (fun g4 => ?_); rotate_left 2
   focus (go_simp; rfl)
   simp only [qz]
   refine rf_storeR (n := 2) rfl rfl (by kernel_rfl) rfl rfl (UpdR.there _ (UpdR.here _ _ _ (Nat.le_of_ble_eq_true rfl))) (fun _ h => by cases h) ?_
   simp only [qz, Nat.reduceAdd]
   refine rf_storeR (n := 2) rfl rfl (by kernel_rfl) rfl rfl (UpdR.here _ _ _ (Nat.le_of_ble_eq_true rfl)) (fun _ h => by cases h) ?_
   simp only [qz, Nat.reduceAdd]
   refine rg_nil (ek_next (wk_seq (wk_seq ?_)))
   refine wk_region [0] rfl (by kernel_rfl) ?_
   simp only [qy]
   refine rg_assign ?_
   simp only [qz]
   refine rg_nil (ek_next (wk_block ?_))
   refine wk_loopF [8, 9, 39, 40, 41, 42, 43, 44, 45, 46, 47, 48, 49, 50, 51, 52, 53, 54, 55, 56, 57, 58, 59, 60, 61, 62, 63, 64, 65, 66, 67, 68, 69, 70, 71, 72, 73, 74, 75, 76, 77, 78, 79, 80, 81, 82, 83, 84, 85, 86, 87, 88, 89, 90, 91] (fun mz f s => ∃ (i : Nat) (u1 u2 : List Blk) (a1 a2 : Option Addr) (c1 c2 : Nat), f 8 = .int .i64 i ∧ s = (u1 ++ (u2 ++ ((g4, .cells #[.int .i64 N, .slice a2 (N * i) c2] 24) :: ((g3, .cells #[.int .i64 N, .slice a1 (N * i) c1] 24) :: ((g2, .cells #[.int .u8 x0, .int .u8 x1, .int .u8 x2, .int .u8 x3] 51) :: ((g1, .cells #[.int .i64 N, .slice a xs.length c] 24) :: [])))))) ∧ mz = N - i ∧ i ≤ N ∧ OwnN u1 (.slice a1 (N * i) c1) (mvL (rotF N xs x0 x1) (N * i)) ∧ OwnN u2 (.slice a2 (N * i) c2) (mvL (tunF N xs x2 x3) (N * i))) ((fun (i : Nat) (u1 u2 : List Blk) (a1 a2 : Option Addr) (c1 c2 : Nat) => N - i) (0) ([]) ([]) (none) (none) (0) (0)) ?_ (by kernel_rfl) ?_
   ·exact ⟨0, [], [], none, none, 0, 0, rfl, rfl, rfl, by omega, OwnG.nil, OwnG.nil⟩
   rintro mz f1 s ⟨i, u1, u2, a1, a2, c1, c2, hs1_8, rfl, hn, hd1, hd2, hd3⟩
   simp only [Act.putF, List.foldl_cons, List.foldl_nil, hs1_8, Act.put, Act.eval, q1, q2, q3, q4, q5, q6, q7, q8, q9, q10, q11, q12, q13, q14, q15, q16, q17, q18, Nat.reduceAdd, Bool.not_true, Bool.not_false]
   clear hs1_8
   refine wk_seq (wk_seq ?_)
   refine wk_region [0, 0, 0] rfl (by kernel_rfl) ?_
   simp only [qy]
   refine rg_move ?_
   simp only [qz]
   refine rg_move ?_
   simp only [qz]
   refine rfb_lss rfl rfl rfl rfl ?_
   intro x h4
   cases x
   ·(try simp only [qd, ne_eq] at h4)
    simp only [qz]
    refine rg_nil (ek_next (wk_cond_f rfl (wk_exit (ek_then_exit (ek_then_exit (ek_block_exit (ek_next (wk_seq ?_))))))))
    obtain rfl : N = i := by omega
    have hNN : N * N ≤ 36 := by have := hlx.out; omega
    refine wk_region [0, 1, 0, 0, 0, 1, 1, 0] rfl (by kernel_rfl) ?_
    simp only [qy]
    refine rf_loadR (n := 2) rfl rfl rfl Try.underlying24 rfl (by kernel_rfl) (fun w hw => Kn.hd0 (Kn.tl (Kn.tl (Kn.tl (Kn.tlU (Kn.tlU hw)))))) rfl rfl ?_
    simp only [qz]
    apply rg_retM (by rfl) (by kernel_rfl)
    case hargs => (simp only [qm, qs, Act.eval]; exact rfl)
    case h => exact fun w hw => mtr_ok N xs hv a c hl w (hA.kn0 hw)
    case hz => exact (fun _ h => by cases h)
    rw [mvL_len]
    intro va3 vc3 u3 hO3
    simp only [qz]
    refine rg_move ?_
    simp only [qz]
    refine rf_extract rfl rfl rfl rfl ?_
    simp only [qz]
    refine rf_extract rfl rfl rfl rfl ?_
    simp only [qz]
    refine rg_new (cs := ?_) (ty := ?_) (by rfl) (fun w => ?_) (fun _ h => by cases h) (fun g5 => ?_); rotate_left 2
    focus (go_simp; rfl)
    simp only [qz]
    refine rf_storeR (n := 2) rfl rfl (by kernel_rfl) rfl rfl (UpdR.here _ _ _ (Nat.le_of_ble_eq_true rfl)) (fun _ h => by cases h) ?_
    simp only [qz, Nat.reduceAdd]
    refine rg_assign ?_
    simp only [qz]
    refine rg_nil (ek_next (wk_seq ?_))
    refine wk_region [0, 1, 0, 0, 0, 1, 1, 0] rfl (by kernel_rfl) ?_
    simp only [qy]
    refine rf_loadR (n := 2) rfl rfl rfl Try.underlying24 rfl (by kernel_rfl) (fun w hw => Kn.hd0 (Kn.tl (Kn.tl (Kn.tl (Kn.tlU (Kn.tlU (Kn.tlU (Kn.tl hw)))))))) rfl rfl ?_
    simp only [qz]
    apply rg_pure (by rfl) (by kernel_rfl)
    case hargs => (simp only [qm, qs, Act.eval]; exact rfl)
    case h => exact fun w hw => mpermanent_any N xs a c hl w (hA.kn0 hw)
    case hz => exact (fun _ h => by cases h)
    simp only [qz]
    obtain ⟨zl, el, hve⟩ := numV_ve (perR N xs)
    rw [hve]
    replace hve := Lib.hid hve
    refine rg_move ?_
    simp only [qz]
    refine rf_extract rfl rfl rfl rfl ?_
    simp only [qz]
    refine rf_extract rfl rfl rfl rfl ?_
    simp only [qz]
    refine rg_new (cs := ?_) (ty := ?_) (by rfl) (fun w => ?_) (fun _ h => by cases h) (fun g6 => ?_); rotate_left 2
    focus (go_simp; rfl)
    simp only [qz]
    refine rf_storeR (n := 5) rfl rfl (by kernel_rfl) rfl rfl (UpdR.here _ _ _ (Nat.le_of_ble_eq_true rfl)) (fun _ h => by cases h) ?_
    simp only [qz, Nat.reduceAdd]
    refine rg_assign ?_
    simp only [qz]
    refine rg_nil (ek_next (wk_seq ?_))
    refine wk_region [0, 1, 0, 0, 0, 1, 1, 0] rfl (by kernel_rfl) ?_
    simp only [qy]
    refine rf_loadR (n := 2) rfl rfl rfl Try.underlying24 rfl (by kernel_rfl) (fun w hw => Kn.hd0 (Kn.tl (Kn.tlU (Kn.tlU (Kn.tlU (Kn.tl (Kn.tl hw))))))) rfl rfl ?_
    simp only [qz]
    apply rg_pure (by rfl) (by kernel_rfl)
    case hargs => (simp only [qm, qs, Act.eval]; exact rfl)
    case h => exact fun w hw => mper_m N (mvL (rotF N xs x0 x1) (N * N)) a1 c1 (N * N) (mvL_len _ _) (by omega) _ (per_rot hv x0 x1) w (OwnN.asN hd2 (hw.perm ((((((((List.Perm.refl _).append_left _).trans (List.perm_append_comm_assoc u3 u1 _)).cons _).trans (List.perm_middle (l₁ := u1)).symm).cons _).trans (List.perm_middle (l₁ := u1)).symm).trans ((List.Perm.refl _).append_left _))))
    case hz => exact (fun _ h => by cases h)
    simp only [qz]
    rw [hve.out]
    refine rg_move ?_
    simp only [qz]
    refine rf_extract rfl rfl rfl rfl ?_
    simp only [qz]
    refine rf_extract rfl rfl rfl rfl ?_
    simp only [qz]
    refine rg_new (cs := ?_) (ty := ?_) (by rfl) (fun w => ?_) (fun _ h => by cases h) (fun g7 => ?_); rotate_left 2
    focus (go_simp; rfl)
    simp only [qz]
    refine rf_storeR (n := 5) rfl rfl (by kernel_rfl) rfl rfl (UpdR.here _ _ _ (Nat.le_of_ble_eq_true rfl)) (fun _ h => by cases h) ?_
    simp only [qz, Nat.reduceAdd]
    refine rg_assign ?_
    simp only [qz]
    refine rg_nil (ek_next (wk_seq ?_))
    refine wk_region [0, 1, 0, 0, 0, 1, 1, 0] rfl (by kernel_rfl) ?_
    simp only [qy]
    refine rf_loadR (n := 2) rfl rfl rfl Try.underlying24 rfl (by kernel_rfl) (fun w hw => Kn.hd0 (Kn.tl (Kn.tl hw))) rfl rfl ?_
    simp only [qz]
    apply rg_pure (by rfl) (by kernel_rfl)
    case hargs => (simp only [qm, qs, Act.eval]; exact rfl)
    case h => exact fun w hw => mper_m N (mvL (traF N xs) (N * N)) va3 vc3 (N * N) (mvL_len _ _) (by omega) _ (per_tra hv) w (OwnN.asN hO3 (hw.perm (perm_atU (l := [_, _, _]) (u := u3) (List.Perm.refl _))))
    case hz => exact (fun _ h => by cases h)
    simp only [qz]
    rw [hve.out]
    refine rg_move ?_
    simp only [qz]
    refine rf_extract rfl rfl rfl rfl ?_
    simp only [qz]
    refine rf_extract rfl rfl rfl rfl ?_
    simp only [qz]
    refine rg_new (cs := ?_) (ty := ?_) (by rfl) (fun w => ?_) (fun _ h => by cases h) (fun g8 => ?_); rotate_left 2
    focus (go_simp; rfl)
    simp only [qz]
    refine rf_storeR (n := 5) rfl rfl (by kernel_rfl) rfl rfl (UpdR.here _ _ _ (Nat.le_of_ble_eq_true rfl)) (fun _ h => by cases h) ?_
    simp only [qz, Nat.reduceAdd]
    refine rg_assign ?_
    simp only [qz]
    refine rg_nil (ek_next (wk_seq ?_))
    refine wk_region [0, 0, 1, 0, 0, 0, 0, 0] rfl (by kernel_rfl) ?_
    simp only [qy]
    refine rf_loadR (n := 2) rfl rfl rfl Try.underlying24 rfl (by kernel_rfl) (fun w hw => Kn.hd0 (Kn.tl (Kn.tl (Kn.tl (Kn.tlU (Kn.tlU (Kn.tlU (Kn.tl (Kn.tl (Kn.tl (Kn.tl hw))))))))))) rfl rfl ?_
    simp only [qz]
    refine rf_loadR (n := 2) rfl rfl rfl Try.underlying24 rfl (by kernel_rfl) (fun w hw => Kn.hd0 (Kn.tlU (Kn.tlU (Kn.tlU (Kn.tl (Kn.tl (Kn.tl (Kn.tl hw)))))))) rfl rfl ?_
    simp only [qz]
    apply rg_pure (by rfl) (by kernel_rfl)
    case hargs => (simp only [qm, qs, Act.eval]; exact rfl)
    case h => exact fun w hw => malike_m N xs (mvL (tunF N xs x2 x3) (N * N)) a a2 c c2 (N * N) (mvL_len _ _) hl (by omega) (alk_tun hv x2 x3) w (hA.kn0 hw) (OwnN.asN hd3 (hw.perm ((((((((((((((List.Perm.refl _).append_left _).trans (List.perm_append_comm_assoc u1 u2 _)).append_left _).trans (List.perm_append_comm_assoc u3 u2 _)).cons _).trans (List.perm_middle (l₁ := u2)).symm).cons _).trans (List.perm_middle (l₁ := u2)).symm).cons _).trans (List.perm_middle (l₁ := u2)).symm).cons _).trans (List.perm_middle (l₁ := u2)).symm).trans ((List.Perm.refl _).append_left _))))
    case hz => exact (fun _ h => by cases h)
    simp only [qz]
    refine rg_move ?_
    simp only [qz]
    refine rf_extract rfl rfl rfl rfl ?_
    simp only [qz]
    refine rf_extract rfl rfl rfl rfl ?_
    simp only [qz]
    refine rg_assign ?_
    simp only [qz]
    refine rg_assign ?_
    simp only [qz]
    refine rg_nil (ek_next (wk_seq ?_))
    refine wk_region [0, 0, 0, 0, 0, 0, 0, 0, 0, 0, 0, 0, 0, 0, 0, 0, 0, 0, 0, 0, 0, 0, 0, 0, 0, 0, 0, 0, 0, 0, 1, 0, 0] rfl (by kernel_rfl) ?_
    simp only [qy]
    refine rg_move ?_
    simp only [qz]
    refine rf_eql (b := true) rfl rfl rfl rfl (by decide) ?_
    simp only [qz]
    refine rg_move ?_
    simp only [qz]
    refine rf_loadR (n := 5) rfl rfl rfl Try.underlying29 rfl (by kernel_rfl) (fun w hw => Kn.hd0 (Kn.tl (Kn.tl hw))) rfl rfl ?_
    simp only [qz]
    refine rf_loadR (n := 5) rfl rfl rfl Try.underlying29 rfl (by kernel_rfl) (fun w hw => Kn.hd0 (Kn.tl hw)) rfl rfl ?_
    simp only [qz]
    refine rf_eqN (u := zl) (v := zl) rfl rfl rfl rfl ?_
    rw [decide_eq_true (rfl : zl = zl)]
    simp only [qz]
    refine rf_pick rfl rfl rfl ?_
    simp only [qz]
    refine rg_move ?_
    simp only [qz]
    refine rf_loadR (n := 5) rfl rfl rfl Try.underlying29 rfl (by kernel_rfl) (fun w hw => Kn.hd0 (Kn.tl hw)) rfl rfl ?_
    simp only [qz]
    refine rf_loadR (n := 5) rfl rfl rfl Try.underlying29 rfl (by kernel_rfl) (fun w hw => Kn.hd0 hw) rfl rfl ?_
    simp only [qz]
    refine rf_eqN (u := zl) (v := zl) rfl rfl rfl rfl ?_
    rw [decide_eq_true (rfl : zl = zl)]
    simp only [qz]
    refine rf_pick rfl rfl rfl ?_
    simp only [qz]
    refine rg_move ?_
    simp only [qz]
    apply rg_soft_g
    case hg => rfl
    case hy => (intro w hw; go_simp; (try go_bits); exact Yld.mk _ _)
    simp only [qz]
    apply rg_soft_g
    case hg => rfl
    case hy => (intro w hw; go_simp; (try go_bits); exact Yld.mk _ _)
    simp only [qz]
    refine rfb_eql rfl rfl rfl rfl ?_
    intro x h5
    obtain rfl : x = true := by (refine h5.symm.trans ?_; exact decide_eq_true (by omega))
    clear h5
    simp only [qz]
    refine rf_pick rfl rfl rfl ?_
    simp only [qz]
    refine rg_move ?_
    simp only [qz]
    apply rg_soft_g
    case hg => rfl
    case hy => (intro w hw; go_simp; (try go_bits); exact Yld.mk _ _)
    simp only [qz]
    apply rg_soft_g
    case hg => rfl
    case hy => (intro w hw; go_simp; (try go_bits); exact Yld.mk _ _)
    simp only [qz]
    refine rfb_eql rfl rfl rfl rfl ?_
    intro x h6
    obtain rfl : x = true := by (refine h6.symm.trans ?_; exact decide_eq_true (by omega))
    clear h6
    simp only [qz]
    refine rf_pick rfl rfl rfl ?_
    simp only [qz]
    refine rg_move ?_
    simp only [qz]
    apply rg_soft_g
    case hg => rfl
    case hy => (intro w hw; go_simp; (try go_bits); exact Yld.mk _ _)
    simp only [qz]
    refine rf_pick rfl rfl rfl ?_
    simp only [qz]
    refine rg_move ?_
    simp only [qz]
    apply rg_soft_g
    case hg => rfl
    case hy => (intro w hw; go_simp; (try go_bits); exact Yld.mk _ _)
    simp only [qz]
    refine rf_eql (b := true) rfl rfl rfl rfl (by decide) ?_
    simp only [qz]
    refine rf_pick rfl rfl rfl ?_
    simp only [qz]
    refine rg_move ?_
    simp only [qz]
    apply rg_pure (by rfl) (by kernel_rfl)
    case hargs => (simp only [qm, qs, Act.eval]; exact rfl)
    case h => exact fun w hw => sane2_any w
    case hz => exact (fun _ h => by cases h)
    simp only [qz]
    refine rf_pick rfl rfl rfl ?_
    simp only [qz]
    refine rg_assign ?_
    simp only [qz]
    refine rg_nil (ek_next (wk_ret ?_))
    refine ek_ret (fun w hw => ⟨rfl, _, res_t _ rfl, ?_⟩)
    (try simp only [qz])
    first | exact ⟨rfl, hw.below⟩ | exact ⟨trivial, hw.below⟩ | exact hw.below
   (try simp only [qd, ne_eq] at h4)
   simp only [qz]
   refine rg_nil (ek_next (wk_cond_t rfl (wk_skip (ek_next (wk_seq (wk_block (wk_seq ?_)))))))
   refine wk_region [0] rfl (by kernel_rfl) ?_
   simp only [qy]
   refine rg_assign ?_
   simp only [qz]
   refine rg_nil (ek_next (wk_block ?_))
   refine wk_loopF [9, 44, 45, 46, 47, 48, 49, 50, 51, 52, 53, 54, 55, 56, 57, 58, 59, 60, 61, 62, 63, 64, 65, 66, 67, 68, 69, 70, 71, 72, 73, 74, 75, 76, 77, 78, 79, 80, 81, 82, 83, 84, 85, 86, 87, 88, 89, 90, 91] (fun mz f s => ∃ (k : Nat) (u1 u2 : List Blk) (a1 a2 : Option Addr) (c1 c2 : Nat), f 9 = .int .i64 k ∧ s = (u1 ++ (u2 ++ ((g4, .cells #[.int .i64 N, .slice a2 (N * i + k) c2] 24) :: ((g3, .cells #[.int .i64 N, .slice a1 (N * i + k) c1] 24) :: ((g2, .cells #[.int .u8 x0, .int .u8 x1, .int .u8 x2, .int .u8 x3] 51) :: ((g1, .cells #[.int .i64 N, .slice a xs.length c] 24) :: [])))))) ∧ mz = N - k ∧ k ≤ N ∧ i < N ∧ OwnN u1 (.slice a1 (N * i + k) c1) (mvL (rotF N xs x0 x1) (N * i + k)) ∧ OwnN u2 (.slice a2 (N * i + k) c2) (mvL (tunF N xs x2 x3) (N * i + k))) ((fun (k : Nat) (u1 u2 : List Blk) (a1 a2 : Option Addr) (c1 c2 : Nat) => N - k) (0) (u1) (u2) (a1) (a2) (c1) (c2)) ?_ (by kernel_rfl) ?_
   ·exact ⟨0, u1, u2, a1, a2, c1, c2, rfl, rfl, rfl, by omega, by omega, hd2, hd3⟩
   rintro mz f2 s ⟨k, u1, u2, a1, a2, c1, c2, hs2_9, rfl, hn, he1, he2, he3, he4⟩
   simp only [Act.putF, List.foldl_cons, List.foldl_nil, hs2_9, Act.put, Act.eval, q1, q2, q3, q4, q5, q6, q7, q8, q9, q10, q11, q12, q13, q14, q15, q16, q17, q18, Nat.reduceAdd, Bool.not_true, Bool.not_false]
   clear hs2_9
   have hNi : N * i ≤ 36 := Nat.le_trans (Nat.mul_le_mul hN (show i ≤ 6 by omega)) (by decide)
   have hq1 := quad_bd (i := i) (x := x2) (by omega) hx2
   have hq2 := quad_bd (i := k) (x := x3) (by omega) hx3
   refine wk_seq (wk_seq ?_)
   refine wk_region [0, 0, 0] rfl (by kernel_rfl) ?_
   simp only [qy]
   refine rg_move ?_
   simp only [qz]
   refine rg_move ?_
   simp only [qz]
   refine rfb_lss rfl rfl rfl rfl ?_
   intro x h7
   cases x
   ·(try simp only [qd, ne_eq] at h7)
    simp only [qz]
    refine rg_nil (ek_next (wk_cond_f rfl (wk_exit (ek_then_exit (ek_then_exit (ek_block_exit (ek_block (ek_next ?_))))))))
    refine wk_region [0, 0, 0] rfl (by kernel_rfl) ?_
    simp only [qy]
    refine rg_move ?_
    simp only [qz]
    refine rf_add rfl rfl rfl rfl (wrap_ok (by omega) (by omega)) ?_
    simp only [qz]
    refine rg_assign ?_
    simp only [qz]
    refine rg_nil ?_
    obtain rfl : N = k := by omega
    refine ek_roundF (N - (i + 1)) (by omega) (by kernel_rfl) ?_
    exact ⟨i + 1, u1, u2, a1, a2, c1, c2, rfl, by rfl, by rfl, (by omega), he3, he4⟩
   (try simp only [qd, ne_eq] at h7)
   simp only [qz]
   refine rg_nil (ek_next (wk_cond_t rfl (wk_skip (ek_next (wk_seq (wk_block (wk_seq ?_)))))))
   refine wk_draws _ _ [(0, 0), (1, 0), (2, 0), (3, 0), (4, 0), (5, 0), (6, 0), (7, 0), (8, 0), (9, 0), (10, 0), (11, 0), (12, 0), (13, 0), (14, 0), (15, 0), (16, 0), (17, 1), (18, 1), (19, 1), (20, 0), (21, 2)] [21] (by kernel_rfl) (by kernel_rfl) (fun c d v a w h => by cases d <;> exact h) (((List.Sublist.append_left (sc _ (sc _ (sc _ (sc _ sn)))) _).trans (List.sublist_append_right _ _))) (fun e => by exact absurd e (by decide)) ?_ ((List.Sublist.append_left (sc _ (sk _ (sc _ (sc _ sn)))) _))
   simp only [List.map_cons, List.map_nil, List.getD_cons_zero, List.getD_cons_succ]
   refine rf_field (n := 0) (j := 1) rfl rfl rfl Try.underlying24 rfl (by kernel_rfl) rfl ?_
   simp only [qz]
   refine rf_load rfl rfl rfl Try.underlying22 rfl (fun w hw => (Kn.hd0 (Kn.tl (Kn.tlU hw))).at rfl) ?_
   simp only [qz]
   refine rf_loadR (n := 2) rfl rfl rfl Try.underlying24 rfl (by kernel_rfl) (fun w hw => Kn.hd0 (Kn.tl (Kn.tl (Kn.tl (Kn.tlU hw))))) rfl rfl ?_
   simp only [qz]
   refine rg_move ?_
   simp only [qz]
   refine rf_indexA (n := 0) (sz := 1) (j := 0) rfl rfl rfl rfl Try.underlying51 (by kernel_rfl) (by decide) rfl ?_
   simp only [qz]
   refine rf_load rfl rfl rfl Try.underlying5 rfl (fun w hw => (Kn.hd0 (Kn.tl (Kn.tl (Kn.tlU hw)))).at rfl) ?_
   simp only [qz]
   refine rf_conv rfl rfl rfl Try.underlying5 Try.underlying3 (wrap_ok (by omega) (by omega)) ?_
   simp only [qz]
   refine rf_add (r := ((i + x0 : Nat) : Int)) rfl rfl rfl rfl (wrap_eqB (Int.natCast_add _ _).symm (by omega) (by omega)) ?_
   simp only [qz]
   refine rg_move ?_
   simp only [qz]
   refine rf_rem (r := (((i + x0) % N : Nat) : Int)) rfl rfl rfl rfl (by omega) (rem_n) ?_
   simp only [qz]
   refine rg_move ?_
   simp only [qz]
   refine rf_indexA (n := 1) (sz := 1) (j := 1) rfl rfl rfl rfl Try.underlying51 (by kernel_rfl) (by decide) rfl ?_
   simp only [qz]
   refine rf_load rfl rfl rfl Try.underlying5 rfl (fun w hw => (Kn.hd0 (Kn.tl (Kn.tl (Kn.tlU hw)))).at rfl) ?_
   simp only [qz]
   refine rf_conv rfl rfl rfl Try.underlying5 Try.underlying3 (wrap_ok (by omega) (by omega)) ?_
   simp only [qz]
   refine rf_add (r := ((k + x1 : Nat) : Int)) rfl rfl rfl rfl (wrap_eqB (Int.natCast_add _ _).symm (by omega) (by omega)) ?_
   simp only [qz]
   refine rg_move ?_
   simp only [qz]
   refine rf_rem (r := (((k + x1) % N : Nat) : Int)) rfl rfl rfl rfl (by omega) (rem_n) ?_
   simp only [qz]
   apply rg_pure (by rfl) (by kernel_rfl)
   case hargs => (simp only [qm, qs, Act.eval]; exact rfl)
   case h => exact fun w hw => rAt_any N ((i + x0) % N) ((k + x1) % N) xs a c hlx.out hN (Nat.mod_lt _ (by omega)) (Nat.mod_lt _ (by omega)) w (hA.kn0 hw)
   case hz => exact (fun _ h => by cases h; exact ((List.Sublist.append_left (sc _ (sc _ (sc _ (sc _ sn)))) _).trans (List.sublist_append_right _ _)))
   simp only [qz]
   refine rg_newS (cs := ?_) (ty := ?_) (n := 1) (c := 1) (by rfl) (fun w => ?_) (fun _ h => by cases h; exact ((List.Sublist.append_left (sc _ (sc _ (sc _ (sc _ sn)))) _).trans (List.sublist_append_right _ _))) (fun g9 => ?_); rotate_left 2
   focus (go_simp; rfl)
   simp only [qz]
   refine rg_appN' (x := nm xs ((i + x0) % N * N + (k + x1) % N)) (by rfl) rfl he3 (mvL_len _ _) rfl (by omega) (perm_atU (l := [_]) (u := u1) (List.Perm.refl _)) (fun w hw => Kn.hd0 hw) (fun _ h => by cases h; exact (sk _ (List.Sublist.append_left (sc _ (sc _ (sc _ (sc _ sn)))) _))) (fun uNA aNA cNA hONA => ?_)
   simp only [qz]
   (try simp only [List.cons_append, List.nil_append])
   refine rf_field (n := 0) (j := 1) rfl rfl rfl Try.underlying24 rfl (by kernel_rfl) rfl ?_
   simp only [qz]
   refine rf_storeM rfl rfl (by kernel_rfl) rfl rfl (UpdR.app _ (UpdR.there _ (UpdR.app _ (UpdR.there _ (UpdR.here _ _ _ (Nat.le_of_ble_eq_true rfl)))))) ((sk _ (List.Sublist.append_left (sc _ (sk _ (sc _ (sc _ sn)))) _)).trans (List.sublist_append_right _ _)) ?_
   simp only [qz]
   refine rg_nil (ek_next ?_)
   refine wk_draws _ _ [(0, 0), (1, 0), (2, 0), (3, 0), (4, 0), (6, 0), (7, 0), (8, 0), (9, 0), (10, 0), (11, 0), (12, 0), (13, 0), (14, 0), (15, 0), (16, 0), (17, 0), (5, 1), (18, 1), (19, 1), (20, 1), (21, 0), (22, 2)] [22] (by kernel_rfl) (by kernel_rfl) (fun c d v a w h => by cases d <;> exact h) ((List.Sublist.append_left (sc _ ((sc _ (sc _ (sc _ (sc _ sn)))).trans (List.sublist_append_right _ _))) _)) (fun e => by exact absurd e (by decide)) ?_ ((List.Sublist.append_left (sc _ (sk _ (sc _ (sc _ (sc _ sn))))) _))
   simp only [List.map_cons, List.map_nil, List.getD_cons_zero, List.getD_cons_succ]
   refine rf_field (n := 0) (j := 1) rfl rfl rfl Try.underlying24 rfl (by kernel_rfl) rfl ?_
   simp only [qz]
   refine rf_load rfl rfl rfl Try.underlying22 rfl (fun w hw => (Kn.hd0 (Kn.tl (Kn.tlU hw))).at rfl) ?_
   simp only [qz]
   refine rf_loadR (n := 2) rfl rfl rfl Try.underlying24 rfl (by kernel_rfl) (fun w hw => Kn.hd0 (Kn.tl (Kn.tl (Kn.tl (Kn.tl (Kn.tlU hw)))))) rfl rfl ?_
   simp only [qz]
   refine rg_move ?_
   simp only [qz]
   refine rg_move ?_
   simp only [qz]
   refine rg_move ?_
   simp only [qz]
   refine rf_indexA (n := 2) (sz := 1) (j := 2) rfl rfl rfl rfl Try.underlying51 (by kernel_rfl) (by decide) rfl ?_
   simp only [qz]
   refine rf_load rfl rfl rfl Try.underlying5 rfl (fun w hw => (Kn.hd0 (Kn.tl (Kn.tl (Kn.tl (Kn.tlU hw))))).at rfl) ?_
   simp only [qz]
   refine rf_conv rfl rfl rfl Try.underlying5 Try.underlying3 (wrap_ok (by omega) (by omega)) ?_
   simp only [qz]
   refine rf_mul (r := ((i * x2 : Nat) : Int)) rfl rfl rfl rfl (wrap_eqB (Int.natCast_mul _ _).symm (by omega) (by omega)) ?_
   simp only [qz]
   refine rg_move ?_
   simp only [qz]
   refine rf_indexA (n := 3) (sz := 1) (j := 3) rfl rfl rfl rfl Try.underlying51 (by kernel_rfl) (by decide) rfl ?_
   simp only [qz]
   refine rf_load rfl rfl rfl Try.underlying5 rfl (fun w hw => (Kn.hd0 (Kn.tl (Kn.tl (Kn.tl (Kn.tlU hw))))).at rfl) ?_
   simp only [qz]
   refine rf_conv rfl rfl rfl Try.underlying5 Try.underlying3 (wrap_ok (by omega) (by omega)) ?_
   simp only [qz]
   refine rf_mul (r := ((k * x3 : Nat) : Int)) rfl rfl rfl rfl (wrap_eqB (Int.natCast_mul _ _).symm (by omega) (by omega)) ?_
   simp only [qz]
   refine rf_add (r := ((i * x2 + k * x3 : Nat) : Int)) rfl rfl rfl rfl (wrap_eqB (Int.natCast_add _ _).symm (by omega) (by omega)) ?_
   simp only [qz]
   refine rf_rem (r := (((i * x2 + k * x3) % 8 : Nat) : Int)) rfl rfl rfl rfl (by omega) (rem_n (N := 8)) ?_
   simp only [qz]
   apply rg_pure (by rfl) (by kernel_rfl)
   case hargs => (simp only [qm, qs, Act.eval]; exact rfl)
   case h => exact fun w hw => rAt_any N i k xs a c hlx.out hN (by omega) (by omega) w (hA.kn0 hw)
   case hz => exact (fun _ h => by cases h; exact (List.Sublist.append_left (sc _ ((sc _ (sc _ (sc _ (sc _ sn)))).trans (List.sublist_append_right _ _))) _))
   simp only [qz]
   apply rg_pure (by rfl) (by kernel_rfl)
   case hargs => (simp only [qm, qs, Act.eval]; exact rfl)
   case h => exact fun w hw => rTurned_any (nm xs (i * N + k)) ((i * x2 + k * x3) % 8) (ok_at hox (by have := ix_lt (show i < N by omega) (show k < N by omega); have := hlx.out; omega)) (by omega) w
   case hz => exact (fun _ h => by cases h; exact (List.Sublist.append_left (sc _ ((sc _ (sc _ (sc _ (sc _ sn)))).trans (List.sublist_append_right _ _))) _))
   simp only [qz]
   refine rg_newS (cs := ?_) (ty := ?_) (n := 1) (c := 1) (by rfl) (fun w => ?_) (fun _ h => by cases h; exact (List.Sublist.append_left (sc _ ((sc _ (sc _ (sc _ (sc _ sn)))).trans (List.sublist_append_right _ _))) _)) (fun g10 => ?_); rotate_left 2
   focus (go_simp; rfl)
   simp only [qz]
   refine rg_appN' (x := Nm.turn ((i * x2 + k * x3) % 8) (nm xs (i * N + k))) (by rfl) rfl he4 (mvL_len _ _) rfl (by omega) ((((((((List.Perm.refl _).cons _).trans (List.perm_middle (l₁ := u2)).symm).append_left _).trans (List.perm_append_comm_assoc uNA u2 _)).cons _).trans (List.perm_middle (l₁ := u2)).symm).trans ((List.Perm.refl _).append_left _)) (fun w hw => Kn.hd0 hw) (fun _ h => by cases h; exact (sk _ (List.Sublist.append_left (sc _ (sc _ (sc _ (sc _ (sc _ sn))))) _))) (fun uNB aNB cNB hONB => ?_)
   simp only [qz]
   (try simp only [List.cons_append, List.nil_append])
   refine rf_field (n := 0) (j := 1) rfl rfl rfl Try.underlying24 rfl (by kernel_rfl) rfl ?_
   simp only [qz]
   refine rf_storeM rfl rfl (by kernel_rfl) rfl rfl (UpdR.app _ (UpdR.there _ (UpdR.app _ (UpdR.there _ (UpdR.here _ _ _ (Nat.le_of_ble_eq_true rfl)))))) ((sk _ (List.Sublist.append_left (sc _ (sk _ (sc _ (sc _ (sc _ sn))))) _)).trans (List.sublist_append_right _ _)) ?_
   simp only [qz]
   refine rg_nil (ek_block (ek_next ?_))
   refine wk_region [0, 0, 0] rfl (by kernel_rfl) ?_
   simp only [qy]
   refine rg_move ?_
   simp only [qz]
   refine rf_add rfl rfl rfl rfl (wrap_ok (by omega) (by omega)) ?_
   simp only [qz]
   refine rg_assign ?_
   simp only [qz]
   refine rg_nil ?_
   refine ek_sub (List.Sublist.append_left (sk _ (List.Sublist.append_left (sk _ (sc _ (sc _ (sc _ (sc _ sn))))) _)) _) ?_
   refine ek_perm ((((List.Perm.refl _).append_left _).trans (List.perm_append_comm_assoc uNB uNA _)).trans ((List.Perm.refl _).append_left _)) ?_
   refine ek_roundF (N - (k + 1)) (by omega) (by kernel_rfl) ?_
   exact ⟨k + 1, uNA, uNB, aNA, aNB, cNA, cNB, rfl, by rfl, by rfl, (by omega), (by omega), (by have h := hONA; rw [← rot_at N xs x0 x1 i (show k < N by omega), ← mvL_succ] at h; exact h), (by have h := hONB; rw [← tun_at N xs x2 x3 i (show k < N by omega), ← mvL_succ] at h; exact h)⟩
  (try simp only [qd, ne_eq] at h2)
  simp only [qz]
  refine rf_pick rfl rfl rfl ?_
  simp only [qz]
  refine rg_move ?_
  simp only [qz]
  refine rg_skip (by rfl) ?_
  simp only [qz]
  refine rg_skip_h (by rfl) (fun _ h => by cases h) ?_
  simp only [qz]
  refine rg_skip (by rfl) ?_
  simp only [qz]
  refine rf_pick rfl rfl rfl ?_
  simp only [qz]
  refine rg_nil (ek_next (wk_cond_t rfl (wk_seq ?_)))
  refine wk_region [1, 0] rfl (by kernel_rfl) ?_
  simp only [qy]
  apply rg_pure (by rfl) (by kernel_rfl)
  case hargs => (simp only [qm, qs, Act.eval]; exact rfl)
  case h => exact fun w hw => sane2_any w
  case hz => exact (fun _ h => by cases h)
  simp only [qz]
  refine rg_assign ?_
  simp only [qz]
  refine rg_nil (ek_next (wk_ret (ek_then_ret ?_)))
  refine ek_ret (fun w hw => ⟨rfl, _, res_t _ rfl, ?_⟩)
  (try simp only [qz])
  first | exact ⟨rfl, hw.below⟩ | exact ⟨trivial, hw.below⟩ | exact hw.below
 (try simp only [qd, ne_eq] at h1)
 simp only [qz]
 refine rg_move ?_
 simp only [qz]
 refine rg_skip (by rfl) ?_
 simp only [qz]
 refine rg_skip (by rfl) ?_
 simp only [qz]
 refine rg_skip (by rfl) ?_
 simp only [qz]
 refine rf_pick rfl rfl rfl ?_
 simp only [qz]
 refine rg_move ?_
 simp only [qz]
 refine rg_skip (by rfl) ?_
 simp only [qz]
 refine rg_skip_h (by rfl) (fun _ h => by cases h) ?_
 simp only [qz]
 refine rg_skip (by rfl) ?_
 simp only [qz]
 refine rf_pick rfl rfl rfl ?_
 simp only [qz]
 refine rg_nil (ek_next (wk_cond_t rfl (wk_seq ?_)))
 refine wk_region [1, 0] rfl (by kernel_rfl) ?_
 simp only [qy]
 apply rg_pure (by rfl) (by kernel_rfl)
 case hargs => (simp only [qm, qs, Act.eval]; exact rfl)
 case h => exact fun w hw => sane2_any w
 case hz => exact (fun _ h => by cases h)
 simp only [qz]
 refine rg_assign ?_
 simp only [qz]
 refine rg_nil (ek_next (wk_ret (ek_then_ret ?_)))
 refine ek_ret (fun w hw => ⟨rfl, _, res_t _ rfl, ?_⟩)
 (try simp only [qz])
 first | exact ⟨rfl, hw.below⟩ | exact ⟨trivial, hw.below⟩ | exact hw.below
end Go.Proofs.Ytjeijnjaleldkaa
