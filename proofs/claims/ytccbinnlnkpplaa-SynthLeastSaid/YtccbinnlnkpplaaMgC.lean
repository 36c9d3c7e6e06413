/- Several texts in one. -/
import Derived.Test.YtccbinnlnkpplaaMx2
import Derived.Test.YtccbinnlnkpplaaAm4
import Derived.Test.YtccbinnlnkpplaaSm
import Derived.DeepKeys
import Derived.Test.YtccbinnlnkpplaaWs3
import Derived.Test.YtccbinnlnkpplaaWb3
import Derived.Test.YtccbinnlnkpplaaRt
namespace Go.Proofs.Ytccbinnlnkpplaa
set_option linter.all false
open Go.RowKit

set_option maxRecDepth 100000 in
set_option maxHeartbeats 1000000 in
theorem scaled_any (z : Nm) (k : Int) (hz : z.Fit 1000000000) (h0 : 0 ≤ z.k) (h1 : z.k ≤ k) (h2 : k ≤ 40) (w : World) : Calls Try.prog 90 #[nmV z, .int .i64 k] w fun e w' => e = .returned (.agg #[.int .i64 (z.to k).a, .int .i64 (z.to k).b, .int .i64 (z.to k).c, .int .i64 (z.to k).d]) ∧ Below w.heap.size w w' := by
  go_enter Try.func90, Try.ntmps90
  refine wk_start ?_
  refine wk_seq ?_
  refine wk_region [1, 1] rfl (by kernel_rfl) ?_
  simp only [List.zip_cons_cons, List.zip_nil_right]
  refine rg_new (cs := ?_) (ty := ?_) (by rfl) (fun w => ?_) (fun _ h => by cases h) (fun g1 => ?_); rotate_left 2
  focus (go_simp; rfl)
  simp only [Act.put, Act.eval, qn, qv, Nat.reduceAdd]
  refine rg_new (cs := ?_) (ty := ?_) (by rfl) (fun w => ?_) (fun _ h => by cases h) (fun g2 => ?_); rotate_left 2
  focus (go_simp; rfl)
  simp only [Act.put, Act.eval, qn, qv, Nat.reduceAdd]
  refine rg_nil ?_
  refine ek_next ?_
  refine wk_seq ?_
  refine wk_region [0, 0, 1, 1] rfl (by kernel_rfl) ?_
  simp only [List.zip_cons_cons, List.zip_nil_right]
  refine rf_field (n := 3) (j := 0) rfl rfl rfl Try.underlying45 rfl (by kernel_rfl) rfl ?_
  simp only [Act.put, Act.eval, qn, qv, Nat.reduceAdd]
  refine rf_loadR (n := 4) rfl rfl rfl Try.underlying43 rfl (by kernel_rfl) (fun w hw => Kn.hd0 (Kn.tl hw)) rfl rfl ?_
  simp only [Act.put, Act.eval, qn, qv, Nat.reduceAdd]
  refine rg_new (cs := ?_) (ty := ?_) (by rfl) (fun w => ?_) (fun _ h => by cases h) (fun g3 => ?_); rotate_left 2
  focus (go_simp; rfl)
  simp only [Act.put, Act.eval, qn, qv, Nat.reduceAdd]
  refine rf_storeR (n := 4) rfl rfl (by kernel_rfl) rfl rfl (UpdR.here _ _ _ (Nat.le_of_ble_eq_true rfl)) (fun _ h => by cases h) ?_
  simp only [Act.put, Act.eval, qn, qv, Nat.reduceAdd]
  refine rg_nil ?_
  refine ek_next ?_
  refine wk_seq ?_
  refine wk_seq ?_
  refine wk_region [0, 0, 0, 0, 0] rfl (by kernel_rfl) ?_
  simp only [List.zip_cons_cons, List.zip_nil_right]
  refine rg_move ?_
  simp only [Act.put, Act.eval, qn, qv, Nat.reduceAdd]
  refine rf_field (n := 0) (j := 4) rfl rfl rfl Try.underlying45 rfl (by kernel_rfl) rfl ?_
  simp only [Act.put, Act.eval, qn, qv, Nat.reduceAdd]
  refine rf_load rfl rfl rfl Try.underlying3 rfl (fun w hw => (Kn.hd0 (Kn.tl (Kn.tl hw))).at rfl) ?_
  simp only [Act.put, Act.eval, qn, qv, Nat.reduceAdd]
  refine rf_sub rfl rfl rfl rfl (wrap_ok (by omega) (by omega)) ?_
  simp only [Act.put, Act.eval, qn, qv, Nat.reduceAdd]
  refine rg_move ?_
  simp only [Act.put, Act.eval, qn, qv, Nat.reduceAdd]
  refine rg_nil ?_
  refine ek_next ?_
  refine wk_block ?_
  refine wk_loopF [12, 13, 14, 15, 16, 17, 18, 19, 20, 21, 22, 23, 24, 25, 26, 27, 28, 29, 30, 31, 32, 33, 34, 35] (fun mz f s => ∃ (j : Nat) (y : Nm), f 12 = .int .i64 j ∧ s = ((g3, .cells #[.int .i64 y.a, .int .i64 y.b, .int .i64 y.c, .int .i64 y.d] 43) :: ((g2, .cells #[.int .i64 0, .int .i64 0, .int .i64 0, .int .i64 0] 43) :: ((g1, .cells #[.int .i64 z.a, .int .i64 z.b, .int .i64 z.c, .int .i64 z.d, .int .i64 z.k] 45) :: []))) ∧ mz = (k - z.k).toNat - j ∧ (j : Int) ≤ k - z.k ∧ Hid (Nm.up j z = y)) ((fun (j : Nat) (y : Nm) => (k - z.k).toNat - j) (0) (z)) ?_ (by kernel_rfl) ?_
  · exact ⟨0, z, rfl, rfl, rfl, (by omega), Lib.hid rfl⟩
  rintro mz f1 s ⟨j, y, hs1_12, rfl, hn, hd1, hd2⟩
  simp only [Act.putF, List.foldl_cons, List.foldl_nil, hs1_12, Act.put, Act.eval, q1, q2, q3, q4, q5, q6, q7, q8, q9, q10, q11, q12, q13, q14, q15, q16, q17, q18, Nat.reduceAdd, Bool.not_true, Bool.not_false]
  clear hs1_12
  have hy := hd2
  clear hd2
  have hfy := Nm.up40_fit (n := j) hz (by omega)
  rw [hy.out] at hfy
  obtain ⟨fa0, fa1, fb0, fb1, fc0, fc1, fd0, fd1⟩ := hfy
  refine wk_seq ?_
  refine wk_region [0] rfl (by kernel_rfl) ?_
  simp only [List.zip_cons_cons, List.zip_nil_right]
  refine rfb_lss rfl rfl rfl rfl ?_
  intro x h1
  cases x
  · (try simp only [decide_eq_true_eq, decide_eq_false_iff_not, Int.not_lt, Int.not_le, beq_iff_eq, beq_eq_false_iff_ne, bne_iff_ne, bne_eq_false_iff_eq, ne_eq, Bool.not_eq_true', Bool.not_eq_false'] at h1)
    simp only [Act.put, Act.eval, qn, qv, Nat.reduceAdd]
    refine rg_nil ?_
    refine ek_next ?_
    refine wk_seq ?_
    refine wk_cond_f rfl ?_
    refine wk_exit ?_
    refine ek_then_exit ?_
    refine ek_then_exit ?_
    refine ek_block_exit ?_
    refine ek_next ?_
    refine wk_seq ?_
    refine wk_region [0, 1] rfl (by kernel_rfl) ?_
    simp only [List.zip_cons_cons, List.zip_nil_right]
    refine rf_loadR (n := 4) rfl rfl rfl Try.underlying43 rfl (by kernel_rfl) (fun w hw => Kn.hd0 hw) rfl rfl ?_
    simp only [Act.put, Act.eval, qn, qv, Nat.reduceAdd]
    refine rf_storeR (n := 4) rfl rfl (by kernel_rfl) rfl rfl (UpdR.there _ (UpdR.here _ _ _ (Nat.le_of_ble_eq_true rfl))) (fun _ h => by cases h) ?_
    simp only [Act.put, Act.eval, qn, qv, Nat.reduceAdd]
    refine rg_nil ?_
    refine ek_next ?_
    refine wk_ret ?_
    refine ek_ret (fun w hw => ⟨rfl, _, run_results1 rfl rfl (Kn.hd0 (Kn.tl hw)) Try.underlying43 rfl (by kernel_rfl), ?_⟩)
    (try simp only [Act.put, Act.eval, qn, qv, Nat.reduceAdd])
    have e : z.to k = y := by unfold Nm.to; rw [show (k - z.k).toNat = j by omega, hy.out]
    exact ⟨by rw [e], hw.below⟩
  · (try simp only [decide_eq_true_eq, decide_eq_false_iff_not, Int.not_lt, Int.not_le, beq_iff_eq, beq_eq_false_iff_ne, bne_iff_ne, bne_eq_false_iff_eq, ne_eq, Bool.not_eq_true', Bool.not_eq_false'] at h1)
    simp only [Act.put, Act.eval, qn, qv, Nat.reduceAdd]
    refine rg_nil ?_
    refine ek_next ?_
    refine wk_seq ?_
    refine wk_cond_t rfl ?_
    refine wk_skip ?_
    refine ek_next ?_
    refine wk_seq ?_
    refine wk_block ?_
    refine wk_region [0, 0, 0, 0, 0, 0, 0, 0, 0, 0, 0, 0, 0, 0, 0, 0, 0, 0, 0, 0, 0, 1] rfl (by kernel_rfl) ?_
    simp only [List.zip_cons_cons, List.zip_nil_right]
    refine rf_indexA (n := 1) (sz := 1) (j := 1) rfl rfl rfl rfl Try.underlying43 (by kernel_rfl) (by decide) rfl ?_
    simp only [Act.put, Act.eval, qn, qv, Nat.reduceAdd]
    refine rf_load rfl rfl rfl Try.underlying3 rfl (fun w hw => (Kn.hd0 hw).at rfl) ?_
    simp only [Act.put, Act.eval, qn, qv, Nat.reduceAdd]
    refine rf_indexA (n := 3) (sz := 1) (j := 3) rfl rfl rfl rfl Try.underlying43 (by kernel_rfl) (by decide) rfl ?_
    simp only [Act.put, Act.eval, qn, qv, Nat.reduceAdd]
    refine rf_load rfl rfl rfl Try.underlying3 rfl (fun w hw => (Kn.hd0 hw).at rfl) ?_
    simp only [Act.put, Act.eval, qn, qv, Nat.reduceAdd]
    refine rf_sub rfl rfl rfl rfl (wrap_ok (by omega) (by omega)) ?_
    simp only [Act.put, Act.eval, qn, qv, Nat.reduceAdd]
    refine rf_indexA (n := 0) (sz := 1) (j := 0) rfl rfl rfl rfl Try.underlying43 (by kernel_rfl) (by decide) rfl ?_
    simp only [Act.put, Act.eval, qn, qv, Nat.reduceAdd]
    refine rf_load rfl rfl rfl Try.underlying3 rfl (fun w hw => (Kn.hd0 hw).at rfl) ?_
    simp only [Act.put, Act.eval, qn, qv, Nat.reduceAdd]
    refine rf_indexA (n := 2) (sz := 1) (j := 2) rfl rfl rfl rfl Try.underlying43 (by kernel_rfl) (by decide) rfl ?_
    simp only [Act.put, Act.eval, qn, qv, Nat.reduceAdd]
    refine rf_load rfl rfl rfl Try.underlying3 rfl (fun w hw => (Kn.hd0 hw).at rfl) ?_
    simp only [Act.put, Act.eval, qn, qv, Nat.reduceAdd]
    refine rf_add rfl rfl rfl rfl (wrap_ok (by omega) (by omega)) ?_
    simp only [Act.put, Act.eval, qn, qv, Nat.reduceAdd]
    refine rf_indexA (n := 1) (sz := 1) (j := 1) rfl rfl rfl rfl Try.underlying43 (by kernel_rfl) (by decide) rfl ?_
    simp only [Act.put, Act.eval, qn, qv, Nat.reduceAdd]
    refine rf_load rfl rfl rfl Try.underlying3 rfl (fun w hw => (Kn.hd0 hw).at rfl) ?_
    simp only [Act.put, Act.eval, qn, qv, Nat.reduceAdd]
    refine rf_indexA (n := 3) (sz := 1) (j := 3) rfl rfl rfl rfl Try.underlying43 (by kernel_rfl) (by decide) rfl ?_
    simp only [Act.put, Act.eval, qn, qv, Nat.reduceAdd]
    refine rf_load rfl rfl rfl Try.underlying3 rfl (fun w hw => (Kn.hd0 hw).at rfl) ?_
    simp only [Act.put, Act.eval, qn, qv, Nat.reduceAdd]
    refine rf_add rfl rfl rfl rfl (wrap_ok (by omega) (by omega)) ?_
    simp only [Act.put, Act.eval, qn, qv, Nat.reduceAdd]
    refine rf_indexA (n := 2) (sz := 1) (j := 2) rfl rfl rfl rfl Try.underlying43 (by kernel_rfl) (by decide) rfl ?_
    simp only [Act.put, Act.eval, qn, qv, Nat.reduceAdd]
    refine rf_load rfl rfl rfl Try.underlying3 rfl (fun w hw => (Kn.hd0 hw).at rfl) ?_
    simp only [Act.put, Act.eval, qn, qv, Nat.reduceAdd]
    refine rf_indexA (n := 0) (sz := 1) (j := 0) rfl rfl rfl rfl Try.underlying43 (by kernel_rfl) (by decide) rfl ?_
    simp only [Act.put, Act.eval, qn, qv, Nat.reduceAdd]
    refine rf_load rfl rfl rfl Try.underlying3 rfl (fun w hw => (Kn.hd0 hw).at rfl) ?_
    simp only [Act.put, Act.eval, qn, qv, Nat.reduceAdd]
    refine rf_sub rfl rfl rfl rfl (wrap_ok (by omega) (by omega)) ?_
    simp only [Act.put, Act.eval, qn, qv, Nat.reduceAdd]
    refine rf_build (cs := fun a => #[a.eval (.tmp 18), a.eval (.tmp 23), a.eval (.tmp 28), a.eval (.tmp 33)]) rfl rfl (by kernel_rfl) ?_
    simp only [Act.put, Act.eval, qn, qv, Nat.reduceAdd]
    refine rf_storeR (n := 4) rfl rfl (by kernel_rfl) rfl rfl (UpdR.here _ _ _ (Nat.le_of_ble_eq_true rfl)) (fun _ h => by cases h) ?_
    simp only [Act.put, Act.eval, qn, qv, Nat.reduceAdd]
    refine rg_nil ?_
    refine ek_block ?_
    refine ek_next ?_
    refine wk_region [0, 0] rfl (by kernel_rfl) ?_
    simp only [List.zip_cons_cons, List.zip_nil_right]
    refine rf_add rfl rfl rfl rfl (wrap_ok (by omega) (by omega)) ?_
    simp only [Act.put, Act.eval, qn, qv, Nat.reduceAdd]
    refine rg_move ?_
    simp only [Act.put, Act.eval, qn, qv, Nat.reduceAdd]
    refine rg_nil ?_
    refine ek_roundF ((k - z.k).toNat - (j + 1)) (by omega) (by kernel_rfl) ?_
    exact ⟨j + 1, y.tr, rfl, (by rfl), by rfl, (by omega), (Lib.hid (by rw [Nm.up_succ1, hy.out]))⟩

theorem ix_small {i N : Nat} (hi : i < N) (hN : N ≤ 6) : i * N + N ≤ N * N ∧ N * N ≤ 36 := by
  have h1 := Nat.mul_le_mul_right N (show i + 1 ≤ N by omega)
  have h2 := Nat.mul_le_mul hN hN
  rw [Nat.add_mul, Nat.one_mul] at h1
  omega
set_option maxRecDepth 100000 in
set_option maxHeartbeats 1000000 in
theorem at_any (N i k : Nat) (xs : List Nm) (a : Option Addr) (c : Nat) (hl : xs.length = N * N) (hN : N ≤ 6) (hi : i < N) (hk : k < N) (w : World) (hA : AS w a (nms xs)) : Calls Try.prog 78 #[.agg #[.int .i64 N, .slice a xs.length c], .int .i64 i, .int .i64 k] w fun e w' => e = .returned (nmV (nm xs (i * N + k))) ∧ Below w.heap.size w w' := by
  have hm := ix_small hi hN
  have hc0 : ((i * N : Nat) : Int) = (i : Int) * N := Int.natCast_mul i N
  obtain ⟨b, off, rfl, hlt, hcell⟩ := AS.openN hA (by omega)
  go_enter Try.func78, Try.ntmps78
  refine wk_start ?_
  refine wk_seq ?_
  refine wk_region [1, 1] rfl (by kernel_rfl) ?_
  simp only [List.zip_cons_cons, List.zip_nil_right]
  refine rg_new (cs := ?_) (ty := ?_) (by rfl) (fun w => ?_) (fun _ h => by cases h) (fun g1 => ?_); rotate_left 2
  focus (go_simp; rfl)
  simp only [Act.put, Act.eval, qn, qv, Nat.reduceAdd]
  refine rg_new (cs := ?_) (ty := ?_) (by rfl) (fun w => ?_) (fun _ h => by cases h) (fun g2 => ?_); rotate_left 2
  focus (go_simp; rfl)
  simp only [Act.put, Act.eval, qn, qv, Nat.reduceAdd]
  refine rg_nil ?_
  refine ek_next ?_
  refine wk_seq ?_
  refine wk_region [0, 0, 0, 0, 0, 0, 0, 0, 0, 0, 0, 0, 1] rfl (by kernel_rfl) ?_
  simp only [List.zip_cons_cons, List.zip_nil_right]
  refine rf_field (n := 1) (j := 0) rfl rfl rfl Try.underlying93 rfl (by kernel_rfl) rfl ?_
  simp only [Act.put, Act.eval, qn, qv, Nat.reduceAdd]
  refine rf_field (n := 0) (j := 1) rfl rfl rfl Try.underlying38 rfl (by kernel_rfl) rfl ?_
  simp only [Act.put, Act.eval, qn, qv, Nat.reduceAdd]
  refine rf_load rfl rfl rfl Try.underlying36 rfl (fun w hw => (Kn.hd0 (Kn.tl hw)).at rfl) ?_
  simp only [Act.put, Act.eval, qn, qv, Nat.reduceAdd]
  refine rg_move ?_
  simp only [Act.put, Act.eval, qn, qv, Nat.reduceAdd]
  refine rf_field (n := 1) (j := 0) rfl rfl rfl Try.underlying93 rfl (by kernel_rfl) rfl ?_
  simp only [Act.put, Act.eval, qn, qv, Nat.reduceAdd]
  refine rf_field (n := 0) (j := 0) rfl rfl rfl Try.underlying38 rfl (by kernel_rfl) rfl ?_
  simp only [Act.put, Act.eval, qn, qv, Nat.reduceAdd]
  refine rf_load rfl rfl rfl Try.underlying3 rfl (fun w hw => (Kn.hd0 (Kn.tl hw)).at rfl) ?_
  simp only [Act.put, Act.eval, qn, qv, Nat.reduceAdd]
  refine rf_mul rfl rfl rfl rfl (wrap_ok (by omega) (by omega)) ?_
  simp only [Act.put, Act.eval, qn, qv, Nat.reduceAdd]
  refine rg_move ?_
  simp only [Act.put, Act.eval, qn, qv, Nat.reduceAdd]
  refine rf_add rfl rfl rfl rfl (wrap_ok (by omega) (by omega)) ?_
  simp only [Act.put, Act.eval, qn, qv, Nat.reduceAdd]
  refine rf_indexS (n := i * N + k) (sz := 5) (j := off + (i * N + k) * 5) rfl rfl rfl rfl Try.underlying36 (by kernel_rfl) (by rw [Int.natCast_add, Int.natCast_mul]) (by omega) rfl ?_
  simp only [Act.put, Act.eval, qn, qv, Nat.reduceAdd]
  refine rf_loadC (n := 5) (vs := nmC (nm xs (i * N + k))) rfl rfl rfl Try.underlying45 rfl (by kernel_rfl) rfl (fun w hw => atN_range ((hcell _ (by omega)).kn hw hlt (by simp))) ?_
  simp only [Act.put, Act.eval, qn, qv, Nat.reduceAdd]
  refine rf_storeR (n := 5) rfl rfl (by kernel_rfl) rfl rfl (UpdR.here _ _ _ (Nat.le_of_ble_eq_true rfl)) (fun _ h => by cases h) ?_
  simp only [Act.put, Act.eval, qn, qv, Nat.reduceAdd]
  refine rg_nil ?_
  refine ek_next ?_
  refine wk_ret ?_
  refine ek_ret (fun w hw => ⟨rfl, _, run_results1 rfl rfl (Kn.hd0 hw) Try.underlying45 rfl (by kernel_rfl), ?_⟩)
  (try simp only [Act.put, Act.eval, qn, qv, Nat.reduceAdd])
  first | exact ⟨rfl, hw.below⟩ | exact ⟨trivial, hw.below⟩ | exact hw.below

end Go.Proofs.Ytccbinnlnkpplaa
namespace Go.Proofs.Ytccbinnlnkpplaa
set_option linter.all false
open Go.RowKit

set_option maxRecDepth 100000 in
set_option maxHeartbeats 1000000 in
theorem w6_eqIn (x y : W6) (w : World) : (Op.equalIn 9999 108 (w6V x) (w6V y)).run Try.prog w = .ok (decide (x = y)) w := by
  have u3 := Try.underlying99
  have a3 := Try.isAgg99
  have z3 := Try.sizeOf99
  obtain ⟨x0, x1, x2, x3, x4, x5⟩ := x
  obtain ⟨y0, y1, y2, y3, y4, y5⟩ := y
  rw [show (9999 : Nat) = 9998 + 1 from rfl, Op.equalIn]
  simp only [Sem.run_bind, run_underlying Try.underlying108, Result.andThen_ok]
  simp only [Std.Legacy.Range.forIn_eq_forIn_range', Std.Legacy.Range.size, Nat.sub_zero, Nat.add_sub_cancel, Nat.div_one, List.range'_succ, List.range'_zero, List.forIn_cons, List.forIn_nil]
  go_simp
  by_cases h0 : x0 = y0
  · by_cases h1 : x1 = y1
    · by_cases h2 : x2 = y2
      · by_cases h3 : x3 = y3
        · by_cases h4 : x4 = y4
          · by_cases h5 : x5 = y5 <;> simp [h0, h1, h2, h3, h4, h5]
          · simp [h0, h1, h2, h3, h4]
        · simp [h0, h1, h2, h3]
      · simp [h0, h1, h2]
    · simp [h0, h1]
  · simp [h0]
def smEq (X Y : Nat → Int) : Bool := decide (W6.of (X 0) = W6.of (Y 0)) && (decide (W6.of (X 1) = W6.of (Y 1)) && (decide (W6.of (X 2) = W6.of (Y 2)) && decide (W6.of (X 3) = W6.of (Y 3))))
theorem part_sm {X : Nat → Int} {m : Nat} (hm : m < 4) (w : World) : (part 108 (smC X) (m * 6)).run Try.prog w = .ok (w6V (W6.of (X m))) w := by
  unfold part
  have ha := run_isAgg (P := Try.prog) Try.underlying108 w
  have hz := Try.sizeOf108 w
  simp only [isRow] at ha
  rw [Sem.run_bind, ha, Result.andThen_ok]
  simp only [if_true, Sem.run_bind, hz, Result.andThen_ok, Sem.run_pure]
  rw [sm_idx hm]
set_option maxRecDepth 100000 in
set_option maxHeartbeats 1000000 in
theorem sm_eqIn (X Y : Nat → Int) (w : World) : (Op.equalIn 10000 110 (.agg (smC X)) (.agg (smC Y))).run Try.prog w = .ok (smEq X Y) w := by
  have z4 := Try.sizeOf108
  have p0 := part_sm (X := X) (m := 0) (by decide)
  have p1 := part_sm (X := X) (m := 1) (by decide)
  have p2 := part_sm (X := X) (m := 2) (by decide)
  have p3 := part_sm (X := X) (m := 3) (by decide)
  have r0 := part_sm (X := Y) (m := 0) (by decide)
  have r1 := part_sm (X := Y) (m := 1) (by decide)
  have r2 := part_sm (X := Y) (m := 2) (by decide)
  have r3 := part_sm (X := Y) (m := 3) (by decide)
  have e0 := w6_eqIn (W6.of (X 0)) (W6.of (Y 0))
  have e1 := w6_eqIn (W6.of (X 1)) (W6.of (Y 1))
  have e2 := w6_eqIn (W6.of (X 2)) (W6.of (Y 2))
  have e3 := w6_eqIn (W6.of (X 3)) (W6.of (Y 3))
  unfold smEq
  generalize decide (W6.of (X 0) = W6.of (Y 0)) = b0 at *
  generalize decide (W6.of (X 1) = W6.of (Y 1)) = b1 at *
  generalize decide (W6.of (X 2) = W6.of (Y 2)) = b2 at *
  generalize decide (W6.of (X 3) = W6.of (Y 3)) = b3 at *
  rw [show (10000 : Nat) = 9999 + 1 from rfl, Op.equalIn]
  simp only [Sem.run_bind, run_underlying Try.underlying110, Result.andThen_ok, z4]
  simp only [Std.Legacy.Range.forIn_eq_forIn_range', Std.Legacy.Range.size, Nat.sub_zero, Nat.add_sub_cancel, Nat.div_one, List.range'_succ, List.range'_zero, List.forIn_cons, List.forIn_nil, Nat.zero_add, Nat.reduceAdd]
  simp only [Sem.run_bind, Result.andThen_ok, p0, p1, p2, p3, r0, r1, r2, r3, e0, e1, e2, e3]
  cases b0 <;> cases b1 <;> cases b2 <;> cases b3 <;> simp [Sem.run_bind, Sem.run_pure, Result.andThen_ok, p0, p1, p2, p3, r0, r1, r2, r3, e0, e1, e2, e3]
set_option maxRecDepth 100000 in
theorem sm_guard (op : BinOp) (u v : Operand) (X Y : Nat → Int) (w : World) : (eqGuard op 110 u v (.agg (smC X)) (.agg (smC Y))).run Try.prog w = .ok () w := by
  have h : (Try.prog.eqGuardType Try.prog.depth 110) = false := by kernel_rfl
  unfold eqGuard
  cases op <;> simp [h]
theorem smEq_iff {X Y : Nat → Int} (hX : ∀ m, m < 4 → In384 (X m)) (hY : ∀ m, m < 4 → In384 (Y m)) : smEq X Y = true ↔ ∀ m, m < 4 → X m = Y m := by
  unfold smEq
  simp only [Bool.and_eq_true, decide_eq_true_eq]
  constructor
  · rintro ⟨h0, h1, h2, h3⟩ m hm
    rcases lt4 hm with rfl | rfl | rfl | rfl
    · exact W6.of_inj (hX 0 hm) (hY 0 hm) h0
    · exact W6.of_inj (hX 1 hm) (hY 1 hm) h1
    · exact W6.of_inj (hX 2 hm) (hY 2 hm) h2
    · exact W6.of_inj (hX 3 hm) (hY 3 hm) h3
  · intro h
    rw [h 0 (by decide), h 1 (by decide), h 2 (by decide), h 3 (by decide)]
    exact ⟨rfl, rfl, rfl, rfl⟩
section
variable {R : Option Nat} {ops : Array Oper} {Q : Exit → Act → World → Prop} {B : World} {F : List Nat} {s0 : Option (List Blk × List Blk)}
variable {l : List (Oper × Nat)} {a : Act} {s : List Blk} {d : Option Tmp} {t : TypeId} {p : String} {af : Array Edge} {gd : Option (Nat × Bool)} {m : Nat}
theorem rfb_neS {x y : Operand} {z : TypeId} (X Y : Nat → Int) (hm : soft03 m = true) (hg : Region.wanted ⟨d, .binOp .neq 110 x y z, t, p, af, gd⟩ (yielded ops a.tmps) = true)
    (hx : a.eval x = .agg (smC X)) (hy : a.eval y = .agg (smC Y)) (h : ∀ b, (!smEq X Y) = b → Rg R Try.prog ops Q B F s0 l (a.put d (.bool b)) s) : Rg R Try.prog ops Q B F s0 ((⟨d, .binOp .neq 110 x y z, t, p, af, gd⟩, m) :: l) a s := by
  refine rg_any hm hg (fun w => ?_) (h _ rfl)
  unfold Yld
  have hb : (binOp .neq 110 (.agg (smC X)) (.agg (smC Y))).run Try.prog w = .ok (.bool (!smEq X Y)) w := by rw [run_neq_struct, sm_eqIn]; rfl
  have hgd := sm_guard .neq x y X Y w
  show ((eqGuard .neq _ x y (a.eval x) (a.eval y) >>= fun _ => binOp .neq _ (a.eval x) (a.eval y)) >>= fun r => pure (Next.value r)).run Try.prog w = _
  rw [hx, hy, Sem.run_bind, Sem.run_bind, hgd, Result.andThen_ok, hb]
  rfl
end
end Go.Proofs.Ytccbinnlnkpplaa
namespace Go.Proofs.Ytccbinnlnkpplaa
set_option linter.all false
open Go.RowKit

/-- The first n products of rows i and j, brought to the exponent K. -/
def rowS (xs : List Nm) (N : Nat) (K : Int) (i j : Nat) : Nat → Nat → Int
  | 0 => fun _ => 0
  | n + 1 => fun m => rowS xs N K i j n m + acc (acc (sel4 1 0 0 0) (sel4 ((nm xs (i * N + n)).to K).a ((nm xs (i * N + n)).to K).b ((nm xs (i * N + n)).to K).c ((nm xs (i * N + n)).to K).d) 16)
      (sel4 ((nm xs (j * N + n)).to K).a (-((nm xs (j * N + n)).to K).d) (-((nm xs (j * N + n)).to K).c) (-((nm xs (j * N + n)).to K).b)) 16 m
def wantS (K : Int) (i j : Nat) : Nat → Int := if i = j then upd (fun _ => 0) 0 (2 ^ K.toNat) else fun _ => 0
theorem sm_over {T T' : Nat → Int} : setMany (smC T) 0 (smC T').toList = smC T' := by kernel_rfl
theorem pow40 {k : Nat} (h : k ≤ 40) : 1 ≤ (2 : Int) ^ k ∧ (2 : Int) ^ k ≤ 1099511627776 := by
  have h1 := Nat.pow_le_pow_right (n := 2) (by omega) h
  have h2 := Nat.one_le_two_pow (n := k)
  have e : ((2 ^ k : Nat) : Int) = (2 : Int) ^ k := by simp
  have e2 : (2 : Nat) ^ 40 = 1099511627776 := by decide
  omega
theorem entry_fit {xs : List Nm} {N : Nat} {K : Int} (hok : allOk xs = true) (hlen : xs.length = N * N) (hN : N ≤ 6) {i k : Nat} (hi : i < N) (hk : k < N) (hK : K ≤ 40) (hKz : ∀ z ∈ xs, z.k ≤ K) :
    (nm xs (i * N + k)).Fit 1000000000 ∧ 0 ≤ (nm xs (i * N + k)).k ∧ (nm xs (i * N + k)).k ≤ K ∧ ((nm xs (i * N + k)).to K).Fit 1048576000000000 := by
  have hx := ix_small hi hN
  have hlt : i * N + k < xs.length := by omega
  have h := ok_at hok hlt
  have hm := hKz _ (NmE.at_mem hlt)
  refine ⟨h.fit, h.k0, hm, ?_⟩
  unfold Nm.to
  exact Nm.up40_fit h.fit (by have := h.k0; omega)
set_option maxRecDepth 100000 in
set_option maxHeartbeats 2000000 in
theorem unitary_walk (N : Nat) (K : Int) (xs : List Nm) (a : Option Addr) (c : Nat) (hN1 : 1 ≤ N) (hN : N ≤ 6) (hlen : Hid (xs.length = N * N)) (hl36 : xs.length ≤ 36) (hok : allOk xs = true) (hv : Hid (validB N xs = true)) (hK : Hid (expo xs = K)) (hK0 : 0 ≤ K) (hK40 : K ≤ 40) (hKz : ∀ z ∈ xs, z.k ≤ K) (w : World) (hA : AS w a (nms xs)) : Calls Try.prog 48 #[.agg #[.int .i64 N, .slice a xs.length c]] w fun e w' => ∃ b, e = .returned (.tuple #[.bool b, .int .i64 0]) ∧ (b = true ↔ ∀ i j, i < N → j < N → smEq (rowS xs N K i j N) (wantS K i j) = true) ∧ Below w.heap.size w w' := by
  have hl : xs.length ≤ 1000000 := by omega
  go_enter Try.func48, Try.ntmps48
  refine wk_start ?_
  refine wk_seq ?_
  refine wk_region [1, 0, 0] rfl (by kernel_rfl) ?_
  simp only [List.zip_cons_cons, List.zip_nil_right]
  refine rg_new (cs := ?_) (ty := ?_) (by rfl) (fun w => ?_) (fun _ h => by cases h) (fun g1 => ?_); rotate_left 2
  focus (go_simp; rfl)
  simp only [Act.put, Act.eval, qn, qv, Nat.reduceAdd]
  refine rg_assign ?_
  simp only [Act.put, Act.eval, qn, qv, Nat.reduceAdd]
  refine rg_assign ?_
  simp only [Act.put, Act.eval, qn, qv, Nat.reduceAdd]
  refine rg_nil ?_
  refine ek_next ?_
  refine wk_seq ?_
  refine wk_seq ?_
  refine wk_region [0, 1, 0] rfl (by kernel_rfl) ?_
  simp only [List.zip_cons_cons, List.zip_nil_right]
  refine rf_loadR (n := 2) rfl rfl rfl Try.underlying38 rfl (by kernel_rfl) (fun w hw => Kn.hd0 hw) rfl rfl ?_
  simp only [Act.put, Act.eval, qn, qv, Nat.reduceAdd]
  apply rg_pure (by rfl) (by kernel_rfl)
  case hargs => (simp only [qm, qs, Act.eval]; exact rfl)
  case h => exact fun w hw => by have := mvalid_any N xs a c hl w (hA.kn0 hw); rw [hv.out] at this; exact this
  case hz => exact (fun _ h => by cases h)
  simp only [Act.put, Act.eval, qn, qv, Nat.reduceAdd]
  refine rf_not rfl rfl rfl ?_
  simp only [Act.put, Act.eval, qn, qv, Nat.reduceAdd]
  refine rg_nil ?_
  refine ek_next ?_
  refine wk_cond_f rfl ?_
  refine wk_skip ?_
  refine ek_next ?_
  refine wk_cutF [4, 5, 16, 17, 18, 19, 20] (fun f s => ∃ (gt : Nat), f 4 = .pointer (some ⟨gt, 0, none⟩) ∧ f 5 = .int .i64 K ∧ s = ((gt, .cells #[.int .i64 N, .slice a xs.length c] 93) :: ((g1, .cells #[.int .i64 N, .slice a xs.length c] 38) :: []))) ?_ ?_
  · refine wk_rt _ (by kernel_rfl) (sc _ sn) ?_
    refine rt_soft (i := 0) rfl (by kernel_rfl) (fun c d v a w h => by cases d <;> exact h) (sc _ sn) ?_
    refine rf_loadR (n := 2) rfl rfl rfl Try.underlying38 rfl (by kernel_rfl) (fun w hw => Kn.hd0 hw) rfl rfl ?_
    simp only [Act.put, Act.eval, qn, qv, Nat.reduceAdd]
    refine rg_nil ?_
    refine ek_rt (sc _ sn) ?_
    refine rt_soft (i := 1) rfl (by kernel_rfl) (fun c d v a w h => by cases d <;> exact h) (sc _ sn) ?_
    refine rf_build (cs := fun a => #[cellAt (a.eval (.tmp 16)) 0, cellAt (a.eval (.tmp 16)) 1]) rfl rfl (by kernel_rfl) ?_
    simp only [Act.put, Act.eval, qn, qv, Nat.reduceAdd]
    refine rg_nil ?_
    refine ek_rt (sc _ sn) ?_
    refine rt_soft (i := 2) rfl (by kernel_rfl) (fun c d v a w h => by cases d <;> exact h) (sc _ sn) ?_
    refine rf_field (n := 0) (j := 1) rfl rfl rfl Try.underlying38 rfl (by kernel_rfl) rfl ?_
    simp only [Act.put, Act.eval, qn, qv, Nat.reduceAdd]
    refine rg_nil ?_
    refine ek_rt (sc _ sn) ?_
    refine rt_soft (i := 3) rfl (by kernel_rfl) (fun c d v a w h => by cases d <;> exact h) (sc _ sn) ?_
    refine rf_load rfl rfl rfl Try.underlying36 rfl (fun w hw => (Kn.hd0 hw).at rfl) ?_
    simp only [Act.put, Act.eval, qn, qv, Nat.reduceAdd]
    refine rg_nil ?_
    refine ek_rt (sc _ sn) ?_
    refine rt_hard2 (i := 4) (j := 5) (by kernel_rfl) rfl rfl ?_ ?_
    · apply rg_pure (by rfl) (by kernel_rfl)
      case hargs => (simp only [qm, qs, Act.eval]; exact rfl)
      case h => exact fun w hw => by have := exponent_any xs a c hl w (hA.kn0 hw); rw [hK.out] at this; exact this
      case hz => exact (fun _ h => by cases h; exact (sc _ sn))
      simp only [Act.put, Act.eval, qn, qv, Nat.reduceAdd]
      refine rg_nil ?_
      refine ek_rt (sc _ sn) ?_
      refine rt_hard1 (i := 5) (by kernel_rfl) rfl ?_
      refine rg_new (cs := ?_) (ty := ?_) (by rfl) (fun w => ?_) (fun _ h => by cases h; exact (sc _ sn)) (fun g2 => ?_); rotate_left 2
      focus (go_simp; rfl)
      simp only [Act.put, Act.eval, qn, qv, Nat.reduceAdd]
      refine rg_nil ?_
      refine ek_rt (sk _ (sc _ sn)) ?_
      refine rt_hard1 (i := 6) (by kernel_rfl) rfl ?_
      refine rf_storeR (n := 2) rfl rfl (by kernel_rfl) rfl rfl (UpdR.here _ _ _ (Nat.le_of_ble_eq_true rfl)) (fun _ h => by cases h; exact (sk _ (sc _ sn))) ?_
      simp only [Act.put, Act.eval, qn, qv, Nat.reduceAdd]
      refine rg_nil ?_
      refine ek_rt (sk _ (sc _ sn)) ?_
      refine rt_soft (i := 7) rfl (by kernel_rfl) (fun c d v a w h => by cases d <;> exact h) (sk _ (sc _ sn)) ?_
      refine rg_assign ?_
      simp only [Act.put, Act.eval, qn, qv, Nat.reduceAdd]
      refine rg_nil ?_
      refine ek_rt (sk _ (sc _ sn)) ?_
      refine rt_nil (by kernel_rfl) ?_
      refine ek_midF (by kernel_rfl) ?_
      exact ⟨g2, rfl, rfl, by rfl⟩
    · refine rg_new (cs := ?_) (ty := ?_) (by rfl) (fun w => ?_) (fun _ h => by cases h; exact (sc _ sn)) (fun g3 => ?_); rotate_left 2
      focus (go_simp; rfl)
      simp only [Act.put, Act.eval, qn, qv, Nat.reduceAdd]
      refine rg_nil ?_
      refine ek_rt (sk _ (sc _ sn)) ?_
      refine rt_hard1 (i := 4) (by kernel_rfl) rfl ?_
      apply rg_pure (by rfl) (by kernel_rfl)
      case hargs => (simp only [qm, qs, Act.eval]; exact rfl)
      case h => exact fun w hw => by have := exponent_any xs a c hl w (hA.kn0 hw); rw [hK.out] at this; exact this
      case hz => exact (fun _ h => by cases h; exact (sk _ (sc _ sn)))
      simp only [Act.put, Act.eval, qn, qv, Nat.reduceAdd]
      refine rg_nil ?_
      refine ek_rt (sk _ (sc _ sn)) ?_
      refine rt_hard1 (i := 6) (by kernel_rfl) rfl ?_
      refine rf_storeR (n := 2) rfl rfl (by kernel_rfl) rfl rfl (UpdR.here _ _ _ (Nat.le_of_ble_eq_true rfl)) (fun _ h => by cases h; exact (sk _ (sc _ sn))) ?_
      simp only [Act.put, Act.eval, qn, qv, Nat.reduceAdd]
      refine rg_nil ?_
      refine ek_rt (sk _ (sc _ sn)) ?_
      refine rt_soft (i := 7) rfl (by kernel_rfl) (fun c d v a w h => by cases d <;> exact h) (sk _ (sc _ sn)) ?_
      refine rg_assign ?_
      simp only [Act.put, Act.eval, qn, qv, Nat.reduceAdd]
      refine rg_nil ?_
      refine ek_rt (sk _ (sc _ sn)) ?_
      refine rt_nil (by kernel_rfl) ?_
      refine ek_midF (by kernel_rfl) ?_
      exact ⟨g3, rfl, rfl, by rfl⟩
  · rintro f1 s ⟨gt, hs1_4, hs1_5, rfl⟩
    simp only [Act.putF, List.foldl_cons, List.foldl_nil, hs1_4, hs1_5, Act.put, Act.eval, q1, q2, q3, q4, q5, q6, q7, q8, q9, q10, q11, q12, q13, q14, q15, q16, q17, q18, Nat.reduceAdd, Bool.not_true, Bool.not_false]
    clear hs1_4 hs1_5
    refine wk_seq ?_
    refine wk_seq ?_
    refine wk_region [0, 0, 0] rfl (by kernel_rfl) ?_
    simp only [List.zip_cons_cons, List.zip_nil_right]
    refine rf_field (n := 0) (j := 0) rfl rfl rfl Try.underlying38 rfl (by kernel_rfl) rfl ?_
    simp only [Act.put, Act.eval, qn, qv, Nat.reduceAdd]
    refine rf_load rfl rfl rfl Try.underlying3 rfl (fun w hw => (Kn.hd0 (Kn.tl hw)).at rfl) ?_
    simp only [Act.put, Act.eval, qn, qv, Nat.reduceAdd]
    refine rg_move ?_
    simp only [Act.put, Act.eval, qn, qv, Nat.reduceAdd]
    refine rg_nil ?_
    refine ek_next ?_
    refine wk_block ?_
    refine wk_loopF [2, 3, 6, 7, 8, 9, 10, 11, 12, 23, 24, 25, 26, 27, 28, 29, 30, 31, 32, 33, 34, 35, 36, 37, 38, 39, 40, 41, 42, 43, 44, 45, 46, 47, 48, 49, 50, 51, 52, 53, 54, 55, 56, 57, 58, 59, 60, 61, 62, 63, 64, 65, 66, 67, 68, 69, 70, 71, 72, 73, 74, 75, 76, 77, 78] (fun mz f s => ∃ (i : Nat), f 23 = .int .i64 i ∧ s = ((gt, .cells #[.int .i64 N, .slice a xs.length c] 93) :: ((g1, .cells #[.int .i64 N, .slice a xs.length c] 38) :: [])) ∧ mz = N - i ∧ i ≤ N ∧ (∀ i2, i2 < i → ∀ j2, j2 < N → smEq (rowS xs N K i2 j2 N) (wantS K i2 j2) = true)) ((fun (i : Nat) => N - i) (0)) ?_ (by kernel_rfl) ?_
    · exact ⟨0, rfl, rfl, rfl, by omega, fun _ h => by omega⟩
    rintro mz f2 s ⟨i, hs2_23, rfl, hn, hd1, hd2⟩
    simp only [Act.putF, List.foldl_cons, List.foldl_nil, hs2_23, Act.put, Act.eval, q1, q2, q3, q4, q5, q6, q7, q8, q9, q10, q11, q12, q13, q14, q15, q16, q17, q18, Nat.reduceAdd, Bool.not_true, Bool.not_false]
    clear hs2_23
    refine wk_seq ?_
    refine wk_region [0] rfl (by kernel_rfl) ?_
    simp only [List.zip_cons_cons, List.zip_nil_right]
    refine rfb_lss rfl rfl rfl rfl ?_
    intro x h1
    cases x
    · (try simp only [decide_eq_true_eq, decide_eq_false_iff_not, Int.not_lt, Int.not_le, beq_iff_eq, beq_eq_false_iff_ne, bne_iff_ne, bne_eq_false_iff_eq, ne_eq, Bool.not_eq_true', Bool.not_eq_false'] at h1)
      simp only [Act.put, Act.eval, qn, qv, Nat.reduceAdd]
      refine rg_nil ?_
      refine ek_next ?_
      refine wk_seq ?_
      refine wk_cond_f rfl ?_
      refine wk_exit ?_
      refine ek_then_exit ?_
      refine ek_then_exit ?_
      refine ek_block_exit ?_
      refine ek_next ?_
      refine wk_seq ?_
      refine wk_region [0, 0] rfl (by kernel_rfl) ?_
      simp only [List.zip_cons_cons, List.zip_nil_right]
      refine rg_assign ?_
      simp only [Act.put, Act.eval, qn, qv, Nat.reduceAdd]
      refine rg_assign ?_
      simp only [Act.put, Act.eval, qn, qv, Nat.reduceAdd]
      refine rg_nil ?_
      refine ek_next ?_
      refine wk_ret ?_
      refine ek_ret (fun w hw => ⟨rfl, _, res_tt _ _ rfl, ?_⟩)
      (try simp only [Act.put, Act.eval, qn, qv, Nat.reduceAdd])
      exact ⟨true, rfl, ⟨fun _ i2 j2 hi hj => hd2 i2 (by omega) j2 hj, fun _ => rfl⟩, hw.below⟩
    · (try simp only [decide_eq_true_eq, decide_eq_false_iff_not, Int.not_lt, Int.not_le, beq_iff_eq, beq_eq_false_iff_ne, bne_iff_ne, bne_eq_false_iff_eq, ne_eq, Bool.not_eq_true', Bool.not_eq_false'] at h1)
      simp only [Act.put, Act.eval, qn, qv, Nat.reduceAdd]
      refine rg_nil ?_
      refine ek_next ?_
      refine wk_seq ?_
      refine wk_cond_t rfl ?_
      refine wk_skip ?_
      refine ek_next ?_
      refine wk_seq ?_
      refine wk_block ?_
      refine wk_seq ?_
      refine wk_region [0, 0] rfl (by kernel_rfl) ?_
      simp only [List.zip_cons_cons, List.zip_nil_right]
      refine rg_move ?_
      simp only [Act.put, Act.eval, qn, qv, Nat.reduceAdd]
      refine rg_assign ?_
      simp only [Act.put, Act.eval, qn, qv, Nat.reduceAdd]
      refine rg_nil ?_
      refine ek_next ?_
      refine wk_seq ?_
      refine wk_region [0, 0, 0] rfl (by kernel_rfl) ?_
      simp only [List.zip_cons_cons, List.zip_nil_right]
      refine rf_field (n := 0) (j := 0) rfl rfl rfl Try.underlying38 rfl (by kernel_rfl) rfl ?_
      simp only [Act.put, Act.eval, qn, qv, Nat.reduceAdd]
      refine rf_load rfl rfl rfl Try.underlying3 rfl (fun w hw => (Kn.hd0 (Kn.tl hw)).at rfl) ?_
      simp only [Act.put, Act.eval, qn, qv, Nat.reduceAdd]
      refine rg_move ?_
      simp only [Act.put, Act.eval, qn, qv, Nat.reduceAdd]
      refine rg_nil ?_
      refine ek_next ?_
      refine wk_block ?_
      refine wk_loopF [2, 3, 7, 8, 9, 10, 11, 12, 28, 29, 30, 31, 32, 33, 34, 35, 36, 37, 38, 39, 40, 41, 42, 43, 44, 45, 46, 47, 48, 49, 50, 51, 52, 53, 54, 55, 56, 57, 58, 59, 60, 61, 62, 63, 64, 65, 66, 67, 68, 69, 70, 71, 72, 73, 74, 75, 76, 77] (fun mz f s => ∃ (j : Nat), f 28 = .int .i64 j ∧ s = ((gt, .cells #[.int .i64 N, .slice a xs.length c] 93) :: ((g1, .cells #[.int .i64 N, .slice a xs.length c] 38) :: [])) ∧ mz = N - j ∧ j ≤ N ∧ (∀ j2, j2 < j → smEq (rowS xs N K i j2 N) (wantS K i j2) = true)) ((fun (j : Nat) => N - j) (0)) ?_ (by kernel_rfl) ?_
      · exact ⟨0, rfl, rfl, rfl, by omega, fun _ h => by omega⟩
      rintro mz f3 s ⟨j, hs3_28, rfl, hn, he1, he2⟩
      simp only [Act.putF, List.foldl_cons, List.foldl_nil, hs3_28, Act.put, Act.eval, q1, q2, q3, q4, q5, q6, q7, q8, q9, q10, q11, q12, q13, q14, q15, q16, q17, q18, Nat.reduceAdd, Bool.not_true, Bool.not_false]
      clear hs3_28
      refine wk_seq ?_
      refine wk_region [0] rfl (by kernel_rfl) ?_
      simp only [List.zip_cons_cons, List.zip_nil_right]
      refine rfb_lss rfl rfl rfl rfl ?_
      intro x h2
      cases x
      · (try simp only [decide_eq_true_eq, decide_eq_false_iff_not, Int.not_lt, Int.not_le, beq_iff_eq, beq_eq_false_iff_ne, bne_iff_ne, bne_eq_false_iff_eq, ne_eq, Bool.not_eq_true', Bool.not_eq_false'] at h2)
        simp only [Act.put, Act.eval, qn, qv, Nat.reduceAdd]
        refine rg_nil ?_
        refine ek_next ?_
        refine wk_seq ?_
        refine wk_cond_f rfl ?_
        refine wk_exit ?_
        refine ek_then_exit ?_
        refine ek_then_exit ?_
        refine ek_block_exit ?_
        refine ek_block ?_
        refine ek_next ?_
        refine wk_region [0, 0] rfl (by kernel_rfl) ?_
        simp only [List.zip_cons_cons, List.zip_nil_right]
        refine rf_add rfl rfl rfl rfl (wrap_ok (by omega) (by omega)) ?_
        simp only [Act.put, Act.eval, qn, qv, Nat.reduceAdd]
        refine rg_move ?_
        simp only [Act.put, Act.eval, qn, qv, Nat.reduceAdd]
        refine rg_nil ?_
        obtain rfl : N = j := by omega
        refine ek_roundF (N - (i + 1)) (by omega) (by kernel_rfl) ?_
        exact ⟨i + 1, rfl, by rfl, by rfl, (by omega), (fun i2 hi2 j2 hj2 => by rcases (by omega : i2 < i ∨ i2 = i) with h | rfl; exact hd2 i2 h j2 hj2; exact he2 j2 hj2)⟩
      · (try simp only [decide_eq_true_eq, decide_eq_false_iff_not, Int.not_lt, Int.not_le, beq_iff_eq, beq_eq_false_iff_ne, bne_iff_ne, bne_eq_false_iff_eq, ne_eq, Bool.not_eq_true', Bool.not_eq_false'] at h2)
        simp only [Act.put, Act.eval, qn, qv, Nat.reduceAdd]
        refine rg_nil ?_
        refine ek_next ?_
        refine wk_seq ?_
        refine wk_cond_t rfl ?_
        refine wk_skip ?_
        refine ek_next ?_
        refine wk_seq ?_
        refine wk_block ?_
        refine wk_seq ?_
        refine wk_region [0, 0] rfl (by kernel_rfl) ?_
        simp only [List.zip_cons_cons, List.zip_nil_right]
        refine rg_move ?_
        simp only [Act.put, Act.eval, qn, qv, Nat.reduceAdd]
        refine rg_assign ?_
        simp only [Act.put, Act.eval, qn, qv, Nat.reduceAdd]
        refine rg_nil ?_
        refine ek_next ?_
        refine wk_seq ?_
        refine wk_region [1, 1] rfl (by kernel_rfl) ?_
        simp only [List.zip_cons_cons, List.zip_nil_right]
        refine rg_new (cs := ?_) (ty := ?_) (by rfl) (fun w => ?_) (fun _ h => by cases h) (fun g4 => ?_); rotate_left 2
        focus (go_simp; rfl)
        simp only [Act.put, Act.eval, qn, qv, Nat.reduceAdd]
        refine rg_new (cs := ?_) (ty := ?_) (by rfl) (fun w => ?_) (fun _ h => by cases h) (fun g5 => ?_); rotate_left 2
        focus (go_simp; rfl)
        simp only [Act.put, Act.eval, qn, qv, Nat.reduceAdd]
        refine rg_nil ?_
        refine ek_next ?_
        refine wk_seq ?_
        refine wk_seq ?_
        rw [sm_zero]
        refine wk_region [0, 0, 0] rfl (by kernel_rfl) ?_
        simp only [List.zip_cons_cons, List.zip_nil_right]
        refine rf_field (n := 0) (j := 0) rfl rfl rfl Try.underlying38 rfl (by kernel_rfl) rfl ?_
        simp only [Act.put, Act.eval, qn, qv, Nat.reduceAdd]
        refine rf_load rfl rfl rfl Try.underlying3 rfl (fun w hw => (Kn.hd0 (Kn.tl (Kn.tl (Kn.tl hw)))).at rfl) ?_
        simp only [Act.put, Act.eval, qn, qv, Nat.reduceAdd]
        refine rg_move ?_
        simp only [Act.put, Act.eval, qn, qv, Nat.reduceAdd]
        refine rg_nil ?_
        refine ek_next ?_
        refine wk_block ?_
        refine wk_loopF [10, 11, 12, 33, 34, 35, 36, 37, 38, 39, 40, 41, 42, 43, 44, 45, 46, 47, 48, 49, 50, 51, 52, 53, 54, 55, 56, 57, 58, 59, 60, 61, 62, 63, 64, 65, 66] (fun mz f s => ∃ (n : Nat), f 33 = .int .i64 n ∧ s = ((g5, .cells (smC fun _ => 0) 110) :: ((g4, .cells (smC (rowS xs N K i j n)) 110) :: ((gt, .cells #[.int .i64 N, .slice a xs.length c] 93) :: ((g1, .cells #[.int .i64 N, .slice a xs.length c] 38) :: [])))) ∧ mz = N - n ∧ n ≤ N) ((fun (n : Nat) => N - n) (0)) ?_ (by kernel_rfl) ?_
        · exact ⟨0, rfl, rfl, rfl, by omega⟩
        rintro mz f4 s ⟨n, hs4_33, rfl, hn, hf1⟩
        simp only [Act.putF, List.foldl_cons, List.foldl_nil, hs4_33, Act.put, Act.eval, q1, q2, q3, q4, q5, q6, q7, q8, q9, q10, q11, q12, q13, q14, q15, q16, q17, q18, Nat.reduceAdd, Bool.not_true, Bool.not_false]
        clear hs4_33
        refine wk_seq ?_
        refine wk_region [0] rfl (by kernel_rfl) ?_
        simp only [List.zip_cons_cons, List.zip_nil_right]
        refine rfb_lss rfl rfl rfl rfl ?_
        intro x h3
        cases x
        · (try simp only [decide_eq_true_eq, decide_eq_false_iff_not, Int.not_lt, Int.not_le, beq_iff_eq, beq_eq_false_iff_ne, bne_iff_ne, bne_eq_false_iff_eq, ne_eq, Bool.not_eq_true', Bool.not_eq_false'] at h3)
          simp only [Act.put, Act.eval, qn, qv, Nat.reduceAdd]
          refine rg_nil ?_
          refine ek_next ?_
          refine wk_seq ?_
          refine wk_cond_f rfl ?_
          refine wk_exit ?_
          refine ek_then_exit ?_
          refine ek_then_exit ?_
          refine ek_block_exit ?_
          refine ek_next ?_
          refine wk_seq ?_
          refine wk_seq ?_
          obtain rfl : N = n := by omega
          refine wk_region [0, 0, 0] rfl (by kernel_rfl) ?_
          simp only [List.zip_cons_cons, List.zip_nil_right]
          refine rg_move ?_
          simp only [Act.put, Act.eval, qn, qv, Nat.reduceAdd]
          refine rg_move ?_
          simp only [Act.put, Act.eval, qn, qv, Nat.reduceAdd]
          refine rfb_eql rfl rfl rfl rfl ?_
          intro x h4
          cases x
          · (try simp only [decide_eq_true_eq, decide_eq_false_iff_not, Int.not_lt, Int.not_le, beq_iff_eq, beq_eq_false_iff_ne, bne_iff_ne, bne_eq_false_iff_eq, ne_eq, Bool.not_eq_true', Bool.not_eq_false'] at h4)
            simp only [Act.put, Act.eval, qn, qv, Nat.reduceAdd]
            refine rg_nil ?_
            refine ek_next ?_
            refine wk_cond_f rfl ?_
            refine wk_skip ?_
            refine ek_next ?_
            refine wk_seq ?_
            refine wk_region [0, 0, 0] rfl (by kernel_rfl) ?_
            simp only [List.zip_cons_cons, List.zip_nil_right]
            refine rf_loadC (n := 24) (vs := (smC (rowS xs N K i j N)).toList) rfl rfl rfl Try.underlying110 rfl (by kernel_rfl) rfl (fun w hw => sm_all (Kn.hd0 (Kn.tl hw))) ?_
            rw [show (smC (rowS xs N K i j N)).toList.toArray = smC (rowS xs N K i j N) by simp]
            simp only [Act.put, Act.eval, qn, qv, Nat.reduceAdd]
            refine rf_loadC (n := 24) (vs := (smC (fun _ => 0)).toList) rfl rfl rfl Try.underlying110 rfl (by kernel_rfl) rfl (fun w hw => sm_all (Kn.hd0 hw)) ?_
            rw [show (smC (fun _ => 0)).toList.toArray = smC (fun _ => 0) by simp]
            simp only [Act.put, Act.eval, qn, qv, Nat.reduceAdd]
            refine rfb_neS (rowS xs N K i j N) (fun _ => 0) rfl rfl rfl rfl ?_
            intro x h5
            cases x
            · (try simp only [decide_eq_true_eq, decide_eq_false_iff_not, Int.not_lt, Int.not_le, beq_iff_eq, beq_eq_false_iff_ne, bne_iff_ne, bne_eq_false_iff_eq, ne_eq, Bool.not_eq_true', Bool.not_eq_false'] at h5)
              simp only [Act.put, Act.eval, qn, qv, Nat.reduceAdd]
              have hgood : smEq (rowS xs N K i j N) (wantS K i j) = true := by (unfold wantS; rw [if_neg (by omega)]; simpa using h5)
              refine rg_nil ?_
              refine ek_next ?_
              refine wk_cond_f rfl ?_
              refine wk_skip ?_
              refine ek_block ?_
              refine ek_next ?_
              refine wk_region [0, 0] rfl (by kernel_rfl) ?_
              simp only [List.zip_cons_cons, List.zip_nil_right]
              refine rf_add rfl rfl rfl rfl (wrap_ok (by omega) (by omega)) ?_
              simp only [Act.put, Act.eval, qn, qv, Nat.reduceAdd]
              refine rg_move ?_
              simp only [Act.put, Act.eval, qn, qv, Nat.reduceAdd]
              refine rg_nil ?_
              refine ek_sub (sk _ (sk _ (sc _ (sc _ sn)))) ?_
              refine ek_roundF (N - (j + 1)) (by omega) (by kernel_rfl) ?_
              exact ⟨j + 1, rfl, by rfl, by rfl, (by omega), (fun j2 hj2 => by rcases (by omega : j2 < j ∨ j2 = j) with h | rfl; exact he2 j2 h; exact hgood)⟩
            · (try simp only [decide_eq_true_eq, decide_eq_false_iff_not, Int.not_lt, Int.not_le, beq_iff_eq, beq_eq_false_iff_ne, bne_iff_ne, bne_eq_false_iff_eq, ne_eq, Bool.not_eq_true', Bool.not_eq_false'] at h5)
              simp only [Act.put, Act.eval, qn, qv, Nat.reduceAdd]
              have hgood : smEq (rowS xs N K i j N) (wantS K i j) = false := by (unfold wantS; rw [if_neg (by omega)]; simpa using h5)
              refine rg_nil ?_
              refine ek_next ?_
              refine wk_cond_t rfl ?_
              refine wk_seq ?_
              refine wk_region [0, 0] rfl (by kernel_rfl) ?_
              simp only [List.zip_cons_cons, List.zip_nil_right]
              refine rg_assign ?_
              simp only [Act.put, Act.eval, qn, qv, Nat.reduceAdd]
              refine rg_assign ?_
              simp only [Act.put, Act.eval, qn, qv, Nat.reduceAdd]
              refine rg_nil ?_
              refine ek_next ?_
              refine wk_ret ?_
              refine ek_block_ret ?_
              refine ek_then_ret ?_
              refine ek_then_ret ?_
              refine ek_block_ret ?_
              refine ek_block_ret ?_
              refine ek_then_ret ?_
              refine ek_then_ret ?_
              refine ek_block_ret ?_
              refine ek_then_ret ?_
              refine ek_ret (fun w hw => ⟨rfl, _, res_tt _ _ rfl, ?_⟩)
              (try simp only [Act.put, Act.eval, qn, qv, Nat.reduceAdd])
              exact ⟨false, rfl, ⟨fun h => (by cases h), fun h => by rw [h i j (by omega) (by omega)] at hgood; cases hgood⟩, hw.below⟩
          · (try simp only [decide_eq_true_eq, decide_eq_false_iff_not, Int.not_lt, Int.not_le, beq_iff_eq, beq_eq_false_iff_ne, bne_iff_ne, bne_eq_false_iff_eq, ne_eq, Bool.not_eq_true', Bool.not_eq_false'] at h4)
            simp only [Act.put, Act.eval, qn, qv, Nat.reduceAdd]
            refine rg_nil ?_
            refine ek_next ?_
            refine wk_cond_t rfl ?_
            have hpw := pow40 (k := K.toNat) (by omega)
            refine wk_region [0, 0, 1, 0, 1] rfl (by kernel_rfl) ?_
            simp only [List.zip_cons_cons, List.zip_nil_right]
            refine rg_move ?_
            simp only [Act.put, Act.eval, qn, qv, Nat.reduceAdd]
            refine rf_shlV (c := K.toNat) (q := 2 ^ K.toNat) rfl rfl rfl rfl (by omega) (by show K.toNat ≤ 64; omega) rfl (r := 2 ^ K.toNat) (by rw [Int.one_mul]; exact wrap_ok (by omega) (by omega)) ?_
            simp only [Act.put, Act.eval, qn, qv, Nat.reduceAdd]
            apply rg_pure (by rfl) (by kernel_rfl)
            case hargs => (simp only [qm, qs, Act.eval]; exact rfl)
            case h => exact fun w hw => w6whole_any (2 ^ K.toNat) (by omega) (by omega) w
            case hz => exact (fun _ h => by cases h)
            simp only [Act.put, Act.eval, qn, qv, Nat.reduceAdd]
            refine rf_indexA (n := 0) (sz := 6) (j := 0) rfl rfl rfl rfl Try.underlying110 (by kernel_rfl) (by decide) rfl ?_
            simp only [Act.put, Act.eval, qn, qv, Nat.reduceAdd]
            refine rf_storeR (n := 6) (vs := w6L (W6.of (2 ^ K.toNat))) rfl rfl (by kernel_rfl) rfl rfl (UpdR.here _ _ _ (Nat.le_of_ble_eq_true rfl)) (fun _ h => by cases h) ?_
            rw [show setMany (smC fun _ => 0) 0 (w6L (W6.of (2 ^ K.toNat))) = smC (upd (fun _ => 0) 0 (2 ^ K.toNat)) from sm_set (m := 0) (by decide)]
            simp only [Act.put, Act.eval, qn, qv, Nat.reduceAdd]
            refine rg_nil ?_
            refine ek_next ?_
            refine wk_seq ?_
            refine wk_region [0, 0, 0] rfl (by kernel_rfl) ?_
            simp only [List.zip_cons_cons, List.zip_nil_right]
            refine rf_loadC (n := 24) (vs := (smC (rowS xs N K i j N)).toList) rfl rfl rfl Try.underlying110 rfl (by kernel_rfl) rfl (fun w hw => sm_all (Kn.hd0 (Kn.tl hw))) ?_
            rw [show (smC (rowS xs N K i j N)).toList.toArray = smC (rowS xs N K i j N) by simp]
            simp only [Act.put, Act.eval, qn, qv, Nat.reduceAdd]
            refine rf_loadC (n := 24) (vs := (smC (upd (fun _ => 0) 0 (2 ^ K.toNat))).toList) rfl rfl rfl Try.underlying110 rfl (by kernel_rfl) rfl (fun w hw => sm_all (Kn.hd0 hw)) ?_
            rw [show (smC (upd (fun _ => 0) 0 (2 ^ K.toNat))).toList.toArray = smC (upd (fun _ => 0) 0 (2 ^ K.toNat)) by simp]
            simp only [Act.put, Act.eval, qn, qv, Nat.reduceAdd]
            refine rfb_neS (rowS xs N K i j N) (upd (fun _ => 0) 0 (2 ^ K.toNat)) rfl rfl rfl rfl ?_
            intro x h6
            cases x
            · (try simp only [decide_eq_true_eq, decide_eq_false_iff_not, Int.not_lt, Int.not_le, beq_iff_eq, beq_eq_false_iff_ne, bne_iff_ne, bne_eq_false_iff_eq, ne_eq, Bool.not_eq_true', Bool.not_eq_false'] at h6)
              simp only [Act.put, Act.eval, qn, qv, Nat.reduceAdd]
              have hgood : smEq (rowS xs N K i j N) (wantS K i j) = true := by (unfold wantS; rw [if_pos (by omega)]; simpa using h6)
              refine rg_nil ?_
              refine ek_next ?_
              refine wk_cond_f rfl ?_
              refine wk_skip ?_
              refine ek_block ?_
              refine ek_next ?_
              refine wk_region [0, 0] rfl (by kernel_rfl) ?_
              simp only [List.zip_cons_cons, List.zip_nil_right]
              refine rf_add rfl rfl rfl rfl (wrap_ok (by omega) (by omega)) ?_
              simp only [Act.put, Act.eval, qn, qv, Nat.reduceAdd]
              refine rg_move ?_
              simp only [Act.put, Act.eval, qn, qv, Nat.reduceAdd]
              refine rg_nil ?_
              refine ek_sub (sk _ (sk _ (sc _ (sc _ sn)))) ?_
              refine ek_roundF (N - (j + 1)) (by omega) (by kernel_rfl) ?_
              exact ⟨j + 1, rfl, by rfl, by rfl, (by omega), (fun j2 hj2 => by rcases (by omega : j2 < j ∨ j2 = j) with h | rfl; exact he2 j2 h; exact hgood)⟩
            · (try simp only [decide_eq_true_eq, decide_eq_false_iff_not, Int.not_lt, Int.not_le, beq_iff_eq, beq_eq_false_iff_ne, bne_iff_ne, bne_eq_false_iff_eq, ne_eq, Bool.not_eq_true', Bool.not_eq_false'] at h6)
              simp only [Act.put, Act.eval, qn, qv, Nat.reduceAdd]
              have hgood : smEq (rowS xs N K i j N) (wantS K i j) = false := by (unfold wantS; rw [if_pos (by omega)]; simpa using h6)
              refine rg_nil ?_
              refine ek_next ?_
              refine wk_cond_t rfl ?_
              refine wk_seq ?_
              refine wk_region [0, 0] rfl (by kernel_rfl) ?_
              simp only [List.zip_cons_cons, List.zip_nil_right]
              refine rg_assign ?_
              simp only [Act.put, Act.eval, qn, qv, Nat.reduceAdd]
              refine rg_assign ?_
              simp only [Act.put, Act.eval, qn, qv, Nat.reduceAdd]
              refine rg_nil ?_
              refine ek_next ?_
              refine wk_ret ?_
              refine ek_block_ret ?_
              refine ek_then_ret ?_
              refine ek_then_ret ?_
              refine ek_block_ret ?_
              refine ek_block_ret ?_
              refine ek_then_ret ?_
              refine ek_then_ret ?_
              refine ek_block_ret ?_
              refine ek_then_ret ?_
              refine ek_ret (fun w hw => ⟨rfl, _, res_tt _ _ rfl, ?_⟩)
              (try simp only [Act.put, Act.eval, qn, qv, Nat.reduceAdd])
              exact ⟨false, rfl, ⟨fun h => (by cases h), fun h => by rw [h i j (by omega) (by omega)] at hgood; cases hgood⟩, hw.below⟩
        · (try simp only [decide_eq_true_eq, decide_eq_false_iff_not, Int.not_lt, Int.not_le, beq_iff_eq, beq_eq_false_iff_ne, bne_iff_ne, bne_eq_false_iff_eq, ne_eq, Bool.not_eq_true', Bool.not_eq_false'] at h3)
          simp only [Act.put, Act.eval, qn, qv, Nat.reduceAdd]
          refine rg_nil ?_
          refine ek_next ?_
          refine wk_seq ?_
          refine wk_cond_t rfl ?_
          refine wk_skip ?_
          refine ek_next ?_
          refine wk_seq ?_
          refine wk_block ?_
          refine wk_seq ?_
          refine wk_region [0, 0] rfl (by kernel_rfl) ?_
          simp only [List.zip_cons_cons, List.zip_nil_right]
          refine rg_move ?_
          simp only [Act.put, Act.eval, qn, qv, Nat.reduceAdd]
          refine rg_assign ?_
          simp only [Act.put, Act.eval, qn, qv, Nat.reduceAdd]
          refine rg_nil ?_
          refine ek_next ?_
          refine wk_seq ?_
          have fj := entry_fit (xs := xs) (N := N) (K := K) hok hlen.out hN (i := j) (k := n) (by omega) (by omega) hK40 hKz
          obtain ⟨fa0, fa1, fb0, fb1, fc0, fc1, fd0, fd1⟩ := id fj.2.2.2
          have fi := entry_fit (xs := xs) (N := N) (K := K) hok hlen.out hN (i := i) (k := n) (by omega) (by omega) hK40 hKz
          obtain ⟨ga0, ga1, gb0, gb1, gc0, gc1, gd0, gd1⟩ := id fi.2.2.2
          refine wk_region [0, 0, 0, 1, 0, 1, 1, 1] rfl (by kernel_rfl) ?_
          simp only [List.zip_cons_cons, List.zip_nil_right]
          refine rf_loadR (n := 2) rfl rfl rfl Try.underlying93 rfl (by kernel_rfl) (fun w hw => Kn.hd0 (Kn.tl (Kn.tl hw))) rfl rfl ?_
          simp only [Act.put, Act.eval, qn, qv, Nat.reduceAdd]
          refine rg_move ?_
          simp only [Act.put, Act.eval, qn, qv, Nat.reduceAdd]
          refine rg_move ?_
          simp only [Act.put, Act.eval, qn, qv, Nat.reduceAdd]
          apply rg_pure (by rfl) (by kernel_rfl)
          case hargs => (simp only [qm, qs, Act.eval]; exact rfl)
          case h => exact fun w hw => at_any N j n xs a c hlen.out hN (by omega) (by omega) w (hA.kn0 hw)
          case hz => exact (fun _ h => by cases h)
          simp only [Act.put, Act.eval, qn, qv, Nat.reduceAdd]
          refine rg_move ?_
          simp only [Act.put, Act.eval, qn, qv, Nat.reduceAdd]
          apply rg_pure (by rfl) (by kernel_rfl)
          case hargs => (simp only [qm, qs, Act.eval]; exact rfl)
          case h => exact fun w hw => scaled_any (nm xs (j * N + n)) K fj.1 fj.2.1 fj.2.2.1 hK40 w
          case hz => exact (fun _ h => by cases h)
          simp only [Act.put, Act.eval, qn, qv, Nat.reduceAdd]
          refine rg_new (cs := ?_) (ty := ?_) (by rfl) (fun w => ?_) (fun _ h => by cases h) (fun g6 => ?_); rotate_left 2
          focus (go_simp; rfl)
          simp only [Act.put, Act.eval, qn, qv, Nat.reduceAdd]
          refine rf_storeR (n := 4) rfl rfl (by kernel_rfl) rfl rfl (UpdR.here _ _ _ (Nat.le_of_ble_eq_true rfl)) (fun _ h => by cases h) ?_
          simp only [Act.put, Act.eval, qn, qv, Nat.reduceAdd]
          refine rg_nil ?_
          refine ek_next ?_
          refine wk_seq ?_
          refine wk_region [0, 0, 0, 0, 0, 0, 0, 0, 0, 0, 0, 0, 1, 1] rfl (by kernel_rfl) ?_
          simp only [List.zip_cons_cons, List.zip_nil_right]
          refine rf_indexA (n := 0) (sz := 1) (j := 0) rfl rfl rfl rfl Try.underlying43 (by kernel_rfl) (by decide) rfl ?_
          simp only [Act.put, Act.eval, qn, qv, Nat.reduceAdd]
          refine rf_load rfl rfl rfl Try.underlying3 rfl (fun w hw => (Kn.hd0 hw).at rfl) ?_
          simp only [Act.put, Act.eval, qn, qv, Nat.reduceAdd]
          refine rf_indexA (n := 3) (sz := 1) (j := 3) rfl rfl rfl rfl Try.underlying43 (by kernel_rfl) (by decide) rfl ?_
          simp only [Act.put, Act.eval, qn, qv, Nat.reduceAdd]
          refine rf_load rfl rfl rfl Try.underlying3 rfl (fun w hw => (Kn.hd0 hw).at rfl) ?_
          simp only [Act.put, Act.eval, qn, qv, Nat.reduceAdd]
          refine rf_neg rfl rfl rfl (wrap_ok (by omega) (by omega)) ?_
          simp only [Act.put, Act.eval, qn, qv, Nat.reduceAdd]
          refine rf_indexA (n := 2) (sz := 1) (j := 2) rfl rfl rfl rfl Try.underlying43 (by kernel_rfl) (by decide) rfl ?_
          simp only [Act.put, Act.eval, qn, qv, Nat.reduceAdd]
          refine rf_load rfl rfl rfl Try.underlying3 rfl (fun w hw => (Kn.hd0 hw).at rfl) ?_
          simp only [Act.put, Act.eval, qn, qv, Nat.reduceAdd]
          refine rf_neg rfl rfl rfl (wrap_ok (by omega) (by omega)) ?_
          simp only [Act.put, Act.eval, qn, qv, Nat.reduceAdd]
          refine rf_indexA (n := 1) (sz := 1) (j := 1) rfl rfl rfl rfl Try.underlying43 (by kernel_rfl) (by decide) rfl ?_
          simp only [Act.put, Act.eval, qn, qv, Nat.reduceAdd]
          refine rf_load rfl rfl rfl Try.underlying3 rfl (fun w hw => (Kn.hd0 hw).at rfl) ?_
          simp only [Act.put, Act.eval, qn, qv, Nat.reduceAdd]
          refine rf_neg rfl rfl rfl (wrap_ok (by omega) (by omega)) ?_
          simp only [Act.put, Act.eval, qn, qv, Nat.reduceAdd]
          refine rf_build (cs := fun a => #[a.eval (.tmp 43), a.eval (.tmp 46), a.eval (.tmp 49), a.eval (.tmp 52)]) rfl rfl (by kernel_rfl) ?_
          simp only [Act.put, Act.eval, qn, qv, Nat.reduceAdd]
          refine rg_new (cs := ?_) (ty := ?_) (by rfl) (fun w => ?_) (fun _ h => by cases h) (fun g7 => ?_); rotate_left 2
          focus (go_simp; rfl)
          simp only [Act.put, Act.eval, qn, qv, Nat.reduceAdd]
          refine rf_storeR (n := 4) rfl rfl (by kernel_rfl) rfl rfl (UpdR.here _ _ _ (Nat.le_of_ble_eq_true rfl)) (fun _ h => by cases h) ?_
          simp only [Act.put, Act.eval, qn, qv, Nat.reduceAdd]
          refine rg_nil ?_
          refine ek_next ?_
          refine wk_draws_m (hz1 := (sc _ (sc _ (sc _ (sk _ (sc _ (sc _ sn))))))) [(0, 0), (2, 0), (3, 0), (4, 0), (6, 0), (9, 0), (1, 1), (5, 1), (7, 1), (8, 1), (10, 1), (11, 1), (12, 2)] 12 (by kernel_rfl) (by kernel_rfl) (fun c d v a w h => by cases d <;> exact h) ?_
          simp only [List.map_cons, List.map_nil, List.getD_cons_zero, List.getD_cons_succ]
          refine rf_loadC (n := 24) (vs := (smC (rowS xs N K i j n)).toList) rfl rfl rfl Try.underlying110 rfl (by kernel_rfl) rfl (fun w hw => sm_all (Kn.hd0 (Kn.tl (Kn.tl (Kn.tl hw))))) ?_
          rw [show (smC (rowS xs N K i j n)).toList.toArray = smC (rowS xs N K i j n) by simp]
          simp only [Act.put, Act.eval, qn, qv, Nat.reduceAdd]
          refine rf_loadR (n := 2) rfl rfl rfl Try.underlying93 rfl (by kernel_rfl) (fun w hw => Kn.hd0 (Kn.tl (Kn.tl (Kn.tl (Kn.tl hw))))) rfl rfl ?_
          simp only [Act.put, Act.eval, qn, qv, Nat.reduceAdd]
          refine rg_move ?_
          simp only [Act.put, Act.eval, qn, qv, Nat.reduceAdd]
          refine rg_move ?_
          simp only [Act.put, Act.eval, qn, qv, Nat.reduceAdd]
          refine rg_move ?_
          simp only [Act.put, Act.eval, qn, qv, Nat.reduceAdd]
          refine rf_loadR (n := 4) rfl rfl rfl Try.underlying43 rfl (by kernel_rfl) (fun w hw => Kn.hd0 hw) rfl rfl ?_
          simp only [Act.put, Act.eval, qn, qv, Nat.reduceAdd]
          apply rg_pure (by rfl) (by kernel_rfl)
          case hargs => (simp only [qm, qs, Act.eval]; exact rfl)
          case h => exact fun w hw => smone_any w
          case hz => exact (fun _ h => by cases h; exact (sc _ (sc _ (sc _ (sc _ (sc _ (sc _ sn)))))))
          simp only [Act.put, Act.eval, qn, qv, Nat.reduceAdd]
          apply rg_pure (by rfl) (by kernel_rfl)
          case hargs => (simp only [qm, qs, Act.eval]; exact rfl)
          case h => exact fun w hw => at_any N i n xs a c hlen.out hN (by omega) (by omega) w (hA.kn0 hw)
          case hz => exact (fun _ h => by cases h; exact (sc _ (sc _ (sc _ (sc _ (sc _ (sc _ sn)))))))
          simp only [Act.put, Act.eval, qn, qv, Nat.reduceAdd]
          apply rg_pure (by rfl) (by kernel_rfl)
          case hargs => (simp only [qm, qs, Act.eval]; exact rfl)
          case h => exact fun w hw => scaled_any (nm xs (i * N + n)) K fi.1 fi.2.1 fi.2.2.1 hK40 w
          case hz => exact (fun _ h => by cases h; exact (sc _ (sc _ (sc _ (sc _ (sc _ (sc _ sn)))))))
          simp only [Act.put, Act.eval, qn, qv, Nat.reduceAdd]
          apply rg_pure (by rfl) (by kernel_rfl)
          case hargs => (simp only [qm, qs, Act.eval]; exact rfl)
          case h => exact fun w hw => smtimes_any (sel4 1 0 0 0) (sel4 ((nm xs (i * N + n)).to K).a ((nm xs (i * N + n)).to K).b ((nm xs (i * N + n)).to K).c ((nm xs (i * N + n)).to K).d) (sel_cases (by simp only [sel4]; omega) (by simp only [sel4]; omega) (by simp only [sel4]; omega) (by simp only [sel4]; omega)) w
          case hz => exact (fun _ h => by cases h; exact (sc _ (sc _ (sc _ (sc _ (sc _ (sc _ sn)))))))
          simp only [Act.put, Act.eval, qn, qv, Nat.reduceAdd]
          apply rg_pure (by rfl) (by kernel_rfl)
          case hargs => (simp only [qm, qs, Act.eval]; exact rfl)
          case h => exact fun w hw => smtimes_any (acc (sel4 1 0 0 0) (sel4 ((nm xs (i * N + n)).to K).a ((nm xs (i * N + n)).to K).b ((nm xs (i * N + n)).to K).c ((nm xs (i * N + n)).to K).d) 16) (sel4 ((nm xs (j * N + n)).to K).a (-((nm xs (j * N + n)).to K).d) (-((nm xs (j * N + n)).to K).c) (-((nm xs (j * N + n)).to K).b)) (sel_cases (by simp only [sel4]; omega) (by simp only [sel4]; omega) (by simp only [sel4]; omega) (by simp only [sel4]; omega)) w
          case hz => exact (fun _ h => by cases h; exact (sc _ (sc _ (sc _ (sc _ (sc _ (sc _ sn)))))))
          simp only [Act.put, Act.eval, qn, qv, Nat.reduceAdd]
          apply rg_pure (by rfl) (by kernel_rfl)
          case hargs => (simp only [qm, qs, Act.eval]; exact rfl)
          case h => exact fun w hw => smplus_any (rowS xs N K i j n) (acc (acc (sel4 1 0 0 0) (sel4 ((nm xs (i * N + n)).to K).a ((nm xs (i * N + n)).to K).b ((nm xs (i * N + n)).to K).c ((nm xs (i * N + n)).to K).d) 16) (sel4 ((nm xs (j * N + n)).to K).a (-((nm xs (j * N + n)).to K).d) (-((nm xs (j * N + n)).to K).c) (-((nm xs (j * N + n)).to K).b)) 16) w
          case hz => exact (fun _ h => by cases h; exact (sc _ (sc _ (sc _ (sc _ (sc _ (sc _ sn)))))))
          simp only [Act.put, Act.eval, qn, qv, Nat.reduceAdd]
          refine rf_storeRM (n := 24) (vs := (smC (rowS xs N K i j (n + 1))).toList) rfl rfl (by kernel_rfl) rfl rfl (UpdR.there _ (UpdR.there _ (UpdR.there _ (UpdR.here _ _ _ (Nat.le_of_ble_eq_true rfl))))) (sc _ (sc _ (sc _ (sk _ (sc _ (sc _ sn)))))) ?_
          rw [sm_over]
          simp only [Act.put, Act.eval, qn, qv, Nat.reduceAdd]
          refine rg_nil ?_
          refine ek_block ?_
          refine ek_next ?_
          refine wk_region [0, 0] rfl (by kernel_rfl) ?_
          simp only [List.zip_cons_cons, List.zip_nil_right]
          refine rf_add rfl rfl rfl rfl (wrap_ok (by omega) (by omega)) ?_
          simp only [Act.put, Act.eval, qn, qv, Nat.reduceAdd]
          refine rg_move ?_
          simp only [Act.put, Act.eval, qn, qv, Nat.reduceAdd]
          refine rg_nil ?_
          refine ek_sub (sk _ (sk _ (sc _ (sc _ (sc _ (sc _ sn)))))) ?_
          refine ek_roundF (N - (n + 1)) (by omega) (by kernel_rfl) ?_
          exact ⟨n + 1, rfl, by rfl, by rfl, (by omega)⟩

end Go.Proofs.Ytccbinnlnkpplaa
