/- Several texts in one. -/
import Derived.Test.YtjeijnjaleldkaaSq
import Derived.Test.YtjeijnjaleldkaaMgA
import Derived.Test.YtjeijnjaleldkaaMgC
import Derived.Test.YtjeijnjaleldkaaMgD
import Derived.Test.YtjeijnjaleldkaaMgF
namespace Go.Proofs.Ytjeijnjaleldkaa
set_option linter.all false
open Go.RowKit

section
variable {R : Option Nat} {ops : Array Oper} {Q : Exit → Act → World → Prop} {B : World} {F : List Nat} {s0 : Option (List Blk × List Blk)} {P : Program}
variable {l : List (Oper × Nat)} {a : Act} {s : List Blk} {d : Option Tmp} {t : TypeId} {p : String} {af : Array Edge} {gd : Option (Nat × Bool)} {m : Nat}
/-- A part of a slice, with both bounds. -/
theorem rf_sliceLH {T : Nat} {x yl y : Operand} {b off n lo hi len cap e sz : Nat} {k k' : IntKind} {zl z : Int} (hm : soft03 m = true) (hg : Region.wanted ⟨d, .slice T x (some yl) (some y) none, t, p, af, gd⟩ (yielded ops a.tmps) = true)
    (hx : a.eval x = .slice (some ⟨b, off, none⟩) len cap) (hl : a.eval yl = .int k' zl) (hy : a.eval y = .int k z) (hu : P.underlying T = some (.slice e)) (hs : (P.info? e).map (·.size) = some sz) (hzl : zl = (lo : Int)) (hz : z = (hi : Int)) (hh : lo + n = hi) (hn : hi ≤ cap) (hlo : lo < cap)
    (h : Rg R P ops Q B F s0 l (a.put d (.slice (some ⟨b, off + lo * sz, none⟩) n (cap - lo))) s) : Rg R P ops Q B F s0 ((⟨d, .slice T x (some yl) (some y) none, t, p, af, gd⟩, m) :: l) a s := by
  subst hzl hz
  refine rg_any hm hg (fun w => ?_) h
  unfold Yld
  cases hq : P.info? e with
  | none => simp [hq] at hs
  | some q =>
    have hs' : q.size = sz := by simpa [hq] using hs
    have hb := fun w => run_sliceBound (P := P) w k (hi : Int) cap .sliceAcap Ox Ox
    have hb2 := fun w => run_sliceBound (P := P) w k' (lo : Int) hi .sliceB Ox Ox
    have e1 : (hi : Int).toNat = hi := Int.toNat_natCast _
    have e2 : (lo : Int).toNat = lo := Int.toNat_natCast _
    rw [e1] at hb
    rw [e2] at hb2
    have h3 : ¬ cap = lo := by omega
    have h4 : hi - lo = n := by omega
    simp [execOp, hx, hl, hy, Instr.sliceAt, Instr.slice, Instr.sliceBounds, run_underlying hu, sizeOf, typeInfo, hq, hs', hb, hb2, Addr.add_mid, h3, h4]
end
/-- A row. -/
def rowL (xs : List Nm) (N i : Nat) : List Nm := (List.range N).map fun k => nm xs (i * N + k)
theorem rowL_len (xs : List Nm) (N i : Nat) : (rowL xs N i).length = N := by simp [rowL]
theorem rowL_at (xs : List Nm) {N i k : Nat} (h : k < N) : nm (rowL xs N i) k = nm xs (i * N + k) := by
  show (rowL xs N i).getD k Nm.zero = nm xs (i * N + k)
  rw [List.getD_eq_getElem?_getD, rowL, List.getElem?_map, List.getElem?_range h]
  rfl
theorem colL_at (xs : List Nm) {N k t j : Nat} (h : j < t) : nm (colL xs N k t) j = nm xs (j * N + k) := by
  show (colL xs N k t).getD j Nm.zero = nm xs (j * N + k)
  rw [List.getD_eq_getElem?_getD, colL, List.getElem?_map, List.getElem?_range h]
  rfl
theorem AS.row {w : World} {b off : Nat} {xs : List Nm} {N i : Nat} (h : AS w (some ⟨b, off, none⟩) (nms xs)) (hl : i * N + N ≤ xs.length) (hN : 0 < N) : AS w (some ⟨b, off + i * N * 5, none⟩) (nms (rowL xs N i)) := by
  intro _
  have hf : (nms xs).length = xs.length * 5 := NmE.flat_len xs
  obtain ⟨b', off', e, hlt, hc⟩ := h (fun e => by rw [e] at hf; simp at hf; omega)
  cases e
  refine ⟨b, _, rfl, hlt, fun j hj => ?_⟩
  have hj2 : j < N * 5 := by
    have : (nms (rowL xs N i)).length = (rowL xs N i).length * 5 := NmE.flat_len _
    rw [this, rowL_len] at hj; exact hj
  have hd := Nat.div_add_mod j 5
  have hm5 := Nat.mod_lt j (show 0 < 5 by omega)
  have h1 := NmE.get (rowL xs N i) (j / 5) (j % 5) (by rw [rowL_len]; omega) hm5
  have h2 := NmE.get xs (i * N + j / 5) (j % 5) Ox hm5
  have e1 : NmE.at (rowL xs N i) (j / 5) = NmE.at xs (i * N + j / 5) := rowL_at xs Ox
  rw [e1, ← h2] at h1
  have e2 : j / 5 * NmE.sz + j % 5 = j := by show j / 5 * 5 + j % 5 = j; omega
  have e3 : (i * N + j / 5) * NmE.sz + j % 5 = i * N * 5 + j := by show (i * N + j / 5) * 5 + j % 5 = i * N * 5 + j; omega
  rw [e2, e3] at h1
  have h3 := hc (i * N * 5 + j) (by rw [hf]; omega)
  rw [show off + i * N * 5 + j = off + (i * N * 5 + j) by omega, h3]
  exact h1.symm
theorem prodsR_congr {x y x' y' : Nat → Nm} : ∀ n, (∀ k, k < n → x k = x' k) → (∀ k, k < n → y k = y' k) → prodsR x y n = prodsR x' y' n
  | 0, _, _ => rfl
  | n + 1, h, h' => by simp only [prodsR, prodsR_congr n (fun k hk => h k Ox) (fun k hk => h' k Ox), h n Ox, h' n Ox]
set_option maxRecDepth 100000 in
set_option maxHeartbeats 1000000 in
theorem rproducts_any (xs ys : List Nm) (a a' : Option Addr) (c c' : Nat) (hle : ys.length = xs.length) (hl : xs.length ≤ 1000000) (hox : allOk xs = true) (hoy : allOk ys = true) (w : World) (hA : AS w a (nms xs)) (hB : AS w a' (nms ys)) : Calls Try.prog 100 #[.slice a xs.length c, .slice a' ys.length c'] w fun e w' => e = .returned (numV (prodsR (nm xs) (nm ys) xs.length)) ∧ Below w.heap.size w w' := by
  go_enter Try.func100, Try.ntmps100
  refine wk_start ?_
  refine wk_seq ?_
  refine wk_region [1, 0] rfl Kx ?_
  simp only [qy]
  refine Rgn fun g1 => ?_
  simp only [qz]
  refine rg_assign ?_
  simp only [qz]
  refine rg_nil (ek_next (wk_seq ?_))
  refine wk_region [1] rfl Kx ?_
  simp only [qy]
  refine Rgn fun g2 => ?_
  simp only [qz]
  refine rg_nil (ek_next (wk_seq (wk_seq ?_)))
  refine wk_region [0] rfl Kx ?_
  simp only [qy]
  refine rg_assign ?_
  simp only [qz]
  refine rg_nil (ek_next (wk_block ?_))
  refine wk_loopF [5, 7, 8, 9, 10, 11, 12, 13, 14, 15, 16, 17, 18, 19, 20, 21, 22, 23, 24, 25, 26, 27, 28, 29, 30, 31, 32, 33, 34, 35, 36, 37, 38, 39, 40, 41] (fun mz f s => ∃ (k : Nat) (ac : Nm), f 7 = .int .i64 k ∧ s = ((g2, .cells #[.int .i64 ac.a, .int .i64 ac.b, .int .i64 ac.c, .int .i64 ac.d, .int .i64 ac.k] 29) :: ((g1, .cells #[.int .i64 0, .int .i64 0, .int .i64 0, .int .i64 0, .int .i64 0] 29) :: [])) ∧ mz = xs.length - k ∧ k ≤ xs.length ∧ Hid (prodsR (nm xs) (nm ys) k = .ok ac) ∧ ac.Ok) ((fun (k : Nat) (ac : Nm) => xs.length - k) (0) (Nm.zero)) ?_ Kx ?_
  · exact ⟨0, Nm.zero, rfl, rfl, rfl, by omega, (Lib.hid rfl), zero_ok⟩
  rintro mz f1 s ⟨k, ac, hs1_7, rfl, hn, hd1, hd2, hd3⟩
  simp only [Act.putF, List.foldl_cons, List.foldl_nil, hs1_7, Act.put, Act.eval, q1, q2, q3, q4, q5, q6, q7, q8, q9, q10, q11, q12, q13, q14, q15, q16, q17, q18, Nat.reduceAdd, Bool.not_true, Bool.not_false]
  clear hs1_7
  refine wk_seq (wk_seq ?_)
  refine wk_region [0, 0, 0, 0] rfl Kx ?_
  simp only [qy]
  refine rg_move ?_
  simp only [qz]
  refine rg_move ?_
  simp only [qz]
  refine rf_len rfl rfl rfl Try.underlying22 ?_
  simp only [qz]
  refine rfb_lss rfl rfl rfl rfl ?_
  intro x h1
  cases x
  · (try simp only [qd, ne_eq] at h1)
    simp only [qz]
    refine rg_nil (ek_next (wk_cond_f rfl (wk_exit (ek_then_exit (ek_then_exit (ek_block_exit (ek_next (wk_seq ?_))))))))
    refine wk_region [0, 1, 0] rfl Kx ?_
    simp only [qy]
    refine rf_loadR (n := 5) rfl rfl rfl Try.underlying29 rfl Kx (fun w hw => Kn.hd0 hw) rfl rfl ?_
    simp only [qz]
    refine rf_storeR (n := 5) rfl rfl Kx rfl rfl (UpdR.there _ (UpdR.here _ _ _ Nl)) Nz ?_
    simp only [qz, Nat.reduceAdd]
    refine rg_assign ?_
    simp only [qz]
    refine rg_nil (ek_next (wk_ret ?_))
    refine ek_ret (fun w hw => ⟨rfl, _, run_results2 rfl rfl (Kn.hd0 (Kn.tl hw)) Try.underlying29 rfl Kx, ?_⟩)
    (try simp only [qz])
    obtain rfl : k = xs.length := by omega
    exact ⟨by rw [hd2.out]; rfl, hw.below⟩
  (try simp only [qd, ne_eq] at h1)
  simp only [qz]
  refine rg_nil (ek_next (wk_cond_t rfl (wk_skip (ek_next (wk_seq (wk_block (wk_seq ?_)))))))
  obtain ⟨b, off, ha, hlt, hcell⟩ := AS.openN hA Ox
  obtain ⟨b', off', ha', hlt', hcell'⟩ := AS.openN hB Ox
  subst ha ha'
  have hxk := ok_at hox (show k < xs.length by omega)
  have hyk := ok_at hoy (show k < ys.length by omega)
  refine wk_rt _ Kx (sc _ (sc _ sn)) ?_
  refine rt_soft (i := 0) rfl Kx (fun c d v a w h => by cases d <;> exact h) (sc _ (sc _ sn)) ?_
  refine rg_move ?_
  simp only [qz]
  refine rg_nil ?_
  refine ek_rt (sc _ (sc _ sn)) ?_
  refine rt_soft (i := 1) rfl Kx (fun c d v a w h => by cases d <;> exact h) (sc _ (sc _ sn)) ?_
  refine rg_move ?_
  simp only [qz]
  refine rg_nil ?_
  refine ek_rt (sc _ (sc _ sn)) ?_
  refine rt_soft (i := 2) rfl Kx (fun c d v a w h => by cases d <;> exact h) (sc _ (sc _ sn)) ?_
  refine rf_indexS (n := k) (sz := 5) (j := off + k * 5) rfl rfl rfl rfl Try.underlying22 Kx Ox Ox rfl ?_
  simp only [qz]
  refine rg_nil ?_
  refine ek_rt (sc _ (sc _ sn)) ?_
  refine rt_soft (i := 3) rfl Kx (fun c d v a w h => by cases d <;> exact h) (sc _ (sc _ sn)) ?_
  refine rf_loadC (n := 5) (vs := [.int .i64 (nm xs k).a, .int .i64 (nm xs k).b, .int .i64 (nm xs k).c, .int .i64 (nm xs k).d, .int .i64 (nm xs k).k]) rfl rfl rfl Try.underlying29 rfl Kx rfl (fun w hw => atN_range ((hcell k Ox).kn hw hlt (by simp))) ?_
  simp only [qz]
  refine rg_nil ?_
  refine ek_rt (sc _ (sc _ sn)) ?_
  refine rt_soft (i := 4) rfl Kx (fun c d v a w h => by cases d <;> exact h) (sc _ (sc _ sn)) ?_
  refine rg_move ?_
  simp only [qz]
  refine rg_nil ?_
  refine ek_rt (sc _ (sc _ sn)) ?_
  refine rt_soft (i := 5) rfl Kx (fun c d v a w h => by cases d <;> exact h) (sc _ (sc _ sn)) ?_
  refine rg_move ?_
  simp only [qz]
  refine rg_nil ?_
  refine ek_rt (sc _ (sc _ sn)) ?_
  refine rt_soft (i := 6) rfl Kx (fun c d v a w h => by cases d <;> exact h) (sc _ (sc _ sn)) ?_
  refine rf_indexS (n := k) (sz := 5) (j := off' + k * 5) rfl rfl rfl rfl Try.underlying22 Kx Ox Ox rfl ?_
  simp only [qz]
  refine rg_nil ?_
  refine ek_rt (sc _ (sc _ sn)) ?_
  refine rt_soft (i := 7) rfl Kx (fun c d v a w h => by cases d <;> exact h) (sc _ (sc _ sn)) ?_
  refine rf_loadC (n := 5) (vs := [.int .i64 (nm ys k).a, .int .i64 (nm ys k).b, .int .i64 (nm ys k).c, .int .i64 (nm ys k).d, .int .i64 (nm ys k).k]) rfl rfl rfl Try.underlying29 rfl Kx rfl (fun w hw => atN_range ((hcell' k Ox).kn hw hlt' (by simp))) ?_
  simp only [qz]
  refine rg_nil ?_
  refine ek_rt (sc _ (sc _ sn)) ?_
  refine rt_hard2 (i := 8) (j := 12) Kx rfl rfl ?_ ?_
  · apply rg_num Rx Kx
    case hargs => exact Ax
    case h => exact fun w hw => rTimes_ok (nm xs k) (nm ys k) hxk hyk w
    case hz => exact (fun _ h => by cases h; exact (sc _ (sc _ sn)))
    case hc => exact (fun c h => mk_err h)
    · intro hr2
      simp only [qz]
      refine rg_nil ?_
      refine ek_rt (sc _ (sc _ sn)) ?_
      refine rt_soft (i := 9) rfl Kx (fun c d v a w h => by cases d <;> exact h) (sc _ (sc _ sn)) ?_
      refine rg_move ?_
      simp only [qz]
      refine rg_nil ?_
      refine ek_rt (sc _ (sc _ sn)) ?_
      refine rt_soft (i := 10) rfl Kx (fun c d v a w h => by cases d <;> exact h) (sc _ (sc _ sn)) ?_
      refine rf_extract rfl rfl rfl rfl ?_
      simp only [qz]
      refine rg_nil ?_
      refine ek_rt (sc _ (sc _ sn)) ?_
      refine rt_soft (i := 11) rfl Kx (fun c d v a w h => by cases d <;> exact h) (sc _ (sc _ sn)) ?_
      refine rf_extract rfl rfl rfl rfl ?_
      simp only [qz]
      refine rg_nil ?_
      refine ek_rt (sc _ (sc _ sn)) ?_
      refine rt_hard1 (i := 12) Kx rfl ?_
      refine rg_new (cs := ?_) (ty := ?_) Rx (fun w => ?_) (fun _ h => by cases h; exact (sc _ (sc _ sn))) (fun g3 => ?_); rotate_left 2
      focus (go_simp; rfl)
      simp only [qz]
      refine rg_nil ?_
      refine ek_rt (sk _ (sc _ (sc _ sn))) ?_
      refine rt_hard1 (i := 13) Kx rfl ?_
      refine rf_storeR (n := 5) rfl rfl Kx rfl rfl (UpdR.here _ _ _ Nl) (fun _ h => by cases h; exact (sk _ (sc _ (sc _ sn)))) ?_
      simp only [qz, Nat.reduceAdd]
      refine rg_nil ?_
      refine ek_rt (sk _ (sc _ (sc _ sn))) ?_
      refine rt_soft (i := 14) rfl Kx (fun c d v a w h => by cases d <;> exact h) (sk _ (sc _ (sc _ sn))) ?_
      refine rg_assign ?_
      simp only [qz]
      refine rg_nil ?_
      refine ek_rt (sk _ (sc _ (sc _ sn))) ?_
      refine rt_nil Kx ?_
      refine ek_next (wk_seq (wk_seq ?_))
      refine wk_region [0, 0] rfl Kx ?_
      simp only [qy]
      refine rg_move ?_
      simp only [qz]
      refine rf_neq (b := true) rfl rfl rfl rfl (by decide) ?_
      simp only [qz]
      refine rg_nil (ek_next (wk_cond_t rfl (wk_seq ?_)))
      refine wk_region [0, 0, 1, 0] rfl Kx ?_
      simp only [qy]
      refine rf_build (cs := fun a => #[.int .i64 0, .int .i64 0, .int .i64 0, .int .i64 0, .int .i64 0]) rfl rfl Kx ?_
      simp only [qz]
      refine rg_move ?_
      simp only [qz]
      refine rf_storeR (n := 5) rfl rfl Kx rfl rfl (UpdR.there _ (UpdR.there _ (UpdR.here _ _ _ Nl))) Nz ?_
      simp only [qz, Nat.reduceAdd]
      refine rg_assign ?_
      simp only [qz]
      refine rg_nil (ek_next (wk_ret (ek_then_ret (ek_block_ret (ek_then_ret (ek_then_ret (ek_block_ret (ek_then_ret ?_))))))))
      refine ek_ret (fun w hw => ⟨rfl, _, run_results2 rfl rfl (Kn.hd0 (Kn.tl (Kn.tl hw))) Try.underlying29 rfl Kx, ?_⟩)
      (try simp only [qz])
      exact ⟨by rw [prodsR_err (k := k + 1) (c := 4) (by simp only [prodsR, hd2.out, hr2]) xs.length Ox]; rfl, hw.below⟩
    intro z2 hr2
    simp only [qz]
    refine rg_nil ?_
    refine ek_rt (sc _ (sc _ sn)) ?_
    refine rt_soft (i := 9) rfl Kx (fun c d v a w h => by cases d <;> exact h) (sc _ (sc _ sn)) ?_
    refine rg_move ?_
    simp only [qz]
    refine rg_nil ?_
    refine ek_rt (sc _ (sc _ sn)) ?_
    refine rt_soft (i := 10) rfl Kx (fun c d v a w h => by cases d <;> exact h) (sc _ (sc _ sn)) ?_
    refine rf_extract rfl rfl rfl rfl ?_
    simp only [qz]
    refine rg_nil ?_
    refine ek_rt (sc _ (sc _ sn)) ?_
    refine rt_soft (i := 11) rfl Kx (fun c d v a w h => by cases d <;> exact h) (sc _ (sc _ sn)) ?_
    refine rf_extract rfl rfl rfl rfl ?_
    simp only [qz]
    refine rg_nil ?_
    refine ek_rt (sc _ (sc _ sn)) ?_
    refine rt_hard1 (i := 12) Kx rfl ?_
    refine rg_new (cs := ?_) (ty := ?_) Rx (fun w => ?_) (fun _ h => by cases h; exact (sc _ (sc _ sn))) (fun g4 => ?_); rotate_left 2
    focus (go_simp; rfl)
    simp only [qz]
    refine rg_nil ?_
    refine ek_rt (sk _ (sc _ (sc _ sn))) ?_
    refine rt_hard1 (i := 13) Kx rfl ?_
    refine rf_storeR (n := 5) rfl rfl Kx rfl rfl (UpdR.here _ _ _ Nl) (fun _ h => by cases h; exact (sk _ (sc _ (sc _ sn)))) ?_
    simp only [qz, Nat.reduceAdd]
    refine rg_nil ?_
    refine ek_rt (sk _ (sc _ (sc _ sn))) ?_
    refine rt_soft (i := 14) rfl Kx (fun c d v a w h => by cases d <;> exact h) (sk _ (sc _ (sc _ sn))) ?_
    refine rg_assign ?_
    simp only [qz]
    refine rg_nil ?_
    refine ek_rt (sk _ (sc _ (sc _ sn))) ?_
    refine rt_nil Kx ?_
    refine ek_next (wk_seq (wk_seq ?_))
    refine wk_region [0, 0] rfl Kx ?_
    simp only [qy]
    refine rg_move ?_
    simp only [qz]
    refine rf_neq (b := false) rfl rfl rfl rfl (by decide) ?_
    simp only [qz]
    refine rg_nil (ek_next (wk_cond_f rfl (wk_skip (ek_next (wk_seq ?_)))))
    refine wk_region [0, 0, 1, 0, 0, 0, 1, 0] rfl Kx ?_
    simp only [qy]
    refine rf_loadR (n := 5) rfl rfl rfl Try.underlying29 rfl Kx (fun w hw => Kn.hd0 (Kn.tl hw)) rfl rfl ?_
    simp only [qz]
    refine rf_loadR (n := 5) rfl rfl rfl Try.underlying29 rfl Kx (fun w hw => Kn.hd0 hw) rfl rfl ?_
    simp only [qz]
    have hpk := (mk_ok (mulR_k hxk.k0 hyk.k0) hr2).1
    apply rg_num Rx Kx
    case hargs => exact Ax
    case h => exact fun w hw => rPlus_ok ac z2 hd3 hpk w
    case hz => exact Nz
    case hc => exact (fun c h => mk_err h)
    · intro hr3
      simp only [qz]
      refine rg_move ?_
      simp only [qz]
      refine rf_extract rfl rfl rfl rfl ?_
      simp only [qz]
      refine rf_extract rfl rfl rfl rfl ?_
      simp only [qz]
      refine rf_storeR (n := 5) rfl rfl Kx rfl rfl (UpdR.there _ (UpdR.here _ _ _ Nl)) Nz ?_
      simp only [qz, Nat.reduceAdd]
      refine rg_assign ?_
      simp only [qz]
      refine rg_nil (ek_next (wk_seq ?_))
      refine wk_region [0, 0] rfl Kx ?_
      simp only [qy]
      refine rg_move ?_
      simp only [qz]
      refine rf_neq (b := true) rfl rfl rfl rfl (by decide) ?_
      simp only [qz]
      refine rg_nil (ek_next (wk_cond_t rfl (wk_seq ?_)))
      refine wk_region [0, 0, 1, 0] rfl Kx ?_
      simp only [qy]
      refine rf_build (cs := fun a => #[.int .i64 0, .int .i64 0, .int .i64 0, .int .i64 0, .int .i64 0]) rfl rfl Kx ?_
      simp only [qz]
      refine rg_move ?_
      simp only [qz]
      refine rf_storeR (n := 5) rfl rfl Kx rfl rfl (UpdR.there _ (UpdR.there _ (UpdR.here _ _ _ Nl))) Nz ?_
      simp only [qz, Nat.reduceAdd]
      refine rg_assign ?_
      simp only [qz]
      refine rg_nil (ek_next (wk_ret (ek_block_ret (ek_then_ret (ek_then_ret (ek_block_ret (ek_then_ret ?_)))))))
      refine ek_ret (fun w hw => ⟨rfl, _, run_results2 rfl rfl (Kn.hd0 (Kn.tl (Kn.tl hw))) Try.underlying29 rfl Kx, ?_⟩)
      (try simp only [qz])
      exact ⟨by rw [prodsR_err (k := k + 1) (c := 4) (by simp only [prodsR, hd2.out, hr2, hr3]) xs.length Ox]; rfl, hw.below⟩
    intro z3 hr3
    simp only [qz]
    refine rg_move ?_
    simp only [qz]
    refine rf_extract rfl rfl rfl rfl ?_
    simp only [qz]
    refine rf_extract rfl rfl rfl rfl ?_
    simp only [qz]
    refine rf_storeR (n := 5) rfl rfl Kx rfl rfl (UpdR.there _ (UpdR.here _ _ _ Nl)) Nz ?_
    simp only [qz, Nat.reduceAdd]
    refine rg_assign ?_
    simp only [qz]
    refine rg_nil (ek_next (wk_seq ?_))
    refine wk_region [0, 0] rfl Kx ?_
    simp only [qy]
    refine rg_move ?_
    simp only [qz]
    refine rf_neq (b := false) rfl rfl rfl rfl (by decide) ?_
    simp only [qz]
    refine rg_nil (ek_next (wk_cond_f rfl (wk_skip (ek_block (ek_next ?_)))))
    refine wk_region [0, 0, 0] rfl Kx ?_
    simp only [qy]
    refine rg_move ?_
    simp only [qz]
    refine rf_add rfl rfl rfl rfl (wrap_ok Ox Ox) ?_
    simp only [qz]
    refine rg_assign ?_
    simp only [qz]
    refine rg_nil ?_
    refine ek_sub (sk _ (sc _ (sc _ sn))) ?_
    refine ek_roundF (xs.length - (k + 1)) Ox Kx ?_
    exact ⟨k + 1, z3, rfl, by rfl, by rfl, Ox, (Lib.hid (by simp only [prodsR, hd2.out, hr2, hr3])), (mk_ok (addR_k hd3.k0) hr3).1⟩
  refine rg_new (cs := ?_) (ty := ?_) Rx (fun w => ?_) (fun _ h => by cases h; exact (sc _ (sc _ sn))) (fun g5 => ?_); rotate_left 2
  focus (go_simp; rfl)
  simp only [qz]
  refine rg_nil ?_
  refine ek_rt (sk _ (sc _ (sc _ sn))) ?_
  refine rt_hard1 (i := 8) Kx rfl ?_
  apply rg_num Rx Kx
  case hargs => exact Ax
  case h => exact fun w hw => rTimes_ok (nm xs k) (nm ys k) hxk hyk w
  case hz => exact (fun _ h => by cases h; exact (sk _ (sc _ (sc _ sn))))
  case hc => exact (fun c h => mk_err h)
  · intro hr4
    simp only [qz]
    refine rg_nil ?_
    refine ek_rt (sk _ (sc _ (sc _ sn))) ?_
    refine rt_soft (i := 9) rfl Kx (fun c d v a w h => by cases d <;> exact h) (sk _ (sc _ (sc _ sn))) ?_
    refine rg_move ?_
    simp only [qz]
    refine rg_nil ?_
    refine ek_rt (sk _ (sc _ (sc _ sn))) ?_
    refine rt_soft (i := 10) rfl Kx (fun c d v a w h => by cases d <;> exact h) (sk _ (sc _ (sc _ sn))) ?_
    refine rf_extract rfl rfl rfl rfl ?_
    simp only [qz]
    refine rg_nil ?_
    refine ek_rt (sk _ (sc _ (sc _ sn))) ?_
    refine rt_soft (i := 11) rfl Kx (fun c d v a w h => by cases d <;> exact h) (sk _ (sc _ (sc _ sn))) ?_
    refine rf_extract rfl rfl rfl rfl ?_
    simp only [qz]
    refine rg_nil ?_
    refine ek_rt (sk _ (sc _ (sc _ sn))) ?_
    refine rt_hard1 (i := 13) Kx rfl ?_
    refine rf_storeR (n := 5) rfl rfl Kx rfl rfl (UpdR.here _ _ _ Nl) (fun _ h => by cases h; exact (sk _ (sc _ (sc _ sn)))) ?_
    simp only [qz, Nat.reduceAdd]
    refine rg_nil ?_
    refine ek_rt (sk _ (sc _ (sc _ sn))) ?_
    refine rt_soft (i := 14) rfl Kx (fun c d v a w h => by cases d <;> exact h) (sk _ (sc _ (sc _ sn))) ?_
    refine rg_assign ?_
    simp only [qz]
    refine rg_nil ?_
    refine ek_rt (sk _ (sc _ (sc _ sn))) ?_
    refine rt_nil Kx ?_
    refine ek_next (wk_seq (wk_seq ?_))
    refine wk_region [0, 0] rfl Kx ?_
    simp only [qy]
    refine rg_move ?_
    simp only [qz]
    refine rf_neq (b := true) rfl rfl rfl rfl (by decide) ?_
    simp only [qz]
    refine rg_nil (ek_next (wk_cond_t rfl (wk_seq ?_)))
    refine wk_region [0, 0, 1, 0] rfl Kx ?_
    simp only [qy]
    refine rf_build (cs := fun a => #[.int .i64 0, .int .i64 0, .int .i64 0, .int .i64 0, .int .i64 0]) rfl rfl Kx ?_
    simp only [qz]
    refine rg_move ?_
    simp only [qz]
    refine rf_storeR (n := 5) rfl rfl Kx rfl rfl (UpdR.there _ (UpdR.there _ (UpdR.here _ _ _ Nl))) Nz ?_
    simp only [qz, Nat.reduceAdd]
    refine rg_assign ?_
    simp only [qz]
    refine rg_nil (ek_next (wk_ret (ek_then_ret (ek_block_ret (ek_then_ret (ek_then_ret (ek_block_ret (ek_then_ret ?_))))))))
    refine ek_ret (fun w hw => ⟨rfl, _, run_results2 rfl rfl (Kn.hd0 (Kn.tl (Kn.tl hw))) Try.underlying29 rfl Kx, ?_⟩)
    (try simp only [qz])
    exact ⟨by rw [prodsR_err (k := k + 1) (c := 4) (by simp only [prodsR, hd2.out, hr4]) xs.length Ox]; rfl, hw.below⟩
  intro z4 hr4
  simp only [qz]
  refine rg_nil ?_
  refine ek_rt (sk _ (sc _ (sc _ sn))) ?_
  refine rt_soft (i := 9) rfl Kx (fun c d v a w h => by cases d <;> exact h) (sk _ (sc _ (sc _ sn))) ?_
  refine rg_move ?_
  simp only [qz]
  refine rg_nil ?_
  refine ek_rt (sk _ (sc _ (sc _ sn))) ?_
  refine rt_soft (i := 10) rfl Kx (fun c d v a w h => by cases d <;> exact h) (sk _ (sc _ (sc _ sn))) ?_
  refine rf_extract rfl rfl rfl rfl ?_
  simp only [qz]
  refine rg_nil ?_
  refine ek_rt (sk _ (sc _ (sc _ sn))) ?_
  refine rt_soft (i := 11) rfl Kx (fun c d v a w h => by cases d <;> exact h) (sk _ (sc _ (sc _ sn))) ?_
  refine rf_extract rfl rfl rfl rfl ?_
  simp only [qz]
  refine rg_nil ?_
  refine ek_rt (sk _ (sc _ (sc _ sn))) ?_
  refine rt_hard1 (i := 13) Kx rfl ?_
  refine rf_storeR (n := 5) rfl rfl Kx rfl rfl (UpdR.here _ _ _ Nl) (fun _ h => by cases h; exact (sk _ (sc _ (sc _ sn)))) ?_
  simp only [qz, Nat.reduceAdd]
  refine rg_nil ?_
  refine ek_rt (sk _ (sc _ (sc _ sn))) ?_
  refine rt_soft (i := 14) rfl Kx (fun c d v a w h => by cases d <;> exact h) (sk _ (sc _ (sc _ sn))) ?_
  refine rg_assign ?_
  simp only [qz]
  refine rg_nil ?_
  refine ek_rt (sk _ (sc _ (sc _ sn))) ?_
  refine rt_nil Kx ?_
  refine ek_next (wk_seq (wk_seq ?_))
  refine wk_region [0, 0] rfl Kx ?_
  simp only [qy]
  refine rg_move ?_
  simp only [qz]
  refine rf_neq (b := false) rfl rfl rfl rfl (by decide) ?_
  simp only [qz]
  refine rg_nil (ek_next (wk_cond_f rfl (wk_skip (ek_next (wk_seq ?_)))))
  refine wk_region [0, 0, 1, 0, 0, 0, 1, 0] rfl Kx ?_
  simp only [qy]
  refine rf_loadR (n := 5) rfl rfl rfl Try.underlying29 rfl Kx (fun w hw => Kn.hd0 (Kn.tl hw)) rfl rfl ?_
  simp only [qz]
  refine rf_loadR (n := 5) rfl rfl rfl Try.underlying29 rfl Kx (fun w hw => Kn.hd0 hw) rfl rfl ?_
  simp only [qz]
  have hpk := (mk_ok (mulR_k hxk.k0 hyk.k0) hr4).1
  apply rg_num Rx Kx
  case hargs => exact Ax
  case h => exact fun w hw => rPlus_ok ac z4 hd3 hpk w
  case hz => exact Nz
  case hc => exact (fun c h => mk_err h)
  · intro hr5
    simp only [qz]
    refine rg_move ?_
    simp only [qz]
    refine rf_extract rfl rfl rfl rfl ?_
    simp only [qz]
    refine rf_extract rfl rfl rfl rfl ?_
    simp only [qz]
    refine rf_storeR (n := 5) rfl rfl Kx rfl rfl (UpdR.there _ (UpdR.here _ _ _ Nl)) Nz ?_
    simp only [qz, Nat.reduceAdd]
    refine rg_assign ?_
    simp only [qz]
    refine rg_nil (ek_next (wk_seq ?_))
    refine wk_region [0, 0] rfl Kx ?_
    simp only [qy]
    refine rg_move ?_
    simp only [qz]
    refine rf_neq (b := true) rfl rfl rfl rfl (by decide) ?_
    simp only [qz]
    refine rg_nil (ek_next (wk_cond_t rfl (wk_seq ?_)))
    refine wk_region [0, 0, 1, 0] rfl Kx ?_
    simp only [qy]
    refine rf_build (cs := fun a => #[.int .i64 0, .int .i64 0, .int .i64 0, .int .i64 0, .int .i64 0]) rfl rfl Kx ?_
    simp only [qz]
    refine rg_move ?_
    simp only [qz]
    refine rf_storeR (n := 5) rfl rfl Kx rfl rfl (UpdR.there _ (UpdR.there _ (UpdR.here _ _ _ Nl))) Nz ?_
    simp only [qz, Nat.reduceAdd]
    refine rg_assign ?_
    simp only [qz]
    refine rg_nil (ek_next (wk_ret (ek_block_ret (ek_then_ret (ek_then_ret (ek_block_ret (ek_then_ret ?_)))))))
    refine ek_ret (fun w hw => ⟨rfl, _, run_results2 rfl rfl (Kn.hd0 (Kn.tl (Kn.tl hw))) Try.underlying29 rfl Kx, ?_⟩)
    (try simp only [qz])
    exact ⟨by rw [prodsR_err (k := k + 1) (c := 4) (by simp only [prodsR, hd2.out, hr4, hr5]) xs.length Ox]; rfl, hw.below⟩
  intro z5 hr5
  simp only [qz]
  refine rg_move ?_
  simp only [qz]
  refine rf_extract rfl rfl rfl rfl ?_
  simp only [qz]
  refine rf_extract rfl rfl rfl rfl ?_
  simp only [qz]
  refine rf_storeR (n := 5) rfl rfl Kx rfl rfl (UpdR.there _ (UpdR.here _ _ _ Nl)) Nz ?_
  simp only [qz, Nat.reduceAdd]
  refine rg_assign ?_
  simp only [qz]
  refine rg_nil (ek_next (wk_seq ?_))
  refine wk_region [0, 0] rfl Kx ?_
  simp only [qy]
  refine rg_move ?_
  simp only [qz]
  refine rf_neq (b := false) rfl rfl rfl rfl (by decide) ?_
  simp only [qz]
  refine rg_nil (ek_next (wk_cond_f rfl (wk_skip (ek_block (ek_next ?_)))))
  refine wk_region [0, 0, 0] rfl Kx ?_
  simp only [qy]
  refine rg_move ?_
  simp only [qz]
  refine rf_add rfl rfl rfl rfl (wrap_ok Ox Ox) ?_
  simp only [qz]
  refine rg_assign ?_
  simp only [qz]
  refine rg_nil ?_
  refine ek_sub (sk _ (sc _ (sc _ sn))) ?_
  refine ek_roundF (xs.length - (k + 1)) Ox Kx ?_
  exact ⟨k + 1, z5, rfl, by rfl, by rfl, Ox, (Lib.hid (by simp only [prodsR, hd2.out, hr4, hr5])), (mk_ok (addR_k hd3.k0) hr5).1⟩

set_option maxRecDepth 100000 in
set_option maxHeartbeats 1000000 in
theorem rrow_any (xs : List Nm) (b off : Nat) (c : Nat) (N i : Nat) (hN : N ≤ 6) (hlx : xs.length = N * N) (hi : i < N) (hc : xs.length ≤ c) (w : World) : Calls Try.prog 65 #[.agg #[.int .i64 N, .slice (some ⟨b, off, none⟩) xs.length c], .int .i64 (i : Int)] w fun e w' => e = .returned (.slice (some ⟨b, off + i * N * 5, none⟩) N (c - i * N)) ∧ Below w.heap.size w w' := by
  have hii := Nat.mul_le_mul (show i + 1 ≤ N by omega) (Nat.le_refl N)
  have h36 := Nat.mul_le_mul hN hN
  have e1 : (i + 1) * N = i * N + N := by rw [Nat.add_mul, Nat.one_mul]
  go_enter Try.func65, Try.ntmps65
  refine wk_start ?_
  refine wk_seq ?_
  refine wk_region [1, 0] rfl Kx ?_
  simp only [qy]
  refine Rgn fun g1 => ?_
  simp only [qz]
  refine rg_assign ?_
  simp only [qz]
  refine rg_nil (ek_next (wk_seq ?_))
  refine wk_region [0, 0, 0, 0, 0, 0, 0, 0, 0, 0, 0, 0, 0] rfl Kx ?_
  simp only [qy]
  refine rf_field (n := 0) (j := 1) rfl rfl rfl Try.underlying24 rfl Kx rfl ?_
  simp only [qz]
  refine rf_load rfl rfl rfl Try.underlying22 rfl (fun w hw => (Kn.hd0 hw).at rfl) ?_
  simp only [qz]
  refine rg_move ?_
  simp only [qz]
  refine rf_field (n := 0) (j := 0) rfl rfl rfl Try.underlying24 rfl Kx rfl ?_
  simp only [qz]
  refine rf_load rfl rfl rfl Try.underlying3 rfl (fun w hw => (Kn.hd0 hw).at rfl) ?_
  simp only [qz]
  refine rf_mul (r := ((i * N : Nat) : Int)) rfl rfl rfl rfl (wrap_eqB (Int.natCast_mul i N).symm Ox Ox) ?_
  simp only [qz]
  refine rg_move ?_
  simp only [qz]
  refine rf_add rfl rfl rfl rfl (wrap_ok Ox Ox) ?_
  simp only [qz]
  refine rf_field (n := 0) (j := 0) rfl rfl rfl Try.underlying24 rfl Kx rfl ?_
  simp only [qz]
  refine rf_load rfl rfl rfl Try.underlying3 rfl (fun w hw => (Kn.hd0 hw).at rfl) ?_
  simp only [qz]
  refine rf_mul (r := ((i * N + N : Nat) : Int)) rfl rfl rfl rfl (wrap_eqB (by rw [← e1, Int.natCast_mul, Int.natCast_add]; rfl) Ox Ox) ?_
  simp only [qz]
  refine rf_sliceLH (lo := i * N) (hi := i * N + N) (n := N) (sz := 5) rfl rfl rfl rfl rfl Try.underlying22 Kx rfl rfl rfl Ox Ox ?_
  simp only [qz]
  refine rg_assign ?_
  simp only [qz]
  refine rg_nil (ek_next (wk_ret ?_))
  refine ek_ret (fun w hw => ⟨rfl, _, res_t _ rfl, ?_⟩)
  (try simp only [qz])
  first | exact ⟨rfl, hw.below⟩ | exact ⟨trivial, hw.below⟩ | exact hw.below

end Go.Proofs.Ytjeijnjaleldkaa
namespace Go.Proofs.Ytjeijnjaleldkaa
set_option linter.all false
open Go.RowKit

/-- An element of a product, by its row and column. -/
theorem rprodM {xs ys : List Nm} {N i k : Nat} {a a' : Option Addr} {c c' : Nat} (hN : N ≤ 6) (hlx : xs.length = N * N) (hly : ys.length = N * N) (hox : allOk xs = true) (hoy : allOk ys = true) (hi : i < N) (hk : k < N) (w : World) (hA : AS w a (nms (rowL xs N i))) (hB : AS w a' (nms (colL ys N k N))) :
    Calls Try.prog 100 #[.slice a N c, .slice a' N c'] w fun e w' => e = .returned (numV (mulF N xs ys i k)) ∧ Below w.heap.size w w' := by
  have h1 := rowL_len xs N i
  have h2 := colL_len ys N k N
  have hr : allOk (rowL xs N i) = true := allOk_true fun t ht => okB_iff.2 (by rw [rowL_at xs Ox]; exact elemOk hox hlx hi Ox)
  have hc : allOk (colL ys N k N) = true := allOk_true fun t ht => okB_iff.2 (by rw [colL_at ys Ox]; exact elemOk hoy hly Ox hk)
  have h := rproducts_any (rowL xs N i) (colL ys N k N) a a' c c' Ox Ox hr hc w hA hB
  rw [h1, h2, prodsR_congr N (fun t ht => rowL_at xs ht) (fun t ht => colL_at ys ht)] at h
  exact h
set_option maxRecDepth 100000 in
set_option maxHeartbeats 1000000 in
theorem rmul_any (n m : Int) (xs ys : List Nm) (a a' : Option Addr) (c c' : Nat) (hl : xs.length ≤ 1000000) (hl' : ys.length ≤ 1000000) (hc : xs.length ≤ c) (w : World) (hA : AS w a (nms xs)) (hB : AS w a' (nms ys)) : Calls Try.prog 49 #[.agg #[.int .i64 n, .slice a xs.length c], .agg #[.int .i64 m, .slice a' ys.length c']] w fun e w' => RetM w (rN n.toNat (mulM n m xs ys)) (rL (mulM n m xs ys)) (rC (mulM n m xs ys)) e w' := by
  go_enter Try.func49, Try.ntmps49
  refine wk_start ?_
  refine wk_seq ?_
  refine wk_region [1, 1, 1, 0] rfl Kx ?_
  simp only [qy]
  refine Rgn fun g1 => ?_
  simp only [qz]
  refine Rgn fun g2 => ?_
  simp only [qz]
  refine Rgn fun g3 => ?_
  simp only [qz]
  refine rg_assign ?_
  simp only [qz]
  refine rg_nil (ek_next (wk_seq (wk_seq ?_)))
  refine wk_region [0, 1, 0, 0, 0, 1, 0, 0] rfl Kx ?_
  simp only [qy]
  refine rf_loadR (n := 2) rfl rfl rfl Try.underlying24 rfl Kx (fun w hw => Kn.hd0 (Kn.tl (Kn.tl hw))) rfl rfl ?_
  simp only [qz]
  apply rg_pureb Rx Kx
  case hargs => exact Ax
  case h => exact fun w hw => rmvalid_any n xs a c hl w (hA.kn0 hw)
  case hz => exact Nz
  intro x h1
  cases x
  · (try simp only [qd, ne_eq] at h1)
    simp only [qz]
    refine rf_not rfl rfl rfl ?_
    simp only [qz]
    refine rg_move ?_
    simp only [qz]
    refine rg_skip Rx ?_
    simp only [qz]
    refine rg_skip_h Rx Nz ?_
    simp only [qz]
    refine rg_skip Rx ?_
    simp only [qz]
    refine rf_pick rfl rfl rfl ?_
    simp only [qz]
    refine rg_nil (ek_next (wk_cond_t rfl (wk_seq ?_)))
    refine wk_region [0, 1, 0] rfl Kx ?_
    simp only [qy]
    refine rf_build (cs := fun a => #[.int .i64 0, .slice none 0 0]) rfl rfl Kx ?_
    simp only [qz]
    refine rf_storeR (n := 2) rfl rfl Kx rfl rfl (UpdR.here _ _ _ Nl) Nz ?_
    simp only [qz, Nat.reduceAdd]
    refine rg_assign ?_
    simp only [qz]
    refine rg_nil (ek_next (wk_ret (ek_then_ret ?_)))
    refine ek_ret (fun w hw => ⟨rfl, _, run_results2 rfl rfl (Kn.hd0 hw) Try.underlying24 rfl Kx, ?_⟩)
    (try simp only [qz])
    exact retM_err (c := 20) (by unfold mulM; rw [h1]; rfl) hw.below
  (try simp only [qd, ne_eq] at h1)
  simp only [qz]
  have hv := h1
  obtain ⟨N, rfl, hN1, hN, hlx, hlx36, hox⟩ := validB_N' hv
  have hx0 : 0 < xs.length := by (have := Nat.mul_le_mul hN1 hN1; omega)
  replace hlx := Lib.hid hlx
  refine rf_not rfl rfl rfl ?_
  simp only [qz]
  refine rg_move ?_
  simp only [qz]
  refine rf_loadR (n := 2) rfl rfl rfl Try.underlying24 rfl Kx (fun w hw => Kn.hd0 (Kn.tl hw)) rfl rfl ?_
  simp only [qz]
  apply rg_pureb Rx Kx
  case hargs => exact Ax
  case h => exact fun w hw => rmvalid_any m ys a' c' hl' w (hB.kn0 hw)
  case hz => exact Nz
  intro x h2
  cases x
  · (try simp only [qd, ne_eq] at h2)
    simp only [qz]
    refine rf_not rfl rfl rfl ?_
    simp only [qz]
    refine rf_pick rfl rfl rfl ?_
    simp only [qz]
    refine rg_nil (ek_next (wk_cond_t rfl (wk_seq ?_)))
    refine wk_region [0, 1, 0] rfl Kx ?_
    simp only [qy]
    refine rf_build (cs := fun a => #[.int .i64 0, .slice none 0 0]) rfl rfl Kx ?_
    simp only [qz]
    refine rf_storeR (n := 2) rfl rfl Kx rfl rfl (UpdR.here _ _ _ Nl) Nz ?_
    simp only [qz, Nat.reduceAdd]
    refine rg_assign ?_
    simp only [qz]
    refine rg_nil (ek_next (wk_ret (ek_then_ret ?_)))
    refine ek_ret (fun w hw => ⟨rfl, _, run_results2 rfl rfl (Kn.hd0 hw) Try.underlying24 rfl Kx, ?_⟩)
    (try simp only [qz])
    exact retM_err (c := 20) (by unfold mulM; rw [h2, Bool.and_false]; rfl) hw.below
  (try simp only [qd, ne_eq] at h2)
  simp only [qz]
  have hv2 := h2
  obtain ⟨M, rfl, hM1, hM, hly, hly36, hoy⟩ := validB_N' hv2
  replace hly := Lib.hid hly
  refine rf_not rfl rfl rfl ?_
  simp only [qz]
  refine rf_pick rfl rfl rfl ?_
  simp only [qz]
  refine rg_nil (ek_next (wk_cond_f rfl (wk_skip (ek_next (wk_seq (wk_seq ?_))))))
  refine wk_region [0, 0, 0, 0, 0] rfl Kx ?_
  simp only [qy]
  refine rf_field (n := 0) (j := 0) rfl rfl rfl Try.underlying24 rfl Kx rfl ?_
  simp only [qz]
  refine rf_load rfl rfl rfl Try.underlying3 rfl (fun w hw => (Kn.hd0 (Kn.tl (Kn.tl hw))).at rfl) ?_
  simp only [qz]
  refine rf_field (n := 0) (j := 0) rfl rfl rfl Try.underlying24 rfl Kx rfl ?_
  simp only [qz]
  refine rf_load rfl rfl rfl Try.underlying3 rfl (fun w hw => (Kn.hd0 (Kn.tl hw)).at rfl) ?_
  simp only [qz]
  refine rfb_neq rfl rfl rfl rfl ?_
  intro x h3
  cases x
  · (try simp only [qd, ne_eq] at h3)
    simp only [qz]
    obtain rfl : N = M := by omega
    have hcp : mulM (N : Int) (N : Int) xs ys = madeR N (mulF N xs ys) := by (unfold mulM; rw [hv, hv2, Bool.and_self, if_pos rfl, if_pos rfl, Int.toNat_natCast])
    replace hcp := Lib.hid hcp
    obtain ⟨b, off, ha, hlt, hcell⟩ := AS.openN hA hx0
    subst ha
    have hN2 := Nat.mul_le_mul hN hN
    refine rg_nil (ek_next (wk_cond_f rfl (wk_skip (ek_next (wk_seq ?_)))))
    refine wk_region [0, 0, 1, 1, 1] rfl Kx ?_
    simp only [qy]
    refine rf_field (n := 0) (j := 0) rfl rfl rfl Try.underlying24 rfl Kx rfl ?_
    simp only [qz]
    refine rf_load rfl rfl rfl Try.underlying3 rfl (fun w hw => (Kn.hd0 (Kn.tl (Kn.tl hw))).at rfl) ?_
    simp only [qz]
    apply rg_made (T := fun v u => ∃ g, v = .agg #[.int .i64 (N : Int), .slice (some ⟨g, 0, none⟩) (N * N) (N * N)] ∧ u = [(g, .cells (NmE.flat (List.replicate (N * N) Nm.zero) ++ []).toArray 29)]) Rx Kx
    case hargs => exact Ax
    case h => exact fun w hw => (zeros_any N hN w).mono (fun e w' ⟨g, he, hm⟩ => ⟨_, _, he, ⟨g, rfl, rfl⟩, hm⟩)
    case hz => exact Nz
    rintro _ _ ⟨go, rfl, rfl⟩
    simp only [List.cons_append, List.nil_append]
    simp only [qz]
    refine Rgn fun g4 => ?_
    simp only [qz]
    refine rf_storeR (n := 2) rfl rfl Kx rfl rfl (UpdR.here _ _ _ Nl) Nz ?_
    simp only [qz, Nat.reduceAdd]
    refine rg_nil (ek_next (wk_seq (wk_seq ?_)))
    rw [show List.replicate (N * N) Nm.zero = [] ++ List.replicate (N * N - 0) Nm.zero from rfl]
    refine wk_region [0] rfl Kx ?_
    simp only [qy]
    refine rg_assign ?_
    simp only [qz]
    refine rg_nil (ek_next (wk_block ?_))
    refine wk_loopF [5, 7, 8, 9, 10, 29, 30, 31, 32, 33, 34, 35, 36, 37, 38, 39, 40, 41, 42, 43, 44, 45, 46, 47, 48, 49, 50, 51, 52, 53, 54, 55, 56, 57, 58, 59, 60, 61, 62, 63, 64] (fun mz f s => ∃ (i t : Nat) (l : List Nm), f 7 = .int .i64 i ∧ s = ((g4, .cells #[.int .i64 N, .slice (some ⟨go, 0, none⟩) (N * N) (N * N)] 24) :: ((go, .cells (NmE.flat (l ++ List.replicate (N * N - t) Nm.zero) ++ []).toArray 29) :: ((g3, .cells #[.int .i64 0, .slice none 0 0] 24) :: ((g2, .cells #[.int .i64 N, .slice a' ys.length c'] 24) :: ((g1, .cells #[.int .i64 N, .slice (some ⟨b, off, none⟩) xs.length c] 24) :: []))))) ∧ mz = N - i ∧ i ≤ N ∧ Hid (t = i * N) ∧ Hid (gather (fun t => mulF N xs ys (t / N) (t % N)) t = .ok l)) ((fun (i t : Nat) (l : List Nm) => N - i) (0) (0) ([])) ?_ Kx ?_
    · exact ⟨0, 0, [], rfl, rfl, rfl, by omega, (Lib.hid (by rw [Nat.zero_mul])), (Lib.hid rfl)⟩
    rintro mz f1 s ⟨i, t, l, hs1_7, rfl, hn, hd1, hd2, hd3⟩
    simp only [Act.putF, List.foldl_cons, List.foldl_nil, hs1_7, Act.put, Act.eval, q1, q2, q3, q4, q5, q6, q7, q8, q9, q10, q11, q12, q13, q14, q15, q16, q17, q18, Nat.reduceAdd, Bool.not_true, Bool.not_false]
    clear hs1_7
    refine wk_seq (wk_seq ?_)
    refine wk_region [0, 0, 0, 0] rfl Kx ?_
    simp only [qy]
    refine rg_move ?_
    simp only [qz]
    refine rf_field (n := 0) (j := 0) rfl rfl rfl Try.underlying24 rfl Kx rfl ?_
    simp only [qz]
    refine rf_load rfl rfl rfl Try.underlying3 rfl (fun w hw => (Kn.hd0 (Kn.tl (Kn.tl (Kn.tl (Kn.tl hw))))).at rfl) ?_
    simp only [qz]
    refine rfb_lss rfl rfl rfl rfl ?_
    intro x h4
    cases x
    · (try simp only [qd, ne_eq] at h4)
      simp only [qz]
      refine rg_nil (ek_next (wk_cond_f rfl (wk_exit (ek_then_exit (ek_then_exit (ek_block_exit (ek_next (wk_seq ?_))))))))
      refine wk_region [0, 1, 0] rfl Kx ?_
      simp only [qy]
      refine rf_loadR (n := 2) rfl rfl rfl Try.underlying24 rfl Kx (fun w hw => Kn.hd0 hw) rfl rfl ?_
      simp only [qz]
      refine rf_storeR (n := 2) rfl rfl Kx rfl rfl (UpdR.there _ (UpdR.there _ (UpdR.here _ _ _ Nl))) Nz ?_
      simp only [qz, Nat.reduceAdd]
      refine rg_assign ?_
      simp only [qz]
      refine rg_nil (ek_next (wk_ret ?_))
      refine ek_ret (fun w hw => ⟨rfl, _, run_results2 rfl rfl (Kn.hd0 (Kn.tl (Kn.tl hw))) Try.underlying24 rfl Kx, ?_⟩)
      (try simp only [qz])
      obtain rfl : N = i := by omega
      obtain rfl : t = N * N := hd2.out
      rw [Nat.sub_self, List.replicate_zero, List.append_nil l] at hw
      have hll := gather_len hd3.out
      have hmd : madeR N (mulF N xs ys) = .ok l := hd3.out
      rw [hcp.out, hmd]
      exact ⟨_, [(go, _)], rfl, ownN_fl hll Ox, hw.made (sk _ (sc _ (sk _ (sk _ (sk _ sn)))))⟩
    (try simp only [qd, ne_eq] at h4)
    simp only [qz]
    refine rg_nil (ek_next (wk_cond_t rfl (wk_skip (ek_next (wk_seq (wk_block (wk_seq ?_)))))))
    refine wk_region [0] rfl Kx ?_
    simp only [qy]
    refine rg_assign ?_
    simp only [qz]
    refine rg_nil (ek_next (wk_block ?_))
    refine wk_loopF [5, 8, 9, 10, 35, 36, 37, 38, 39, 40, 41, 42, 43, 44, 45, 46, 47, 48, 49, 50, 51, 52, 53, 54, 55, 56, 57, 58, 59, 60, 61, 62, 63, 64] (fun mz f s => ∃ (k t : Nat) (l : List Nm), f 8 = .int .i64 k ∧ s = ((g4, .cells #[.int .i64 N, .slice (some ⟨go, 0, none⟩) (N * N) (N * N)] 24) :: ((go, .cells (NmE.flat (l ++ List.replicate (N * N - t) Nm.zero) ++ []).toArray 29) :: ((g3, .cells #[.int .i64 0, .slice none 0 0] 24) :: ((g2, .cells #[.int .i64 N, .slice a' ys.length c'] 24) :: ((g1, .cells #[.int .i64 N, .slice (some ⟨b, off, none⟩) xs.length c] 24) :: []))))) ∧ mz = N - k ∧ k ≤ N ∧ Hid (t = i * N + k) ∧ Hid (gather (fun t => mulF N xs ys (t / N) (t % N)) t = .ok l)) ((fun (k t : Nat) (l : List Nm) => N - k) (0) (t) (l)) ?_ Kx ?_
    · exact ⟨0, t, l, rfl, rfl, rfl, by omega, (Lib.hid (by have := hd2.out; omega)), hd3⟩
    rintro mz f2 s ⟨k, t, l, hs2_8, rfl, hn, he1, he2, he3⟩
    simp only [Act.putF, List.foldl_cons, List.foldl_nil, hs2_8, Act.put, Act.eval, q1, q2, q3, q4, q5, q6, q7, q8, q9, q10, q11, q12, q13, q14, q15, q16, q17, q18, Nat.reduceAdd, Bool.not_true, Bool.not_false]
    clear hs2_8
    refine wk_seq (wk_seq ?_)
    refine wk_region [0, 0, 0, 0] rfl Kx ?_
    simp only [qy]
    refine rg_move ?_
    simp only [qz]
    refine rf_field (n := 0) (j := 0) rfl rfl rfl Try.underlying24 rfl Kx rfl ?_
    simp only [qz]
    refine rf_load rfl rfl rfl Try.underlying3 rfl (fun w hw => (Kn.hd0 (Kn.tl (Kn.tl (Kn.tl (Kn.tl hw))))).at rfl) ?_
    simp only [qz]
    refine rfb_lss rfl rfl rfl rfl ?_
    intro x h5
    cases x
    · (try simp only [qd, ne_eq] at h5)
      simp only [qz]
      refine rg_nil (ek_next (wk_cond_f rfl (wk_exit (ek_then_exit (ek_then_exit (ek_block_exit (ek_block (ek_next ?_))))))))
      refine wk_region [0, 0, 0] rfl Kx ?_
      simp only [qy]
      refine rg_move ?_
      simp only [qz]
      refine rf_add rfl rfl rfl rfl (wrap_ok Ox Ox) ?_
      simp only [qz]
      refine rg_assign ?_
      simp only [qz]
      refine rg_nil ?_
      obtain rfl : N = k := by omega
      refine ek_roundF (N - (i + 1)) Ox Kx ?_
      exact ⟨i + 1, t, l, rfl, by rfl, by rfl, Ox, (Lib.hid (by rw [he2.out, Nat.add_mul, Nat.one_mul])), he3⟩
    (try simp only [qd, ne_eq] at h5)
    simp only [qz]
    refine rg_nil (ek_next (wk_cond_t rfl (wk_skip (ek_next (wk_seq (wk_block (wk_seq ?_)))))))
    have hix := ix_lt (N := N) (i := i) (k := k) Ox Ox
    have hll := gather_len he3.out
    have htt := he2.out
    replace htt : t < N * N := by omega
    have hr36 := Nat.mul_le_mul_right N (show i + 1 ≤ N by omega)
    have hr1 : (i + 1) * N = i * N + N := by rw [Nat.add_mul, Nat.one_mul]
    have hlxo := hlx.out
    replace hr36 := Lib.hid hr36
    replace hlxo := Lib.hid hlxo
    replace hr1 := Lib.hid hr1
    refine wk_rt _ Kx (sc _ (sc _ (sc _ (sc _ (sc _ sn))))) ?_
    refine rt_soft (i := 0) rfl Kx (fun c d v a w h => by cases d <;> exact h) (sc _ (sc _ (sc _ (sc _ (sc _ sn))))) ?_
    refine rf_loadR (n := 2) rfl rfl rfl Try.underlying24 rfl Kx (fun w hw => Kn.hd0 (Kn.tl (Kn.tl (Kn.tl (Kn.tl hw))))) rfl rfl ?_
    simp only [qz]
    refine rg_nil ?_
    refine ek_rt (sc _ (sc _ (sc _ (sc _ (sc _ sn))))) ?_
    refine rt_soft (i := 1) rfl Kx (fun c d v a w h => by cases d <;> exact h) (sc _ (sc _ (sc _ (sc _ (sc _ sn))))) ?_
    refine rg_move ?_
    simp only [qz]
    refine rg_nil ?_
    refine ek_rt (sc _ (sc _ (sc _ (sc _ (sc _ sn))))) ?_
    refine rt_soft (i := 3) rfl Kx (fun c d v a w h => by cases d <;> exact h) (sc _ (sc _ (sc _ (sc _ (sc _ sn))))) ?_
    refine rf_loadR (n := 2) rfl rfl rfl Try.underlying24 rfl Kx (fun w hw => Kn.hd0 (Kn.tl (Kn.tl (Kn.tl hw)))) rfl rfl ?_
    simp only [qz]
    refine rg_nil ?_
    refine ek_rt (sc _ (sc _ (sc _ (sc _ (sc _ sn))))) ?_
    refine rt_soft (i := 4) rfl Kx (fun c d v a w h => by cases d <;> exact h) (sc _ (sc _ (sc _ (sc _ (sc _ sn))))) ?_
    refine rg_move ?_
    simp only [qz]
    refine rg_nil ?_
    refine ek_rt (sc _ (sc _ (sc _ (sc _ (sc _ sn))))) ?_
    refine rt_hard2 (i := 2) (j := 10) Kx rfl rfl ?_ ?_
    · apply rg_pure Rx Kx
      case hargs => exact Ax
      case h => exact fun w hw => rrow_any xs b off c N i hN hlx.out Ox hc w
      case hz => exact (fun _ h => by cases h; exact (sc _ (sc _ (sc _ (sc _ (sc _ sn))))))
      simp only [qz]
      refine rg_nil ?_
      refine ek_rt (sc _ (sc _ (sc _ (sc _ (sc _ sn))))) ?_
      refine rt_hard2 (i := 5) (j := 10) Kx rfl rfl ?_ ?_
      · apply rg_retN Rx Kx
        case hargs => exact Ax
        case h => exact fun w hw => rcolumn_any ys a' c' N hN hly k Ox w (hB.kn0 hw)
        case hz => exact (fun _ h => by cases h; exact (sc _ (sc _ (sc _ (sc _ (sc _ sn))))))
        rw [colL_len]
        intro vaL vcL uL hOL
        simp only [qz]
        refine rg_nil ?_
        refine ek_rt ((sc _ (sc _ (sc _ (sc _ (sc _ sn))))).trans (List.sublist_append_right _ _)) ?_
        refine rt_hard2 (i := 6) (j := 10) Kx rfl rfl ?_ ?_
        · apply rg_num Rx Kx
          case hargs => exact Ax
          case h => exact fun w hw => rprodM hN hlx.out hly.out hox hoy Ox Ox w (AS.row (hA.kn0 hw) (by have h1 := hr36.out; have h2 := hr1.out; have h3 := hlx.out; omega) Ox) (OwnN.asN hOL (hw.perm (List.Perm.refl _)))
          case hz => exact (fun _ h => by cases h; exact ((sc _ (sc _ (sc _ (sc _ (sc _ sn))))).trans (List.sublist_append_right _ _)))
          case hc => exact (fun c h => prodsR_code h)
          · intro hr6
            simp only [qz]
            refine rg_nil ?_
            refine ek_rt ((sc _ (sc _ (sc _ (sc _ (sc _ sn))))).trans (List.sublist_append_right _ _)) ?_
            refine rt_soft (i := 7) rfl Kx (fun c d v a w h => by cases d <;> exact h) ((sc _ (sc _ (sc _ (sc _ (sc _ sn))))).trans (List.sublist_append_right _ _)) ?_
            refine rg_move ?_
            simp only [qz]
            refine rg_nil ?_
            refine ek_rt ((sc _ (sc _ (sc _ (sc _ (sc _ sn))))).trans (List.sublist_append_right _ _)) ?_
            refine rt_soft (i := 8) rfl Kx (fun c d v a w h => by cases d <;> exact h) ((sc _ (sc _ (sc _ (sc _ (sc _ sn))))).trans (List.sublist_append_right _ _)) ?_
            refine rf_extract rfl rfl rfl rfl ?_
            simp only [qz]
            refine rg_nil ?_
            refine ek_rt ((sc _ (sc _ (sc _ (sc _ (sc _ sn))))).trans (List.sublist_append_right _ _)) ?_
            refine rt_soft (i := 9) rfl Kx (fun c d v a w h => by cases d <;> exact h) ((sc _ (sc _ (sc _ (sc _ (sc _ sn))))).trans (List.sublist_append_right _ _)) ?_
            refine rf_extract rfl rfl rfl rfl ?_
            simp only [qz]
            refine rg_nil ?_
            refine ek_rt ((sc _ (sc _ (sc _ (sc _ (sc _ sn))))).trans (List.sublist_append_right _ _)) ?_
            refine rt_hard1 (i := 10) Kx rfl ?_
            refine rg_new (cs := ?_) (ty := ?_) Rx (fun w => ?_) (fun _ h => by cases h; exact ((sc _ (sc _ (sc _ (sc _ (sc _ sn))))).trans (List.sublist_append_right _ _))) (fun g5 => ?_); rotate_left 2
            focus (go_simp; rfl)
            simp only [qz]
            refine rg_nil ?_
            refine ek_rt (sk _ ((sc _ (sc _ (sc _ (sc _ (sc _ sn))))).trans (List.sublist_append_right _ _))) ?_
            refine rt_hard1 (i := 11) Kx rfl ?_
            refine rf_storeR (n := 5) rfl rfl Kx rfl rfl (UpdR.here _ _ _ Nl) (fun _ h => by cases h; exact (sk _ ((sc _ (sc _ (sc _ (sc _ (sc _ sn))))).trans (List.sublist_append_right _ _)))) ?_
            simp only [qz, Nat.reduceAdd]
            refine rg_nil ?_
            refine ek_rt (sk _ ((sc _ (sc _ (sc _ (sc _ (sc _ sn))))).trans (List.sublist_append_right _ _))) ?_
            refine rt_soft (i := 12) rfl Kx (fun c d v a w h => by cases d <;> exact h) (sk _ ((sc _ (sc _ (sc _ (sc _ (sc _ sn))))).trans (List.sublist_append_right _ _))) ?_
            refine rg_assign ?_
            simp only [qz]
            refine rg_nil ?_
            refine ek_rt (sk _ ((sc _ (sc _ (sc _ (sc _ (sc _ sn))))).trans (List.sublist_append_right _ _))) ?_
            refine rt_nil Kx ?_
            refine ek_next (wk_seq (wk_seq ?_))
            refine wk_region [0, 0] rfl Kx ?_
            simp only [qy]
            refine rg_move ?_
            simp only [qz]
            refine rf_neq (b := true) rfl rfl rfl rfl (by decide) ?_
            simp only [qz]
            refine rg_nil (ek_next (wk_cond_t rfl (wk_seq ?_)))
            refine wk_region [0, 0, 1, 0] rfl Kx ?_
            simp only [qy]
            refine rf_build (cs := fun a => #[.int .i64 0, .slice none 0 0]) rfl rfl Kx ?_
            simp only [qz]
            refine rg_move ?_
            simp only [qz]
            refine rf_storeR (n := 2) rfl rfl Kx rfl rfl (UpdR.there _ (UpdR.app _ (UpdR.there _ (UpdR.there _ (UpdR.here _ _ _ Nl))))) Nz ?_
            simp only [qz, Nat.reduceAdd]
            refine rg_assign ?_
            simp only [qz]
            refine rg_nil (ek_next (wk_ret (ek_then_ret (ek_block_ret (ek_then_ret (ek_then_ret (ek_block_ret (ek_block_ret (ek_then_ret (ek_then_ret (ek_block_ret (ek_then_ret ?_))))))))))))
            refine ek_ret (fun w hw => ⟨rfl, _, run_results2 rfl rfl (Kn.hd0 (Kn.tl (Kn.tl (Kn.tlU (Kn.tl hw))))) Try.underlying24 rfl Kx, ?_⟩)
            (try simp only [qz])
            exact retM_err (c := 4) (by rw [hcp.out]; exact gather_err he3.out (by (try dsimp only); rw [he2.out, ix_div Ox, ix_mod Ox]; exact hr6) _ Ox) hw.below
          intro z6 hr6
          simp only [qz]
          refine rg_nil ?_
          refine ek_rt ((sc _ (sc _ (sc _ (sc _ (sc _ sn))))).trans (List.sublist_append_right _ _)) ?_
          refine rt_soft (i := 7) rfl Kx (fun c d v a w h => by cases d <;> exact h) ((sc _ (sc _ (sc _ (sc _ (sc _ sn))))).trans (List.sublist_append_right _ _)) ?_
          refine rg_move ?_
          simp only [qz]
          refine rg_nil ?_
          refine ek_rt ((sc _ (sc _ (sc _ (sc _ (sc _ sn))))).trans (List.sublist_append_right _ _)) ?_
          refine rt_soft (i := 8) rfl Kx (fun c d v a w h => by cases d <;> exact h) ((sc _ (sc _ (sc _ (sc _ (sc _ sn))))).trans (List.sublist_append_right _ _)) ?_
          refine rf_extract rfl rfl rfl rfl ?_
          simp only [qz]
          refine rg_nil ?_
          refine ek_rt ((sc _ (sc _ (sc _ (sc _ (sc _ sn))))).trans (List.sublist_append_right _ _)) ?_
          refine rt_soft (i := 9) rfl Kx (fun c d v a w h => by cases d <;> exact h) ((sc _ (sc _ (sc _ (sc _ (sc _ sn))))).trans (List.sublist_append_right _ _)) ?_
          refine rf_extract rfl rfl rfl rfl ?_
          simp only [qz]
          refine rg_nil ?_
          refine ek_rt ((sc _ (sc _ (sc _ (sc _ (sc _ sn))))).trans (List.sublist_append_right _ _)) ?_
          refine rt_hard1 (i := 10) Kx rfl ?_
          refine rg_new (cs := ?_) (ty := ?_) Rx (fun w => ?_) (fun _ h => by cases h; exact ((sc _ (sc _ (sc _ (sc _ (sc _ sn))))).trans (List.sublist_append_right _ _))) (fun g6 => ?_); rotate_left 2
          focus (go_simp; rfl)
          simp only [qz]
          refine rg_nil ?_
          refine ek_rt (sk _ ((sc _ (sc _ (sc _ (sc _ (sc _ sn))))).trans (List.sublist_append_right _ _))) ?_
          refine rt_hard1 (i := 11) Kx rfl ?_
          refine rf_storeR (n := 5) rfl rfl Kx rfl rfl (UpdR.here _ _ _ Nl) (fun _ h => by cases h; exact (sk _ ((sc _ (sc _ (sc _ (sc _ (sc _ sn))))).trans (List.sublist_append_right _ _)))) ?_
          simp only [qz, Nat.reduceAdd]
          refine rg_nil ?_
          refine ek_rt (sk _ ((sc _ (sc _ (sc _ (sc _ (sc _ sn))))).trans (List.sublist_append_right _ _))) ?_
          refine rt_soft (i := 12) rfl Kx (fun c d v a w h => by cases d <;> exact h) (sk _ ((sc _ (sc _ (sc _ (sc _ (sc _ sn))))).trans (List.sublist_append_right _ _))) ?_
          refine rg_assign ?_
          simp only [qz]
          refine rg_nil ?_
          refine ek_rt (sk _ ((sc _ (sc _ (sc _ (sc _ (sc _ sn))))).trans (List.sublist_append_right _ _))) ?_
          refine rt_nil Kx ?_
          refine ek_next (wk_seq (wk_seq ?_))
          refine wk_region [0, 0] rfl Kx ?_
          simp only [qy]
          refine rg_move ?_
          simp only [qz]
          refine rf_neq (b := false) rfl rfl rfl rfl (by decide) ?_
          simp only [qz]
          refine rg_nil (ek_next (wk_cond_f rfl (wk_skip (ek_next ?_))))
          refine wk_region [0, 0, 0, 0, 0, 0, 0, 0, 0, 0, 1] rfl Kx ?_
          simp only [qy]
          refine rf_field (n := 0) (j := 1) rfl rfl rfl Try.underlying24 rfl Kx rfl ?_
          simp only [qz]
          refine rf_load rfl rfl rfl Try.underlying22 rfl (fun w hw => (Kn.hd0 (Kn.tlU (Kn.tl hw))).at rfl) ?_
          simp only [qz]
          refine rg_move ?_
          simp only [qz]
          refine rf_field (n := 0) (j := 0) rfl rfl rfl Try.underlying24 rfl Kx rfl ?_
          simp only [qz]
          refine rf_load rfl rfl rfl Try.underlying3 rfl (fun w hw => (Kn.hd0 (Kn.tl (Kn.tl (Kn.tl (Kn.tl (Kn.tlU (Kn.tl hw))))))).at rfl) ?_
          simp only [qz]
          refine rf_mul (r := ((i * N : Nat) : Int)) rfl rfl rfl rfl (wrap_eqB (Int.natCast_mul i N).symm Ox Ox) ?_
          simp only [qz]
          refine rg_move ?_
          simp only [qz]
          refine rf_add (r := ((t : Nat) : Int)) rfl rfl rfl rfl (wrap_eqB (by rw [he2.out, Int.natCast_add]) Ox Ox) ?_
          simp only [qz]
          refine rf_loadR (n := 5) rfl rfl rfl Try.underlying29 rfl Kx (fun w hw => Kn.hd0 hw) rfl rfl ?_
          simp only [qz]
          refine rf_indexS (n := t) (sz := 5) (j := 0 + t * 5) rfl rfl rfl rfl Try.underlying22 Kx rfl Ox rfl ?_
          simp only [qz]
          have hsz1 := nm_sz (l ++ List.replicate (N * N - t) Nm.zero) t (z6) (by simp only [List.length_append, List.length_replicate]; omega)
          refine rf_storeR (n := 5) (vs := nmC (z6)) rfl rfl Kx rfl rfl (UpdR.there _ (UpdR.app _ (UpdR.there _ (UpdR.here _ _ _ hsz1)))) Nz ?_
          rw [nm_fl (l ++ List.replicate (N * N - t) Nm.zero) t (z6) (by simp only [List.length_append, List.length_replicate]; omega)]
          simp only [qz]
          refine rg_nil (ek_block (ek_next ?_))
          refine wk_region [0, 0, 0] rfl Kx ?_
          simp only [qy]
          refine rg_move ?_
          simp only [qz]
          refine rf_add rfl rfl rfl rfl (wrap_ok Ox Ox) ?_
          simp only [qz]
          refine rg_assign ?_
          simp only [qz]
          refine rg_nil ?_
          refine ek_sub (sk _ ((sc _ (sc _ (sc _ (sc _ (sc _ sn))))).trans (List.sublist_append_right _ _))) ?_
          refine ek_roundF (N - (k + 1)) Ox Kx ?_
          exact ⟨k + 1, t + 1, l ++ [z6], rfl, (by rw [show N * N - t = (N * N - (t + 1)) + 1 by omega, fill_set _ _ _ _ (gather_len he3.out)]), by rfl, Ox, (Lib.hid (by have := he2.out; omega)), (Lib.hid (gather_ok he3.out (by (try dsimp only); rw [he2.out, ix_div Ox, ix_mod Ox]; exact hr6)))⟩
        refine rg_new (cs := ?_) (ty := ?_) Rx (fun w => ?_) (fun _ h => by cases h; exact ((sc _ (sc _ (sc _ (sc _ (sc _ sn))))).trans (List.sublist_append_right _ _))) (fun g7 => ?_); rotate_left 2
        focus (go_simp; rfl)
        simp only [qz]
        refine rg_nil ?_
        refine ek_rt (sk _ ((sc _ (sc _ (sc _ (sc _ (sc _ sn))))).trans (List.sublist_append_right _ _))) ?_
        refine rt_hard1 (i := 6) Kx rfl ?_
        apply rg_num Rx Kx
        case hargs => exact Ax
        case h => exact fun w hw => rprodM hN hlx.out hly.out hox hoy Ox Ox w (AS.row (hA.kn0 hw) (by have h1 := hr36.out; have h2 := hr1.out; have h3 := hlx.out; omega) Ox) (OwnN.asN hOL (hw.perm (perm_atU (l := [_]) (u := uL) (List.Perm.refl _))))
        case hz => exact (fun _ h => by cases h; exact (sk _ ((sc _ (sc _ (sc _ (sc _ (sc _ sn))))).trans (List.sublist_append_right _ _))))
        case hc => exact (fun c h => prodsR_code h)
        · intro hr7
          simp only [qz]
          refine rg_nil ?_
          refine ek_rt (sk _ ((sc _ (sc _ (sc _ (sc _ (sc _ sn))))).trans (List.sublist_append_right _ _))) ?_
          refine rt_soft (i := 7) rfl Kx (fun c d v a w h => by cases d <;> exact h) (sk _ ((sc _ (sc _ (sc _ (sc _ (sc _ sn))))).trans (List.sublist_append_right _ _))) ?_
          refine rg_move ?_
          simp only [qz]
          refine rg_nil ?_
          refine ek_rt (sk _ ((sc _ (sc _ (sc _ (sc _ (sc _ sn))))).trans (List.sublist_append_right _ _))) ?_
          refine rt_soft (i := 8) rfl Kx (fun c d v a w h => by cases d <;> exact h) (sk _ ((sc _ (sc _ (sc _ (sc _ (sc _ sn))))).trans (List.sublist_append_right _ _))) ?_
          refine rf_extract rfl rfl rfl rfl ?_
          simp only [qz]
          refine rg_nil ?_
          refine ek_rt (sk _ ((sc _ (sc _ (sc _ (sc _ (sc _ sn))))).trans (List.sublist_append_right _ _))) ?_
          refine rt_soft (i := 9) rfl Kx (fun c d v a w h => by cases d <;> exact h) (sk _ ((sc _ (sc _ (sc _ (sc _ (sc _ sn))))).trans (List.sublist_append_right _ _))) ?_
          refine rf_extract rfl rfl rfl rfl ?_
          simp only [qz]
          refine rg_nil ?_
          refine ek_rt (sk _ ((sc _ (sc _ (sc _ (sc _ (sc _ sn))))).trans (List.sublist_append_right _ _))) ?_
          refine rt_hard1 (i := 11) Kx rfl ?_
          refine rf_storeR (n := 5) rfl rfl Kx rfl rfl (UpdR.here _ _ _ Nl) (fun _ h => by cases h; exact (sk _ ((sc _ (sc _ (sc _ (sc _ (sc _ sn))))).trans (List.sublist_append_right _ _)))) ?_
          simp only [qz, Nat.reduceAdd]
          refine rg_nil ?_
          refine ek_rt (sk _ ((sc _ (sc _ (sc _ (sc _ (sc _ sn))))).trans (List.sublist_append_right _ _))) ?_
          refine rt_soft (i := 12) rfl Kx (fun c d v a w h => by cases d <;> exact h) (sk _ ((sc _ (sc _ (sc _ (sc _ (sc _ sn))))).trans (List.sublist_append_right _ _))) ?_
          refine rg_assign ?_
          simp only [qz]
          refine rg_nil ?_
          refine ek_rt (sk _ ((sc _ (sc _ (sc _ (sc _ (sc _ sn))))).trans (List.sublist_append_right _ _))) ?_
          refine rt_nil Kx ?_
          refine ek_next (wk_seq (wk_seq ?_))
          refine wk_region [0, 0] rfl Kx ?_
          simp only [qy]
          refine rg_move ?_
          simp only [qz]
          refine rf_neq (b := true) rfl rfl rfl rfl (by decide) ?_
          simp only [qz]
          refine rg_nil (ek_next (wk_cond_t rfl (wk_seq ?_)))
          refine wk_region [0, 0, 1, 0] rfl Kx ?_
          simp only [qy]
          refine rf_build (cs := fun a => #[.int .i64 0, .slice none 0 0]) rfl rfl Kx ?_
          simp only [qz]
          refine rg_move ?_
          simp only [qz]
          refine rf_storeR (n := 2) rfl rfl Kx rfl rfl (UpdR.there _ (UpdR.app _ (UpdR.there _ (UpdR.there _ (UpdR.here _ _ _ Nl))))) Nz ?_
          simp only [qz, Nat.reduceAdd]
          refine rg_assign ?_
          simp only [qz]
          refine rg_nil (ek_next (wk_ret (ek_then_ret (ek_block_ret (ek_then_ret (ek_then_ret (ek_block_ret (ek_block_ret (ek_then_ret (ek_then_ret (ek_block_ret (ek_then_ret ?_))))))))))))
          refine ek_ret (fun w hw => ⟨rfl, _, run_results2 rfl rfl (Kn.hd0 (Kn.tl (Kn.tl (Kn.tlU (Kn.tl hw))))) Try.underlying24 rfl Kx, ?_⟩)
          (try simp only [qz])
          exact retM_err (c := 4) (by rw [hcp.out]; exact gather_err he3.out (by (try dsimp only); rw [he2.out, ix_div Ox, ix_mod Ox]; exact hr7) _ Ox) hw.below
        intro z7 hr7
        simp only [qz]
        refine rg_nil ?_
        refine ek_rt (sk _ ((sc _ (sc _ (sc _ (sc _ (sc _ sn))))).trans (List.sublist_append_right _ _))) ?_
        refine rt_soft (i := 7) rfl Kx (fun c d v a w h => by cases d <;> exact h) (sk _ ((sc _ (sc _ (sc _ (sc _ (sc _ sn))))).trans (List.sublist_append_right _ _))) ?_
        refine rg_move ?_
        simp only [qz]
        refine rg_nil ?_
        refine ek_rt (sk _ ((sc _ (sc _ (sc _ (sc _ (sc _ sn))))).trans (List.sublist_append_right _ _))) ?_
        refine rt_soft (i := 8) rfl Kx (fun c d v a w h => by cases d <;> exact h) (sk _ ((sc _ (sc _ (sc _ (sc _ (sc _ sn))))).trans (List.sublist_append_right _ _))) ?_
        refine rf_extract rfl rfl rfl rfl ?_
        simp only [qz]
        refine rg_nil ?_
        refine ek_rt (sk _ ((sc _ (sc _ (sc _ (sc _ (sc _ sn))))).trans (List.sublist_append_right _ _))) ?_
        refine rt_soft (i := 9) rfl Kx (fun c d v a w h => by cases d <;> exact h) (sk _ ((sc _ (sc _ (sc _ (sc _ (sc _ sn))))).trans (List.sublist_append_right _ _))) ?_
        refine rf_extract rfl rfl rfl rfl ?_
        simp only [qz]
        refine rg_nil ?_
        refine ek_rt (sk _ ((sc _ (sc _ (sc _ (sc _ (sc _ sn))))).trans (List.sublist_append_right _ _))) ?_
        refine rt_hard1 (i := 11) Kx rfl ?_
        refine rf_storeR (n := 5) rfl rfl Kx rfl rfl (UpdR.here _ _ _ Nl) (fun _ h => by cases h; exact (sk _ ((sc _ (sc _ (sc _ (sc _ (sc _ sn))))).trans (List.sublist_append_right _ _)))) ?_
        simp only [qz, Nat.reduceAdd]
        refine rg_nil ?_
        refine ek_rt (sk _ ((sc _ (sc _ (sc _ (sc _ (sc _ sn))))).trans (List.sublist_append_right _ _))) ?_
        refine rt_soft (i := 12) rfl Kx (fun c d v a w h => by cases d <;> exact h) (sk _ ((sc _ (sc _ (sc _ (sc _ (sc _ sn))))).trans (List.sublist_append_right _ _))) ?_
        refine rg_assign ?_
        simp only [qz]
        refine rg_nil ?_
        refine ek_rt (sk _ ((sc _ (sc _ (sc _ (sc _ (sc _ sn))))).trans (List.sublist_append_right _ _))) ?_
        refine rt_nil Kx ?_
        refine ek_next (wk_seq (wk_seq ?_))
        refine wk_region [0, 0] rfl Kx ?_
        simp only [qy]
        refine rg_move ?_
        simp only [qz]
        refine rf_neq (b := false) rfl rfl rfl rfl (by decide) ?_
        simp only [qz]
        refine rg_nil (ek_next (wk_cond_f rfl (wk_skip (ek_next ?_))))
        refine wk_region [0, 0, 0, 0, 0, 0, 0, 0, 0, 0, 1] rfl Kx ?_
        simp only [qy]
        refine rf_field (n := 0) (j := 1) rfl rfl rfl Try.underlying24 rfl Kx rfl ?_
        simp only [qz]
        refine rf_load rfl rfl rfl Try.underlying22 rfl (fun w hw => (Kn.hd0 (Kn.tlU (Kn.tl hw))).at rfl) ?_
        simp only [qz]
        refine rg_move ?_
        simp only [qz]
        refine rf_field (n := 0) (j := 0) rfl rfl rfl Try.underlying24 rfl Kx rfl ?_
        simp only [qz]
        refine rf_load rfl rfl rfl Try.underlying3 rfl (fun w hw => (Kn.hd0 (Kn.tl (Kn.tl (Kn.tl (Kn.tl (Kn.tlU (Kn.tl hw))))))).at rfl) ?_
        simp only [qz]
        refine rf_mul (r := ((i * N : Nat) : Int)) rfl rfl rfl rfl (wrap_eqB (Int.natCast_mul i N).symm Ox Ox) ?_
        simp only [qz]
        refine rg_move ?_
        simp only [qz]
        refine rf_add (r := ((t : Nat) : Int)) rfl rfl rfl rfl (wrap_eqB (by rw [he2.out, Int.natCast_add]) Ox Ox) ?_
        simp only [qz]
        refine rf_loadR (n := 5) rfl rfl rfl Try.underlying29 rfl Kx (fun w hw => Kn.hd0 hw) rfl rfl ?_
        simp only [qz]
        refine rf_indexS (n := t) (sz := 5) (j := 0 + t * 5) rfl rfl rfl rfl Try.underlying22 Kx rfl Ox rfl ?_
        simp only [qz]
        have hsz1 := nm_sz (l ++ List.replicate (N * N - t) Nm.zero) t (z7) (by simp only [List.length_append, List.length_replicate]; omega)
        refine rf_storeR (n := 5) (vs := nmC (z7)) rfl rfl Kx rfl rfl (UpdR.there _ (UpdR.app _ (UpdR.there _ (UpdR.here _ _ _ hsz1)))) Nz ?_
        rw [nm_fl (l ++ List.replicate (N * N - t) Nm.zero) t (z7) (by simp only [List.length_append, List.length_replicate]; omega)]
        simp only [qz]
        refine rg_nil (ek_block (ek_next ?_))
        refine wk_region [0, 0, 0] rfl Kx ?_
        simp only [qy]
        refine rg_move ?_
        simp only [qz]
        refine rf_add rfl rfl rfl rfl (wrap_ok Ox Ox) ?_
        simp only [qz]
        refine rg_assign ?_
        simp only [qz]
        refine rg_nil ?_
        refine ek_sub (sk _ ((sc _ (sc _ (sc _ (sc _ (sc _ sn))))).trans (List.sublist_append_right _ _))) ?_
        refine ek_roundF (N - (k + 1)) Ox Kx ?_
        exact ⟨k + 1, t + 1, l ++ [z7], rfl, (by rw [show N * N - t = (N * N - (t + 1)) + 1 by omega, fill_set _ _ _ _ (gather_len he3.out)]), by rfl, Ox, (Lib.hid (by have := he2.out; omega)), (Lib.hid (gather_ok he3.out (by (try dsimp only); rw [he2.out, ix_div Ox, ix_mod Ox]; exact hr7)))⟩
      refine rg_new (cs := ?_) (ty := ?_) Rx (fun w => ?_) (fun _ h => by cases h; exact (sc _ (sc _ (sc _ (sc _ (sc _ sn)))))) (fun g8 => ?_); rotate_left 2
      focus (go_simp; rfl)
      simp only [qz]
      refine rg_nil ?_
      refine ek_rt (sk _ (sc _ (sc _ (sc _ (sc _ (sc _ sn)))))) ?_
      refine rt_hard1 (i := 5) Kx rfl ?_
      apply rg_retN Rx Kx
      case hargs => exact Ax
      case h => exact fun w hw => rcolumn_any ys a' c' N hN hly k Ox w (hB.kn0 hw)
      case hz => exact (fun _ h => by cases h; exact (sk _ (sc _ (sc _ (sc _ (sc _ (sc _ sn)))))))
      rw [colL_len]
      intro vaL vcL uL hOL
      simp only [qz]
      refine rg_nil ?_
      refine ek_rt ((sk _ (sc _ (sc _ (sc _ (sc _ (sc _ sn)))))).trans (List.sublist_append_right _ _)) ?_
      refine rt_hard1 (i := 6) Kx rfl ?_
      apply rg_num Rx Kx
      case hargs => exact Ax
      case h => exact fun w hw => rprodM hN hlx.out hly.out hox hoy Ox Ox w (AS.row (hA.kn0 hw) (by have h1 := hr36.out; have h2 := hr1.out; have h3 := hlx.out; omega) Ox) (OwnN.asN hOL (hw.perm (List.Perm.refl _)))
      case hz => exact (fun _ h => by cases h; exact ((sk _ (sc _ (sc _ (sc _ (sc _ (sc _ sn)))))).trans (List.sublist_append_right _ _)))
      case hc => exact (fun c h => prodsR_code h)
      · intro hr8
        simp only [qz]
        refine rg_nil ?_
        refine ek_rt ((sk _ (sc _ (sc _ (sc _ (sc _ (sc _ sn)))))).trans (List.sublist_append_right _ _)) ?_
        refine rt_soft (i := 7) rfl Kx (fun c d v a w h => by cases d <;> exact h) ((sk _ (sc _ (sc _ (sc _ (sc _ (sc _ sn)))))).trans (List.sublist_append_right _ _)) ?_
        refine rg_move ?_
        simp only [qz]
        refine rg_nil ?_
        refine ek_rt ((sk _ (sc _ (sc _ (sc _ (sc _ (sc _ sn)))))).trans (List.sublist_append_right _ _)) ?_
        refine rt_soft (i := 8) rfl Kx (fun c d v a w h => by cases d <;> exact h) ((sk _ (sc _ (sc _ (sc _ (sc _ (sc _ sn)))))).trans (List.sublist_append_right _ _)) ?_
        refine rf_extract rfl rfl rfl rfl ?_
        simp only [qz]
        refine rg_nil ?_
        refine ek_rt ((sk _ (sc _ (sc _ (sc _ (sc _ (sc _ sn)))))).trans (List.sublist_append_right _ _)) ?_
        refine rt_soft (i := 9) rfl Kx (fun c d v a w h => by cases d <;> exact h) ((sk _ (sc _ (sc _ (sc _ (sc _ (sc _ sn)))))).trans (List.sublist_append_right _ _)) ?_
        refine rf_extract rfl rfl rfl rfl ?_
        simp only [qz]
        refine rg_nil ?_
        refine ek_rt ((sk _ (sc _ (sc _ (sc _ (sc _ (sc _ sn)))))).trans (List.sublist_append_right _ _)) ?_
        refine rt_hard1 (i := 11) Kx rfl ?_
        refine rf_storeR (n := 5) rfl rfl Kx rfl rfl (UpdR.app _ (UpdR.here _ _ _ Nl)) (fun _ h => by cases h; exact ((sk _ (sc _ (sc _ (sc _ (sc _ (sc _ sn)))))).trans (List.sublist_append_right _ _))) ?_
        simp only [qz, Nat.reduceAdd]
        refine rg_nil ?_
        refine ek_rt ((sk _ (sc _ (sc _ (sc _ (sc _ (sc _ sn)))))).trans (List.sublist_append_right _ _)) ?_
        refine rt_soft (i := 12) rfl Kx (fun c d v a w h => by cases d <;> exact h) ((sk _ (sc _ (sc _ (sc _ (sc _ (sc _ sn)))))).trans (List.sublist_append_right _ _)) ?_
        refine rg_assign ?_
        simp only [qz]
        refine rg_nil ?_
        refine ek_rt ((sk _ (sc _ (sc _ (sc _ (sc _ (sc _ sn)))))).trans (List.sublist_append_right _ _)) ?_
        refine rt_nil Kx ?_
        refine ek_next (wk_seq (wk_seq ?_))
        refine wk_region [0, 0] rfl Kx ?_
        simp only [qy]
        refine rg_move ?_
        simp only [qz]
        refine rf_neq (b := true) rfl rfl rfl rfl (by decide) ?_
        simp only [qz]
        refine rg_nil (ek_next (wk_cond_t rfl (wk_seq ?_)))
        refine wk_region [0, 0, 1, 0] rfl Kx ?_
        simp only [qy]
        refine rf_build (cs := fun a => #[.int .i64 0, .slice none 0 0]) rfl rfl Kx ?_
        simp only [qz]
        refine rg_move ?_
        simp only [qz]
        refine rf_storeR (n := 2) rfl rfl Kx rfl rfl (UpdR.app _ (UpdR.there _ (UpdR.there _ (UpdR.there _ (UpdR.here _ _ _ Nl))))) Nz ?_
        simp only [qz, Nat.reduceAdd]
        refine rg_assign ?_
        simp only [qz]
        refine rg_nil (ek_next (wk_ret (ek_then_ret (ek_block_ret (ek_then_ret (ek_then_ret (ek_block_ret (ek_block_ret (ek_then_ret (ek_then_ret (ek_block_ret (ek_then_ret ?_))))))))))))
        refine ek_ret (fun w hw => ⟨rfl, _, run_results2 rfl rfl (Kn.hd0 (Kn.tl (Kn.tl (Kn.tl (Kn.tlU hw))))) Try.underlying24 rfl Kx, ?_⟩)
        (try simp only [qz])
        exact retM_err (c := 4) (by rw [hcp.out]; exact gather_err he3.out (by (try dsimp only); rw [he2.out, ix_div Ox, ix_mod Ox]; exact hr8) _ Ox) hw.below
      intro z8 hr8
      simp only [qz]
      refine rg_nil ?_
      refine ek_rt ((sk _ (sc _ (sc _ (sc _ (sc _ (sc _ sn)))))).trans (List.sublist_append_right _ _)) ?_
      refine rt_soft (i := 7) rfl Kx (fun c d v a w h => by cases d <;> exact h) ((sk _ (sc _ (sc _ (sc _ (sc _ (sc _ sn)))))).trans (List.sublist_append_right _ _)) ?_
      refine rg_move ?_
      simp only [qz]
      refine rg_nil ?_
      refine ek_rt ((sk _ (sc _ (sc _ (sc _ (sc _ (sc _ sn)))))).trans (List.sublist_append_right _ _)) ?_
      refine rt_soft (i := 8) rfl Kx (fun c d v a w h => by cases d <;> exact h) ((sk _ (sc _ (sc _ (sc _ (sc _ (sc _ sn)))))).trans (List.sublist_append_right _ _)) ?_
      refine rf_extract rfl rfl rfl rfl ?_
      simp only [qz]
      refine rg_nil ?_
      refine ek_rt ((sk _ (sc _ (sc _ (sc _ (sc _ (sc _ sn)))))).trans (List.sublist_append_right _ _)) ?_
      refine rt_soft (i := 9) rfl Kx (fun c d v a w h => by cases d <;> exact h) ((sk _ (sc _ (sc _ (sc _ (sc _ (sc _ sn)))))).trans (List.sublist_append_right _ _)) ?_
      refine rf_extract rfl rfl rfl rfl ?_
      simp only [qz]
      refine rg_nil ?_
      refine ek_rt ((sk _ (sc _ (sc _ (sc _ (sc _ (sc _ sn)))))).trans (List.sublist_append_right _ _)) ?_
      refine rt_hard1 (i := 11) Kx rfl ?_
      refine rf_storeR (n := 5) rfl rfl Kx rfl rfl (UpdR.app _ (UpdR.here _ _ _ Nl)) (fun _ h => by cases h; exact ((sk _ (sc _ (sc _ (sc _ (sc _ (sc _ sn)))))).trans (List.sublist_append_right _ _))) ?_
      simp only [qz, Nat.reduceAdd]
      refine rg_nil ?_
      refine ek_rt ((sk _ (sc _ (sc _ (sc _ (sc _ (sc _ sn)))))).trans (List.sublist_append_right _ _)) ?_
      refine rt_soft (i := 12) rfl Kx (fun c d v a w h => by cases d <;> exact h) ((sk _ (sc _ (sc _ (sc _ (sc _ (sc _ sn)))))).trans (List.sublist_append_right _ _)) ?_
      refine rg_assign ?_
      simp only [qz]
      refine rg_nil ?_
      refine ek_rt ((sk _ (sc _ (sc _ (sc _ (sc _ (sc _ sn)))))).trans (List.sublist_append_right _ _)) ?_
      refine rt_nil Kx ?_
      refine ek_next (wk_seq (wk_seq ?_))
      refine wk_region [0, 0] rfl Kx ?_
      simp only [qy]
      refine rg_move ?_
      simp only [qz]
      refine rf_neq (b := false) rfl rfl rfl rfl (by decide) ?_
      simp only [qz]
      refine rg_nil (ek_next (wk_cond_f rfl (wk_skip (ek_next ?_))))
      refine wk_region [0, 0, 0, 0, 0, 0, 0, 0, 0, 0, 1] rfl Kx ?_
      simp only [qy]
      refine rf_field (n := 0) (j := 1) rfl rfl rfl Try.underlying24 rfl Kx rfl ?_
      simp only [qz]
      refine rf_load rfl rfl rfl Try.underlying22 rfl (fun w hw => (Kn.hd0 (Kn.tl (Kn.tlU hw))).at rfl) ?_
      simp only [qz]
      refine rg_move ?_
      simp only [qz]
      refine rf_field (n := 0) (j := 0) rfl rfl rfl Try.underlying24 rfl Kx rfl ?_
      simp only [qz]
      refine rf_load rfl rfl rfl Try.underlying3 rfl (fun w hw => (Kn.hd0 (Kn.tl (Kn.tl (Kn.tl (Kn.tl (Kn.tl (Kn.tlU hw))))))).at rfl) ?_
      simp only [qz]
      refine rf_mul (r := ((i * N : Nat) : Int)) rfl rfl rfl rfl (wrap_eqB (Int.natCast_mul i N).symm Ox Ox) ?_
      simp only [qz]
      refine rg_move ?_
      simp only [qz]
      refine rf_add (r := ((t : Nat) : Int)) rfl rfl rfl rfl (wrap_eqB (by rw [he2.out, Int.natCast_add]) Ox Ox) ?_
      simp only [qz]
      refine rf_loadR (n := 5) rfl rfl rfl Try.underlying29 rfl Kx (fun w hw => Kn.hd0 (Kn.tlU hw)) rfl rfl ?_
      simp only [qz]
      refine rf_indexS (n := t) (sz := 5) (j := 0 + t * 5) rfl rfl rfl rfl Try.underlying22 Kx rfl Ox rfl ?_
      simp only [qz]
      have hsz1 := nm_sz (l ++ List.replicate (N * N - t) Nm.zero) t (z8) (by simp only [List.length_append, List.length_replicate]; omega)
      refine rf_storeR (n := 5) (vs := nmC (z8)) rfl rfl Kx rfl rfl (UpdR.app _ (UpdR.there _ (UpdR.there _ (UpdR.here _ _ _ hsz1)))) Nz ?_
      rw [nm_fl (l ++ List.replicate (N * N - t) Nm.zero) t (z8) (by simp only [List.length_append, List.length_replicate]; omega)]
      simp only [qz]
      refine rg_nil (ek_block (ek_next ?_))
      refine wk_region [0, 0, 0] rfl Kx ?_
      simp only [qy]
      refine rg_move ?_
      simp only [qz]
      refine rf_add rfl rfl rfl rfl (wrap_ok Ox Ox) ?_
      simp only [qz]
      refine rg_assign ?_
      simp only [qz]
      refine rg_nil ?_
      refine ek_sub ((sk _ (sc _ (sc _ (sc _ (sc _ (sc _ sn)))))).trans (List.sublist_append_right _ _)) ?_
      refine ek_roundF (N - (k + 1)) Ox Kx ?_
      exact ⟨k + 1, t + 1, l ++ [z8], rfl, (by rw [show N * N - t = (N * N - (t + 1)) + 1 by omega, fill_set _ _ _ _ (gather_len he3.out)]), by rfl, Ox, (Lib.hid (by have := he2.out; omega)), (Lib.hid (gather_ok he3.out (by (try dsimp only); rw [he2.out, ix_div Ox, ix_mod Ox]; exact hr8)))⟩
    refine rg_new (cs := ?_) (ty := ?_) Rx (fun w => ?_) (fun _ h => by cases h; exact (sc _ (sc _ (sc _ (sc _ (sc _ sn)))))) (fun g9 => ?_); rotate_left 2
    focus (go_simp; rfl)
    simp only [qz]
    refine rg_nil ?_
    refine ek_rt (sk _ (sc _ (sc _ (sc _ (sc _ (sc _ sn)))))) ?_
    refine rt_hard1 (i := 2) Kx rfl ?_
    apply rg_pure Rx Kx
    case hargs => exact Ax
    case h => exact fun w hw => rrow_any xs b off c N i hN hlx.out Ox hc w
    case hz => exact (fun _ h => by cases h; exact (sk _ (sc _ (sc _ (sc _ (sc _ (sc _ sn)))))))
    simp only [qz]
    refine rg_nil ?_
    refine ek_rt (sk _ (sc _ (sc _ (sc _ (sc _ (sc _ sn)))))) ?_
    refine rt_hard1 (i := 5) Kx rfl ?_
    apply rg_retN Rx Kx
    case hargs => exact Ax
    case h => exact fun w hw => rcolumn_any ys a' c' N hN hly k Ox w (hB.kn0 hw)
    case hz => exact (fun _ h => by cases h; exact (sk _ (sc _ (sc _ (sc _ (sc _ (sc _ sn)))))))
    rw [colL_len]
    intro vaL vcL uL hOL
    simp only [qz]
    refine rg_nil ?_
    refine ek_rt ((sk _ (sc _ (sc _ (sc _ (sc _ (sc _ sn)))))).trans (List.sublist_append_right _ _)) ?_
    refine rt_hard1 (i := 6) Kx rfl ?_
    apply rg_num Rx Kx
    case hargs => exact Ax
    case h => exact fun w hw => rprodM hN hlx.out hly.out hox hoy Ox Ox w (AS.row (hA.kn0 hw) (by have h1 := hr36.out; have h2 := hr1.out; have h3 := hlx.out; omega) Ox) (OwnN.asN hOL (hw.perm (List.Perm.refl _)))
    case hz => exact (fun _ h => by cases h; exact ((sk _ (sc _ (sc _ (sc _ (sc _ (sc _ sn)))))).trans (List.sublist_append_right _ _)))
    case hc => exact (fun c h => prodsR_code h)
    · intro hr9
      simp only [qz]
      refine rg_nil ?_
      refine ek_rt ((sk _ (sc _ (sc _ (sc _ (sc _ (sc _ sn)))))).trans (List.sublist_append_right _ _)) ?_
      refine rt_soft (i := 7) rfl Kx (fun c d v a w h => by cases d <;> exact h) ((sk _ (sc _ (sc _ (sc _ (sc _ (sc _ sn)))))).trans (List.sublist_append_right _ _)) ?_
      refine rg_move ?_
      simp only [qz]
      refine rg_nil ?_
      refine ek_rt ((sk _ (sc _ (sc _ (sc _ (sc _ (sc _ sn)))))).trans (List.sublist_append_right _ _)) ?_
      refine rt_soft (i := 8) rfl Kx (fun c d v a w h => by cases d <;> exact h) ((sk _ (sc _ (sc _ (sc _ (sc _ (sc _ sn)))))).trans (List.sublist_append_right _ _)) ?_
      refine rf_extract rfl rfl rfl rfl ?_
      simp only [qz]
      refine rg_nil ?_
      refine ek_rt ((sk _ (sc _ (sc _ (sc _ (sc _ (sc _ sn)))))).trans (List.sublist_append_right _ _)) ?_
      refine rt_soft (i := 9) rfl Kx (fun c d v a w h => by cases d <;> exact h) ((sk _ (sc _ (sc _ (sc _ (sc _ (sc _ sn)))))).trans (List.sublist_append_right _ _)) ?_
      refine rf_extract rfl rfl rfl rfl ?_
      simp only [qz]
      refine rg_nil ?_
      refine ek_rt ((sk _ (sc _ (sc _ (sc _ (sc _ (sc _ sn)))))).trans (List.sublist_append_right _ _)) ?_
      refine rt_hard1 (i := 11) Kx rfl ?_
      refine rf_storeR (n := 5) rfl rfl Kx rfl rfl (UpdR.app _ (UpdR.here _ _ _ Nl)) (fun _ h => by cases h; exact ((sk _ (sc _ (sc _ (sc _ (sc _ (sc _ sn)))))).trans (List.sublist_append_right _ _))) ?_
      simp only [qz, Nat.reduceAdd]
      refine rg_nil ?_
      refine ek_rt ((sk _ (sc _ (sc _ (sc _ (sc _ (sc _ sn)))))).trans (List.sublist_append_right _ _)) ?_
      refine rt_soft (i := 12) rfl Kx (fun c d v a w h => by cases d <;> exact h) ((sk _ (sc _ (sc _ (sc _ (sc _ (sc _ sn)))))).trans (List.sublist_append_right _ _)) ?_
      refine rg_assign ?_
      simp only [qz]
      refine rg_nil ?_
      refine ek_rt ((sk _ (sc _ (sc _ (sc _ (sc _ (sc _ sn)))))).trans (List.sublist_append_right _ _)) ?_
      refine rt_nil Kx ?_
      refine ek_next (wk_seq (wk_seq ?_))
      refine wk_region [0, 0] rfl Kx ?_
      simp only [qy]
      refine rg_move ?_
      simp only [qz]
      refine rf_neq (b := true) rfl rfl rfl rfl (by decide) ?_
      simp only [qz]
      refine rg_nil (ek_next (wk_cond_t rfl (wk_seq ?_)))
      refine wk_region [0, 0, 1, 0] rfl Kx ?_
      simp only [qy]
      refine rf_build (cs := fun a => #[.int .i64 0, .slice none 0 0]) rfl rfl Kx ?_
      simp only [qz]
      refine rg_move ?_
      simp only [qz]
      refine rf_storeR (n := 2) rfl rfl Kx rfl rfl (UpdR.app _ (UpdR.there _ (UpdR.there _ (UpdR.there _ (UpdR.here _ _ _ Nl))))) Nz ?_
      simp only [qz, Nat.reduceAdd]
      refine rg_assign ?_
      simp only [qz]
      refine rg_nil (ek_next (wk_ret (ek_then_ret (ek_block_ret (ek_then_ret (ek_then_ret (ek_block_ret (ek_block_ret (ek_then_ret (ek_then_ret (ek_block_ret (ek_then_ret ?_))))))))))))
      refine ek_ret (fun w hw => ⟨rfl, _, run_results2 rfl rfl (Kn.hd0 (Kn.tl (Kn.tl (Kn.tl (Kn.tlU hw))))) Try.underlying24 rfl Kx, ?_⟩)
      (try simp only [qz])
      exact retM_err (c := 4) (by rw [hcp.out]; exact gather_err he3.out (by (try dsimp only); rw [he2.out, ix_div Ox, ix_mod Ox]; exact hr9) _ Ox) hw.below
    intro z9 hr9
    simp only [qz]
    refine rg_nil ?_
    refine ek_rt ((sk _ (sc _ (sc _ (sc _ (sc _ (sc _ sn)))))).trans (List.sublist_append_right _ _)) ?_
    refine rt_soft (i := 7) rfl Kx (fun c d v a w h => by cases d <;> exact h) ((sk _ (sc _ (sc _ (sc _ (sc _ (sc _ sn)))))).trans (List.sublist_append_right _ _)) ?_
    refine rg_move ?_
    simp only [qz]
    refine rg_nil ?_
    refine ek_rt ((sk _ (sc _ (sc _ (sc _ (sc _ (sc _ sn)))))).trans (List.sublist_append_right _ _)) ?_
    refine rt_soft (i := 8) rfl Kx (fun c d v a w h => by cases d <;> exact h) ((sk _ (sc _ (sc _ (sc _ (sc _ (sc _ sn)))))).trans (List.sublist_append_right _ _)) ?_
    refine rf_extract rfl rfl rfl rfl ?_
    simp only [qz]
    refine rg_nil ?_
    refine ek_rt ((sk _ (sc _ (sc _ (sc _ (sc _ (sc _ sn)))))).trans (List.sublist_append_right _ _)) ?_
    refine rt_soft (i := 9) rfl Kx (fun c d v a w h => by cases d <;> exact h) ((sk _ (sc _ (sc _ (sc _ (sc _ (sc _ sn)))))).trans (List.sublist_append_right _ _)) ?_
    refine rf_extract rfl rfl rfl rfl ?_
    simp only [qz]
    refine rg_nil ?_
    refine ek_rt ((sk _ (sc _ (sc _ (sc _ (sc _ (sc _ sn)))))).trans (List.sublist_append_right _ _)) ?_
    refine rt_hard1 (i := 11) Kx rfl ?_
    refine rf_storeR (n := 5) rfl rfl Kx rfl rfl (UpdR.app _ (UpdR.here _ _ _ Nl)) (fun _ h => by cases h; exact ((sk _ (sc _ (sc _ (sc _ (sc _ (sc _ sn)))))).trans (List.sublist_append_right _ _))) ?_
    simp only [qz, Nat.reduceAdd]
    refine rg_nil ?_
    refine ek_rt ((sk _ (sc _ (sc _ (sc _ (sc _ (sc _ sn)))))).trans (List.sublist_append_right _ _)) ?_
    refine rt_soft (i := 12) rfl Kx (fun c d v a w h => by cases d <;> exact h) ((sk _ (sc _ (sc _ (sc _ (sc _ (sc _ sn)))))).trans (List.sublist_append_right _ _)) ?_
    refine rg_assign ?_
    simp only [qz]
    refine rg_nil ?_
    refine ek_rt ((sk _ (sc _ (sc _ (sc _ (sc _ (sc _ sn)))))).trans (List.sublist_append_right _ _)) ?_
    refine rt_nil Kx ?_
    refine ek_next (wk_seq (wk_seq ?_))
    refine wk_region [0, 0] rfl Kx ?_
    simp only [qy]
    refine rg_move ?_
    simp only [qz]
    refine rf_neq (b := false) rfl rfl rfl rfl (by decide) ?_
    simp only [qz]
    refine rg_nil (ek_next (wk_cond_f rfl (wk_skip (ek_next ?_))))
    refine wk_region [0, 0, 0, 0, 0, 0, 0, 0, 0, 0, 1] rfl Kx ?_
    simp only [qy]
    refine rf_field (n := 0) (j := 1) rfl rfl rfl Try.underlying24 rfl Kx rfl ?_
    simp only [qz]
    refine rf_load rfl rfl rfl Try.underlying22 rfl (fun w hw => (Kn.hd0 (Kn.tl (Kn.tlU hw))).at rfl) ?_
    simp only [qz]
    refine rg_move ?_
    simp only [qz]
    refine rf_field (n := 0) (j := 0) rfl rfl rfl Try.underlying24 rfl Kx rfl ?_
    simp only [qz]
    refine rf_load rfl rfl rfl Try.underlying3 rfl (fun w hw => (Kn.hd0 (Kn.tl (Kn.tl (Kn.tl (Kn.tl (Kn.tl (Kn.tlU hw))))))).at rfl) ?_
    simp only [qz]
    refine rf_mul (r := ((i * N : Nat) : Int)) rfl rfl rfl rfl (wrap_eqB (Int.natCast_mul i N).symm Ox Ox) ?_
    simp only [qz]
    refine rg_move ?_
    simp only [qz]
    refine rf_add (r := ((t : Nat) : Int)) rfl rfl rfl rfl (wrap_eqB (by rw [he2.out, Int.natCast_add]) Ox Ox) ?_
    simp only [qz]
    refine rf_loadR (n := 5) rfl rfl rfl Try.underlying29 rfl Kx (fun w hw => Kn.hd0 (Kn.tlU hw)) rfl rfl ?_
    simp only [qz]
    refine rf_indexS (n := t) (sz := 5) (j := 0 + t * 5) rfl rfl rfl rfl Try.underlying22 Kx rfl Ox rfl ?_
    simp only [qz]
    have hsz1 := nm_sz (l ++ List.replicate (N * N - t) Nm.zero) t (z9) (by simp only [List.length_append, List.length_replicate]; omega)
    refine rf_storeR (n := 5) (vs := nmC (z9)) rfl rfl Kx rfl rfl (UpdR.app _ (UpdR.there _ (UpdR.there _ (UpdR.here _ _ _ hsz1)))) Nz ?_
    rw [nm_fl (l ++ List.replicate (N * N - t) Nm.zero) t (z9) (by simp only [List.length_append, List.length_replicate]; omega)]
    simp only [qz]
    refine rg_nil (ek_block (ek_next ?_))
    refine wk_region [0, 0, 0] rfl Kx ?_
    simp only [qy]
    refine rg_move ?_
    simp only [qz]
    refine rf_add rfl rfl rfl rfl (wrap_ok Ox Ox) ?_
    simp only [qz]
    refine rg_assign ?_
    simp only [qz]
    refine rg_nil ?_
    refine ek_sub ((sk _ (sc _ (sc _ (sc _ (sc _ (sc _ sn)))))).trans (List.sublist_append_right _ _)) ?_
    refine ek_roundF (N - (k + 1)) Ox Kx ?_
    exact ⟨k + 1, t + 1, l ++ [z9], rfl, (by rw [show N * N - t = (N * N - (t + 1)) + 1 by omega, fill_set _ _ _ _ (gather_len he3.out)]), by rfl, Ox, (Lib.hid (by have := he2.out; omega)), (Lib.hid (gather_ok he3.out (by (try dsimp only); rw [he2.out, ix_div Ox, ix_mod Ox]; exact hr9)))⟩
  (try simp only [qd, ne_eq] at h3)
  simp only [qz]
  refine rg_nil (ek_next (wk_cond_t rfl (wk_seq ?_)))
  refine wk_region [0, 1, 0] rfl Kx ?_
  simp only [qy]
  refine rf_build (cs := fun a => #[.int .i64 0, .slice none 0 0]) rfl rfl Kx ?_
  simp only [qz]
  refine rf_storeR (n := 2) rfl rfl Kx rfl rfl (UpdR.here _ _ _ Nl) Nz ?_
  simp only [qz, Nat.reduceAdd]
  refine rg_assign ?_
  simp only [qz]
  refine rg_nil (ek_next (wk_ret (ek_then_ret ?_)))
  refine ek_ret (fun w hw => ⟨rfl, _, run_results2 rfl rfl (Kn.hd0 hw) Try.underlying24 rfl Kx, ?_⟩)
  (try simp only [qz])
  exact retM_err (c := 21) (by unfold mulM; rw [hv, hv2, Bool.and_self, if_pos rfl, if_neg Ox]) hw.below

end Go.Proofs.Ytjeijnjaleldkaa
namespace Go.Proofs.Ytjeijnjaleldkaa
set_option linter.all false
open Go.RowKit

/-- An element of two matrices beside each other. -/
def besV (N M : Nat) (xs ys : List Nm) (i k : Nat) : Nm := if i < N ∧ k < N then nm xs (i * N + k) else if N ≤ i ∧ N ≤ k then nm ys ((i - N) * M + (k - N)) else Nm.zero
def besL (N M : Nat) (xs ys : List Nm) (t : Nat) : List Nm := (List.range t).map fun t => besV N M xs ys (t / (N + M)) (t % (N + M))
theorem besL_len (N M : Nat) (xs ys : List Nm) (t : Nat) : (besL N M xs ys t).length = t := by simp [besL]
theorem besL_succ (N M : Nat) (xs ys : List Nm) {i k t : Nat} (h : t = i * (N + M) + k) (hk : k < N + M) : besL N M xs ys (t + 1) = besL N M xs ys t ++ [besV N M xs ys i k] := by
  subst h
  simp only [besL, List.range_succ, List.map_append, List.map_cons, List.map_nil, ix_div hk, ix_mod hk]
theorem bes_made (N M : Nat) (xs ys : List Nm) : madeR (N + M) (besF N M xs ys) = .ok (besL N M xs ys ((N + M) * (N + M))) := gather_pure _ _
/-- The first t elements, then zeros. -/
def besZ (N M : Nat) (xs ys : List Nm) (t : Nat) : List Nm := besL N M xs ys t ++ List.replicate ((N + M) * (N + M) - t) Nm.zero
theorem besZ_len (N M : Nat) (xs ys : List Nm) {t : Nat} (h : t ≤ (N + M) * (N + M)) : (besZ N M xs ys t).length = (N + M) * (N + M) := by
  unfold besZ; rw [List.length_append, besL_len, List.length_replicate]; omega
theorem besZ_set (N M : Nat) (xs ys : List Nm) {i k t : Nat} (h : t = i * (N + M) + k) (hk : k < N + M) (ht : t < (N + M) * (N + M)) {z : Nm} (hz : besV N M xs ys i k = z) : (besZ N M xs ys t).set t z = besZ N M xs ys (t + 1) := by
  unfold besZ
  rw [show (N + M) * (N + M) - t = ((N + M) * (N + M) - (t + 1)) + 1 by omega, fill_set _ _ _ _ (besL_len ..), besL_succ N M xs ys h hk, hz]
theorem besZ_zero (N M : Nat) (xs ys : List Nm) {i k t : Nat} (h : t = i * (N + M) + k) (hk : k < N + M) (ht : t < (N + M) * (N + M)) (hz : besV N M xs ys i k = Nm.zero) : besZ N M xs ys t = besZ N M xs ys (t + 1) := by
  unfold besZ
  rw [show (N + M) * (N + M) - t = ((N + M) * (N + M) - (t + 1)) + 1 by omega, besL_succ N M xs ys h hk, hz, List.replicate_succ, List.append_assoc]
  rfl
set_option maxRecDepth 100000 in
set_option maxHeartbeats 1000000 in
theorem rbeside_any (n m : Int) (xs ys : List Nm) (a a' : Option Addr) (c c' : Nat) (hl : xs.length ≤ 1000000) (hl' : ys.length ≤ 1000000) (w : World) (hA : AS w a (nms xs)) (hB : AS w a' (nms ys)) : Calls Try.prog 51 #[.agg #[.int .i64 n, .slice a xs.length c], .agg #[.int .i64 m, .slice a' ys.length c']] w fun e w' => RetM w (rN (n.toNat + m.toNat) (besM n m xs ys)) (rL (besM n m xs ys)) (rC (besM n m xs ys)) e w' := by
  go_enter Try.func51, Try.ntmps51
  refine wk_start ?_
  refine wk_seq ?_
  refine wk_region [1, 1, 1, 0] rfl Kx ?_
  simp only [qy]
  refine Rgn fun g1 => ?_
  simp only [qz]
  refine Rgn fun g2 => ?_
  simp only [qz]
  refine Rgn fun g3 => ?_
  simp only [qz]
  refine rg_assign ?_
  simp only [qz]
  refine rg_nil (ek_next (wk_seq (wk_seq ?_)))
  refine wk_region [0, 1, 0, 0, 0, 1, 0, 0] rfl Kx ?_
  simp only [qy]
  refine rf_loadR (n := 2) rfl rfl rfl Try.underlying24 rfl Kx (fun w hw => Kn.hd0 (Kn.tl (Kn.tl hw))) rfl rfl ?_
  simp only [qz]
  apply rg_pureb Rx Kx
  case hargs => exact Ax
  case h => exact fun w hw => rmvalid_any n xs a c hl w (hA.kn0 hw)
  case hz => exact Nz
  intro x h1
  cases x
  · (try simp only [qd, ne_eq] at h1)
    simp only [qz]
    refine rf_not rfl rfl rfl ?_
    simp only [qz]
    refine rg_move ?_
    simp only [qz]
    refine rg_skip Rx ?_
    simp only [qz]
    refine rg_skip_h Rx Nz ?_
    simp only [qz]
    refine rg_skip Rx ?_
    simp only [qz]
    refine rf_pick rfl rfl rfl ?_
    simp only [qz]
    refine rg_nil (ek_next (wk_cond_t rfl (wk_seq ?_)))
    refine wk_region [0, 1, 0] rfl Kx ?_
    simp only [qy]
    refine rf_build (cs := fun a => #[.int .i64 0, .slice none 0 0]) rfl rfl Kx ?_
    simp only [qz]
    refine rf_storeR (n := 2) rfl rfl Kx rfl rfl (UpdR.here _ _ _ Nl) Nz ?_
    simp only [qz, Nat.reduceAdd]
    refine rg_assign ?_
    simp only [qz]
    refine rg_nil (ek_next (wk_ret (ek_then_ret ?_)))
    refine ek_ret (fun w hw => ⟨rfl, _, run_results2 rfl rfl (Kn.hd0 hw) Try.underlying24 rfl Kx, ?_⟩)
    (try simp only [qz])
    exact retM_err (c := 20) (by unfold besM; rw [h1]; rfl) hw.below
  (try simp only [qd, ne_eq] at h1)
  simp only [qz]
  have hv := h1
  obtain ⟨N, rfl, hN1, hN, hlx, hlx36, hox⟩ := validB_N' hv
  replace hlx := Lib.hid hlx
  refine rf_not rfl rfl rfl ?_
  simp only [qz]
  refine rg_move ?_
  simp only [qz]
  refine rf_loadR (n := 2) rfl rfl rfl Try.underlying24 rfl Kx (fun w hw => Kn.hd0 (Kn.tl hw)) rfl rfl ?_
  simp only [qz]
  apply rg_pureb Rx Kx
  case hargs => exact Ax
  case h => exact fun w hw => rmvalid_any m ys a' c' hl' w (hB.kn0 hw)
  case hz => exact Nz
  intro x h2
  cases x
  · (try simp only [qd, ne_eq] at h2)
    simp only [qz]
    refine rf_not rfl rfl rfl ?_
    simp only [qz]
    refine rf_pick rfl rfl rfl ?_
    simp only [qz]
    refine rg_nil (ek_next (wk_cond_t rfl (wk_seq ?_)))
    refine wk_region [0, 1, 0] rfl Kx ?_
    simp only [qy]
    refine rf_build (cs := fun a => #[.int .i64 0, .slice none 0 0]) rfl rfl Kx ?_
    simp only [qz]
    refine rf_storeR (n := 2) rfl rfl Kx rfl rfl (UpdR.here _ _ _ Nl) Nz ?_
    simp only [qz, Nat.reduceAdd]
    refine rg_assign ?_
    simp only [qz]
    refine rg_nil (ek_next (wk_ret (ek_then_ret ?_)))
    refine ek_ret (fun w hw => ⟨rfl, _, run_results2 rfl rfl (Kn.hd0 hw) Try.underlying24 rfl Kx, ?_⟩)
    (try simp only [qz])
    exact retM_err (c := 20) (by unfold besM; rw [h2, Bool.and_false]; rfl) hw.below
  (try simp only [qd, ne_eq] at h2)
  simp only [qz]
  have hv2 := h2
  obtain ⟨M, rfl, hM1, hM, hly, hly36, hoy⟩ := validB_N' hv2
  replace hly := Lib.hid hly
  refine rf_not rfl rfl rfl ?_
  simp only [qz]
  refine rf_pick rfl rfl rfl ?_
  simp only [qz]
  refine rg_nil (ek_next (wk_cond_f rfl (wk_skip (ek_next (wk_seq ?_)))))
  refine wk_region [0, 0, 0, 0, 0, 0] rfl Kx ?_
  simp only [qy]
  refine rf_field (n := 0) (j := 0) rfl rfl rfl Try.underlying24 rfl Kx rfl ?_
  simp only [qz]
  refine rf_load rfl rfl rfl Try.underlying3 rfl (fun w hw => (Kn.hd0 (Kn.tl (Kn.tl hw))).at rfl) ?_
  simp only [qz]
  refine rf_field (n := 0) (j := 0) rfl rfl rfl Try.underlying24 rfl Kx rfl ?_
  simp only [qz]
  refine rf_load rfl rfl rfl Try.underlying3 rfl (fun w hw => (Kn.hd0 (Kn.tl hw)).at rfl) ?_
  simp only [qz]
  refine rf_add (r := ((N + M : Nat) : Int)) rfl rfl rfl rfl (wrap_eqB Ox Ox Ox) ?_
  simp only [qz]
  refine rg_assign ?_
  simp only [qz]
  refine rg_nil (ek_next (wk_seq (wk_seq ?_)))
  refine wk_region [0, 0] rfl Kx ?_
  simp only [qy]
  refine rg_move ?_
  simp only [qz]
  refine rfb_gtr rfl rfl rfl rfl ?_
  intro x h3
  cases x
  · (try simp only [qd, ne_eq] at h3)
    simp only [qz]
    have hNM : N + M ≤ 6 := by omega
    have hcp : besM (N : Int) (M : Int) xs ys = .ok (besL N M xs ys ((N + M) * (N + M))) := by (unfold besM; rw [hv, hv2, Bool.and_self, if_pos rfl, if_pos Ox, Int.toNat_natCast, Int.toNat_natCast]; exact bes_made N M xs ys)
    replace hcp := Lib.hid hcp
    have hN2 := Nat.mul_le_mul hNM hNM
    refine rg_nil (ek_next (wk_cond_f rfl (wk_skip (ek_next (wk_seq ?_)))))
    refine wk_region [0, 1, 1, 1] rfl Kx ?_
    simp only [qy]
    refine rg_move ?_
    simp only [qz]
    apply rg_made (T := fun v u => ∃ g, v = .agg #[.int .i64 ((N + M : Nat) : Int), .slice (some ⟨g, 0, none⟩) ((N + M) * (N + M)) ((N + M) * (N + M))] ∧ u = [(g, .cells (NmE.flat (List.replicate ((N + M) * (N + M)) Nm.zero) ++ []).toArray 29)]) Rx Kx
    case hargs => exact Ax
    case h => exact fun w hw => (zeros_any (N + M) hNM w).mono (fun e w' ⟨g, he, hm⟩ => ⟨_, _, he, ⟨g, rfl, rfl⟩, hm⟩)
    case hz => exact Nz
    rintro _ _ ⟨go, rfl, rfl⟩
    simp only [List.cons_append, List.nil_append]
    simp only [qz]
    rw [show List.replicate ((N + M) * (N + M)) Nm.zero = besZ N M xs ys 0 from rfl]
    refine Rgn fun g4 => ?_
    simp only [qz]
    refine rf_storeR (n := 2) rfl rfl Kx rfl rfl (UpdR.here _ _ _ Nl) Nz ?_
    simp only [qz, Nat.reduceAdd]
    refine rg_nil (ek_next (wk_seq (wk_seq ?_)))
    refine wk_region [0] rfl Kx ?_
    simp only [qy]
    refine rg_assign ?_
    simp only [qz]
    refine rg_nil (ek_next (wk_block ?_))
    refine wk_loopF [8, 9, 29, 30, 31, 32, 33, 34, 35, 36, 37, 38, 39, 40, 41, 42, 43, 44, 45, 46, 47, 48, 49, 50, 51, 52, 53, 54, 55, 56, 57, 58, 59, 60, 61, 62, 63, 64, 65, 66, 67, 68, 69, 70, 71, 72, 73, 74, 75, 76, 77, 78, 79, 80, 81, 82, 83, 84, 85, 86, 87, 88] (fun mz f s => ∃ (i t : Nat), f 8 = .int .i64 i ∧ s = ((g4, .cells #[.int .i64 ((N + M : Nat) : Int), .slice (some ⟨go, 0, none⟩) ((N + M) * (N + M)) ((N + M) * (N + M))] 24) :: ((go, .cells (NmE.flat (besZ N M xs ys t) ++ []).toArray 29) :: ((g3, .cells #[.int .i64 0, .slice none 0 0] 24) :: ((g2, .cells #[.int .i64 M, .slice a' ys.length c'] 24) :: ((g1, .cells #[.int .i64 N, .slice a xs.length c] 24) :: []))))) ∧ mz = N + M - i ∧ i ≤ N + M ∧ Hid (t = i * (N + M))) ((fun (i t : Nat) => N + M - i) (0) (0)) ?_ Kx ?_
    · exact ⟨0, 0, rfl, rfl, rfl, by omega, (Lib.hid (by rw [Nat.zero_mul]))⟩
    rintro mz f1 s ⟨i, t, hs1_8, rfl, hn, hd1, hd2⟩
    simp only [Act.putF, List.foldl_cons, List.foldl_nil, hs1_8, Act.put, Act.eval, q1, q2, q3, q4, q5, q6, q7, q8, q9, q10, q11, q12, q13, q14, q15, q16, q17, q18, Nat.reduceAdd, Bool.not_true, Bool.not_false]
    clear hs1_8
    refine wk_seq (wk_seq ?_)
    refine wk_region [0, 0, 0] rfl Kx ?_
    simp only [qy]
    refine rg_move ?_
    simp only [qz]
    refine rg_move ?_
    simp only [qz]
    refine rfb_lss rfl rfl rfl rfl ?_
    intro x h4
    cases x
    · (try simp only [qd, ne_eq] at h4)
      simp only [qz]
      refine rg_nil (ek_next (wk_cond_f rfl (wk_exit (ek_then_exit (ek_then_exit (ek_block_exit (ek_next (wk_seq ?_))))))))
      refine wk_region [0, 1, 0] rfl Kx ?_
      simp only [qy]
      refine rf_loadR (n := 2) rfl rfl rfl Try.underlying24 rfl Kx (fun w hw => Kn.hd0 hw) rfl rfl ?_
      simp only [qz]
      refine rf_storeR (n := 2) rfl rfl Kx rfl rfl (UpdR.there _ (UpdR.there _ (UpdR.here _ _ _ Nl))) Nz ?_
      simp only [qz, Nat.reduceAdd]
      refine rg_assign ?_
      simp only [qz]
      refine rg_nil (ek_next (wk_ret ?_))
      refine ek_ret (fun w hw => ⟨rfl, _, run_results2 rfl rfl (Kn.hd0 (Kn.tl (Kn.tl hw))) Try.underlying24 rfl Kx, ?_⟩)
      (try simp only [qz])
      obtain rfl : i = N + M := by omega
      obtain rfl : t = (N + M) * (N + M) := hd2.out
      rw [show besZ N M xs ys ((N + M) * (N + M)) = besL N M xs ys ((N + M) * (N + M)) by unfold besZ; rw [Nat.sub_self, List.replicate_zero, List.append_nil]] at hw
      rw [hcp.out]
      exact ⟨_, [(go, _)], rfl, ownN_fl (besL_len ..) Ox, hw.made (sk _ (sc _ (sk _ (sk _ (sk _ sn)))))⟩
    (try simp only [qd, ne_eq] at h4)
    simp only [qz]
    refine rg_nil (ek_next (wk_cond_t rfl (wk_skip (ek_next (wk_seq (wk_block (wk_seq ?_)))))))
    refine wk_region [0] rfl Kx ?_
    simp only [qy]
    refine rg_assign ?_
    simp only [qz]
    refine rg_nil (ek_next (wk_block ?_))
    refine wk_loopF [9, 34, 35, 36, 37, 38, 39, 40, 41, 42, 43, 44, 45, 46, 47, 48, 49, 50, 51, 52, 53, 54, 55, 56, 57, 58, 59, 60, 61, 62, 63, 64, 65, 66, 67, 68, 69, 70, 71, 72, 73, 74, 75, 76, 77, 78, 79, 80, 81, 82, 83, 84, 85, 86, 87, 88] (fun mz f s => ∃ (k t : Nat), f 9 = .int .i64 k ∧ s = ((g4, .cells #[.int .i64 ((N + M : Nat) : Int), .slice (some ⟨go, 0, none⟩) ((N + M) * (N + M)) ((N + M) * (N + M))] 24) :: ((go, .cells (NmE.flat (besZ N M xs ys t) ++ []).toArray 29) :: ((g3, .cells #[.int .i64 0, .slice none 0 0] 24) :: ((g2, .cells #[.int .i64 M, .slice a' ys.length c'] 24) :: ((g1, .cells #[.int .i64 N, .slice a xs.length c] 24) :: []))))) ∧ mz = N + M - k ∧ k ≤ N + M ∧ Hid (t = i * (N + M) + k)) ((fun (k t : Nat) => N + M - k) (0) (t)) ?_ Kx ?_
    · exact ⟨0, t, rfl, rfl, rfl, by omega, (Lib.hid (by have := hd2.out; omega))⟩
    rintro mz f2 s ⟨k, t, hs2_9, rfl, hn, he1, he2⟩
    simp only [Act.putF, List.foldl_cons, List.foldl_nil, hs2_9, Act.put, Act.eval, q1, q2, q3, q4, q5, q6, q7, q8, q9, q10, q11, q12, q13, q14, q15, q16, q17, q18, Nat.reduceAdd, Bool.not_true, Bool.not_false]
    clear hs2_9
    refine wk_seq (wk_seq ?_)
    refine wk_region [0, 0, 0] rfl Kx ?_
    simp only [qy]
    refine rg_move ?_
    simp only [qz]
    refine rg_move ?_
    simp only [qz]
    refine rfb_lss rfl rfl rfl rfl ?_
    intro x h5
    cases x
    · (try simp only [qd, ne_eq] at h5)
      simp only [qz]
      refine rg_nil (ek_next (wk_cond_f rfl (wk_exit (ek_then_exit (ek_then_exit (ek_block_exit (ek_block (ek_next ?_))))))))
      refine wk_region [0, 0, 0] rfl Kx ?_
      simp only [qy]
      refine rg_move ?_
      simp only [qz]
      refine rf_add rfl rfl rfl rfl (wrap_ok Ox Ox) ?_
      simp only [qz]
      refine rg_assign ?_
      simp only [qz]
      refine rg_nil ?_
      obtain rfl : k = N + M := by omega
      refine ek_roundF (N + M - (i + 1)) Ox Kx ?_
      exact ⟨i + 1, t, rfl, by rfl, by rfl, Ox, (Lib.hid (by rw [he2.out, Nat.add_mul, Nat.one_mul]))⟩
    (try simp only [qd, ne_eq] at h5)
    simp only [qz]
    refine rg_nil (ek_next (wk_cond_t rfl (wk_skip (ek_next (wk_seq (wk_block (wk_seq (wk_seq ?_))))))))
    have hix := ix_lt (N := N + M) (i := i) (k := k) Ox Ox
    have htt := he2.out
    replace htt : t < (N + M) * (N + M) := by omega
    have hzl := besZ_len N M xs ys (Nat.le_of_lt htt)
    refine wk_region [0, 0, 0, 0, 0, 0, 0, 0, 0, 0] rfl Kx ?_
    simp only [qy]
    refine rg_move ?_
    simp only [qz]
    refine rf_field (n := 0) (j := 0) rfl rfl rfl Try.underlying24 rfl Kx rfl ?_
    simp only [qz]
    refine rf_load rfl rfl rfl Try.underlying3 rfl (fun w hw => (Kn.hd0 (Kn.tl (Kn.tl (Kn.tl (Kn.tl hw))))).at rfl) ?_
    simp only [qz]
    refine rfb_lss rfl rfl rfl rfl ?_
    intro x h6
    cases x
    · (try simp only [qd, ne_eq] at h6)
      simp only [qz]
      refine rg_move ?_
      simp only [qz]
      refine rg_skip Rx ?_
      simp only [qz]
      refine rg_skip Rx ?_
      simp only [qz]
      refine rg_skip Rx ?_
      simp only [qz]
      refine rg_skip Rx ?_
      simp only [qz]
      refine rf_pick rfl rfl rfl ?_
      simp only [qz]
      refine rg_nil (ek_next (wk_cond_f rfl (wk_skip (ek_next (wk_seq ?_)))))
      refine wk_region [0, 0, 0, 0, 0, 0, 0, 0, 0, 0] rfl Kx ?_
      simp only [qy]
      refine rg_move ?_
      simp only [qz]
      refine rf_field (n := 0) (j := 0) rfl rfl rfl Try.underlying24 rfl Kx rfl ?_
      simp only [qz]
      refine rf_load rfl rfl rfl Try.underlying3 rfl (fun w hw => (Kn.hd0 (Kn.tl (Kn.tl (Kn.tl (Kn.tl hw))))).at rfl) ?_
      simp only [qz]
      refine rfb_geq rfl rfl rfl rfl ?_
      intro x h7
      cases x
      · (try simp only [qd, ne_eq] at h7)
        simp only [qz]
        refine rg_move ?_
        simp only [qz]
        refine rg_skip Rx ?_
        simp only [qz]
        refine rg_skip Rx ?_
        simp only [qz]
        refine rg_skip Rx ?_
        simp only [qz]
        refine rg_skip Rx ?_
        simp only [qz]
        refine rf_pick rfl rfl rfl ?_
        simp only [qz]
        refine rg_nil (ek_next (wk_cond_f rfl (wk_skip (ek_block (ek_next ?_)))))
        refine wk_region [0, 0, 0] rfl Kx ?_
        simp only [qy]
        refine rg_move ?_
        simp only [qz]
        refine rf_add rfl rfl rfl rfl (wrap_ok Ox Ox) ?_
        simp only [qz]
        refine rg_assign ?_
        simp only [qz]
        refine rg_nil ?_
        refine ek_roundF (N + M - (k + 1)) Ox Kx ?_
        exact ⟨k + 1, t + 1, rfl, (by rw [besZ_zero N M xs ys he2.out Ox htt (by (unfold besV; first | (rw [if_neg Ox, if_neg Ox]; done) | omega))]), by rfl, Ox, (Lib.hid (by have := he2.out; omega))⟩
      (try simp only [qd, ne_eq] at h7)
      simp only [qz]
      refine rg_move ?_
      simp only [qz]
      apply rg_soft_g
      case hg => rfl
      case hy => (intro w hw; go_simp; (try go_bits); exact Yld.mk _ _)
      simp only [qz]
      refine rf_field (n := 0) (j := 0) rfl rfl rfl Try.underlying24 rfl Kx rfl ?_
      simp only [qz]
      refine rf_load rfl rfl rfl Try.underlying3 rfl (fun w hw => (Kn.hd0 (Kn.tl (Kn.tl (Kn.tl (Kn.tl hw))))).at rfl) ?_
      simp only [qz]
      refine rfb_geq rfl rfl rfl rfl ?_
      intro x h8
      cases x
      · (try simp only [qd, ne_eq] at h8)
        simp only [qz]
        refine rf_pick rfl rfl rfl ?_
        simp only [qz]
        refine rg_nil (ek_next (wk_cond_f rfl (wk_skip (ek_block (ek_next ?_)))))
        refine wk_region [0, 0, 0] rfl Kx ?_
        simp only [qy]
        refine rg_move ?_
        simp only [qz]
        refine rf_add rfl rfl rfl rfl (wrap_ok Ox Ox) ?_
        simp only [qz]
        refine rg_assign ?_
        simp only [qz]
        refine rg_nil ?_
        refine ek_roundF (N + M - (k + 1)) Ox Kx ?_
        exact ⟨k + 1, t + 1, rfl, (by rw [besZ_zero N M xs ys he2.out Ox htt (by (unfold besV; first | (rw [if_neg Ox, if_neg Ox]; done) | omega))]), by rfl, Ox, (Lib.hid (by have := he2.out; omega))⟩
      (try simp only [qd, ne_eq] at h8)
      simp only [qz]
      refine rf_pick rfl rfl rfl ?_
      simp only [qz]
      refine rg_nil (ek_next (wk_cond_t rfl ?_))
      refine wk_draws_m (hz1 := (sc _ (sk _ (sc _ (sc _ (sc _ sn)))))) [(0, 0), (1, 0), (2, 0), (3, 0), (4, 0), (5, 0), (6, 0), (7, 0), (8, 0), (9, 0), (10, 0), (11, 0), (12, 0), (13, 0), (14, 0), (15, 0), (16, 1), (17, 0), (18, 2)] 18 Kx Kx (fun c d v a w h => by cases d <;> exact h) ?_
      simp only [List.map_cons, List.map_nil, List.getD_cons_zero, List.getD_cons_succ]
      refine rf_field (n := 0) (j := 1) rfl rfl rfl Try.underlying24 rfl Kx rfl ?_
      simp only [qz]
      refine rf_load rfl rfl rfl Try.underlying22 rfl (fun w hw => (Kn.hd0 hw).at rfl) ?_
      simp only [qz]
      refine rg_move ?_
      simp only [qz]
      refine rg_move ?_
      simp only [qz]
      refine rf_mul (r := ((i * (N + M) : Nat) : Int)) rfl rfl rfl rfl (wrap_eqB (by rw [Int.natCast_mul]) Ox Ox) ?_
      simp only [qz]
      refine rg_move ?_
      simp only [qz]
      refine rf_add (r := ((t : Nat) : Int)) rfl rfl rfl rfl (wrap_eqB (by rw [he2.out, Int.natCast_add]) Ox Ox) ?_
      simp only [qz]
      refine rf_loadR (n := 2) rfl rfl rfl Try.underlying24 rfl Kx (fun w hw => Kn.hd0 (Kn.tl (Kn.tl (Kn.tl hw)))) rfl rfl ?_
      simp only [qz]
      refine rg_move ?_
      simp only [qz]
      refine rf_field (n := 0) (j := 0) rfl rfl rfl Try.underlying24 rfl Kx rfl ?_
      simp only [qz]
      refine rf_load rfl rfl rfl Try.underlying3 rfl (fun w hw => (Kn.hd0 (Kn.tl (Kn.tl (Kn.tl (Kn.tl hw))))).at rfl) ?_
      simp only [qz]
      refine rf_sub (r := ((i - N : Nat) : Int)) rfl rfl rfl rfl (wrap_eqB Ox Ox Ox) ?_
      simp only [qz]
      refine rg_move ?_
      simp only [qz]
      refine rf_field (n := 0) (j := 0) rfl rfl rfl Try.underlying24 rfl Kx rfl ?_
      simp only [qz]
      refine rf_load rfl rfl rfl Try.underlying3 rfl (fun w hw => (Kn.hd0 (Kn.tl (Kn.tl (Kn.tl (Kn.tl hw))))).at rfl) ?_
      simp only [qz]
      refine rf_sub (r := ((k - N : Nat) : Int)) rfl rfl rfl rfl (wrap_eqB Ox Ox Ox) ?_
      simp only [qz]
      apply rg_pure Rx Kx
      case hargs => exact Ax
      case h => exact fun w hw => rAt_any M (i - N) (k - N) ys a' c' hly.out hM Ox Ox w (hB.kn0 hw)
      case hz => exact (fun _ h => by cases h; exact (sc _ (sc _ (sc _ (sc _ (sc _ sn))))))
      simp only [qz]
      refine rf_indexS (n := t) (sz := 5) (j := 0 + t * 5) rfl rfl rfl rfl Try.underlying22 Kx rfl Ox rfl ?_
      simp only [qz]
      have hsz1 := nm_sz (besZ N M xs ys t) t (nm ys ((i - N) * M + (k - N))) Ox
      refine rf_storeRM (n := 5) (vs := nmC (nm ys ((i - N) * M + (k - N)))) rfl rfl Kx rfl rfl (UpdR.there _ (UpdR.here _ _ _ hsz1)) (sc _ (sk _ (sc _ (sc _ (sc _ sn))))) ?_
      rw [nm_fl _ _ _ Ox, besZ_set N M xs ys he2.out Ox htt (by (unfold besV; rw [if_neg Ox, if_pos Ox]))]
      simp only [qz]
      refine rg_nil (ek_block (ek_next ?_))
      refine wk_region [0, 0, 0] rfl Kx ?_
      simp only [qy]
      refine rg_move ?_
      simp only [qz]
      refine rf_add rfl rfl rfl rfl (wrap_ok Ox Ox) ?_
      simp only [qz]
      refine rg_assign ?_
      simp only [qz]
      refine rg_nil ?_
      refine ek_roundF (N + M - (k + 1)) Ox Kx ?_
      exact ⟨k + 1, t + 1, rfl, rfl, by rfl, Ox, (Lib.hid (by have := he2.out; omega))⟩
    (try simp only [qd, ne_eq] at h6)
    simp only [qz]
    refine rg_move ?_
    simp only [qz]
    apply rg_soft_g
    case hg => rfl
    case hy => (intro w hw; go_simp; (try go_bits); exact Yld.mk _ _)
    simp only [qz]
    refine rf_field (n := 0) (j := 0) rfl rfl rfl Try.underlying24 rfl Kx rfl ?_
    simp only [qz]
    refine rf_load rfl rfl rfl Try.underlying3 rfl (fun w hw => (Kn.hd0 (Kn.tl (Kn.tl (Kn.tl (Kn.tl hw))))).at rfl) ?_
    simp only [qz]
    refine rfb_lss rfl rfl rfl rfl ?_
    intro x h9
    cases x
    · (try simp only [qd, ne_eq] at h9)
      simp only [qz]
      refine rf_pick rfl rfl rfl ?_
      simp only [qz]
      refine rg_nil (ek_next (wk_cond_f rfl (wk_skip (ek_next (wk_seq ?_)))))
      refine wk_region [0, 0, 0, 0, 0, 0, 0, 0, 0, 0] rfl Kx ?_
      simp only [qy]
      refine rg_move ?_
      simp only [qz]
      refine rf_field (n := 0) (j := 0) rfl rfl rfl Try.underlying24 rfl Kx rfl ?_
      simp only [qz]
      refine rf_load rfl rfl rfl Try.underlying3 rfl (fun w hw => (Kn.hd0 (Kn.tl (Kn.tl (Kn.tl (Kn.tl hw))))).at rfl) ?_
      simp only [qz]
      refine rfb_geq rfl rfl rfl rfl ?_
      intro x h10
      cases x
      · (try simp only [qd, ne_eq] at h10)
        simp only [qz]
        refine rg_move ?_
        simp only [qz]
        refine rg_skip Rx ?_
        simp only [qz]
        refine rg_skip Rx ?_
        simp only [qz]
        refine rg_skip Rx ?_
        simp only [qz]
        refine rg_skip Rx ?_
        simp only [qz]
        refine rf_pick rfl rfl rfl ?_
        simp only [qz]
        refine rg_nil (ek_next (wk_cond_f rfl (wk_skip (ek_block (ek_next ?_)))))
        refine wk_region [0, 0, 0] rfl Kx ?_
        simp only [qy]
        refine rg_move ?_
        simp only [qz]
        refine rf_add rfl rfl rfl rfl (wrap_ok Ox Ox) ?_
        simp only [qz]
        refine rg_assign ?_
        simp only [qz]
        refine rg_nil ?_
        refine ek_roundF (N + M - (k + 1)) Ox Kx ?_
        exact ⟨k + 1, t + 1, rfl, (by rw [besZ_zero N M xs ys he2.out Ox htt (by (unfold besV; first | (rw [if_neg Ox, if_neg Ox]; done) | omega))]), by rfl, Ox, (Lib.hid (by have := he2.out; omega))⟩
      (try simp only [qd, ne_eq] at h10)
      simp only [qz]
      refine rg_move ?_
      simp only [qz]
      apply rg_soft_g
      case hg => rfl
      case hy => (intro w hw; go_simp; (try go_bits); exact Yld.mk _ _)
      simp only [qz]
      refine rf_field (n := 0) (j := 0) rfl rfl rfl Try.underlying24 rfl Kx rfl ?_
      simp only [qz]
      refine rf_load rfl rfl rfl Try.underlying3 rfl (fun w hw => (Kn.hd0 (Kn.tl (Kn.tl (Kn.tl (Kn.tl hw))))).at rfl) ?_
      simp only [qz]
      refine rfb_geq rfl rfl rfl rfl ?_
      intro x h11
      cases x
      · (try simp only [qd, ne_eq] at h11)
        simp only [qz]
        refine rf_pick rfl rfl rfl ?_
        simp only [qz]
        refine rg_nil (ek_next (wk_cond_f rfl (wk_skip (ek_block (ek_next ?_)))))
        refine wk_region [0, 0, 0] rfl Kx ?_
        simp only [qy]
        refine rg_move ?_
        simp only [qz]
        refine rf_add rfl rfl rfl rfl (wrap_ok Ox Ox) ?_
        simp only [qz]
        refine rg_assign ?_
        simp only [qz]
        refine rg_nil ?_
        refine ek_roundF (N + M - (k + 1)) Ox Kx ?_
        exact ⟨k + 1, t + 1, rfl, (by rw [besZ_zero N M xs ys he2.out Ox htt (by (unfold besV; first | (rw [if_neg Ox, if_neg Ox]; done) | omega))]), by rfl, Ox, (Lib.hid (by have := he2.out; omega))⟩
      (try simp only [qd, ne_eq] at h11)
      simp only [qz]
      refine rf_pick rfl rfl rfl ?_
      simp only [qz]
      refine rg_nil (ek_next (wk_cond_t rfl ?_))
      refine wk_draws_m (hz1 := (sc _ (sk _ (sc _ (sc _ (sc _ sn)))))) [(0, 0), (1, 0), (2, 0), (3, 0), (4, 0), (5, 0), (6, 0), (7, 0), (8, 0), (9, 0), (10, 0), (11, 0), (12, 0), (13, 0), (14, 0), (15, 0), (16, 1), (17, 0), (18, 2)] 18 Kx Kx (fun c d v a w h => by cases d <;> exact h) ?_
      simp only [List.map_cons, List.map_nil, List.getD_cons_zero, List.getD_cons_succ]
      refine rf_field (n := 0) (j := 1) rfl rfl rfl Try.underlying24 rfl Kx rfl ?_
      simp only [qz]
      refine rf_load rfl rfl rfl Try.underlying22 rfl (fun w hw => (Kn.hd0 hw).at rfl) ?_
      simp only [qz]
      refine rg_move ?_
      simp only [qz]
      refine rg_move ?_
      simp only [qz]
      refine rf_mul (r := ((i * (N + M) : Nat) : Int)) rfl rfl rfl rfl (wrap_eqB (by rw [Int.natCast_mul]) Ox Ox) ?_
      simp only [qz]
      refine rg_move ?_
      simp only [qz]
      refine rf_add (r := ((t : Nat) : Int)) rfl rfl rfl rfl (wrap_eqB (by rw [he2.out, Int.natCast_add]) Ox Ox) ?_
      simp only [qz]
      refine rf_loadR (n := 2) rfl rfl rfl Try.underlying24 rfl Kx (fun w hw => Kn.hd0 (Kn.tl (Kn.tl (Kn.tl hw)))) rfl rfl ?_
      simp only [qz]
      refine rg_move ?_
      simp only [qz]
      refine rf_field (n := 0) (j := 0) rfl rfl rfl Try.underlying24 rfl Kx rfl ?_
      simp only [qz]
      refine rf_load rfl rfl rfl Try.underlying3 rfl (fun w hw => (Kn.hd0 (Kn.tl (Kn.tl (Kn.tl (Kn.tl hw))))).at rfl) ?_
      simp only [qz]
      refine rf_sub (r := ((i - N : Nat) : Int)) rfl rfl rfl rfl (wrap_eqB Ox Ox Ox) ?_
      simp only [qz]
      refine rg_move ?_
      simp only [qz]
      refine rf_field (n := 0) (j := 0) rfl rfl rfl Try.underlying24 rfl Kx rfl ?_
      simp only [qz]
      refine rf_load rfl rfl rfl Try.underlying3 rfl (fun w hw => (Kn.hd0 (Kn.tl (Kn.tl (Kn.tl (Kn.tl hw))))).at rfl) ?_
      simp only [qz]
      refine rf_sub (r := ((k - N : Nat) : Int)) rfl rfl rfl rfl (wrap_eqB Ox Ox Ox) ?_
      simp only [qz]
      apply rg_pure Rx Kx
      case hargs => exact Ax
      case h => exact fun w hw => rAt_any M (i - N) (k - N) ys a' c' hly.out hM Ox Ox w (hB.kn0 hw)
      case hz => exact (fun _ h => by cases h; exact (sc _ (sc _ (sc _ (sc _ (sc _ sn))))))
      simp only [qz]
      refine rf_indexS (n := t) (sz := 5) (j := 0 + t * 5) rfl rfl rfl rfl Try.underlying22 Kx rfl Ox rfl ?_
      simp only [qz]
      have hsz1 := nm_sz (besZ N M xs ys t) t (nm ys ((i - N) * M + (k - N))) Ox
      refine rf_storeRM (n := 5) (vs := nmC (nm ys ((i - N) * M + (k - N)))) rfl rfl Kx rfl rfl (UpdR.there _ (UpdR.here _ _ _ hsz1)) (sc _ (sk _ (sc _ (sc _ (sc _ sn))))) ?_
      rw [nm_fl _ _ _ Ox, besZ_set N M xs ys he2.out Ox htt (by (unfold besV; rw [if_neg Ox, if_pos Ox]))]
      simp only [qz]
      refine rg_nil (ek_block (ek_next ?_))
      refine wk_region [0, 0, 0] rfl Kx ?_
      simp only [qy]
      refine rg_move ?_
      simp only [qz]
      refine rf_add rfl rfl rfl rfl (wrap_ok Ox Ox) ?_
      simp only [qz]
      refine rg_assign ?_
      simp only [qz]
      refine rg_nil ?_
      refine ek_roundF (N + M - (k + 1)) Ox Kx ?_
      exact ⟨k + 1, t + 1, rfl, rfl, by rfl, Ox, (Lib.hid (by have := he2.out; omega))⟩
    (try simp only [qd, ne_eq] at h9)
    simp only [qz]
    refine rf_pick rfl rfl rfl ?_
    simp only [qz]
    refine rg_nil (ek_next (wk_cond_t rfl ?_))
    refine wk_draws_m (hz1 := (sc _ (sk _ (sc _ (sc _ (sc _ sn)))))) [(0, 0), (1, 0), (2, 0), (3, 0), (4, 0), (5, 0), (6, 0), (7, 0), (8, 0), (9, 0), (10, 1), (11, 0), (12, 2)] 12 Kx Kx (fun c d v a w h => by cases d <;> exact h) ?_
    simp only [List.map_cons, List.map_nil, List.getD_cons_zero, List.getD_cons_succ]
    refine rf_field (n := 0) (j := 1) rfl rfl rfl Try.underlying24 rfl Kx rfl ?_
    simp only [qz]
    refine rf_load rfl rfl rfl Try.underlying22 rfl (fun w hw => (Kn.hd0 hw).at rfl) ?_
    simp only [qz]
    refine rg_move ?_
    simp only [qz]
    refine rg_move ?_
    simp only [qz]
    refine rf_mul (r := ((i * (N + M) : Nat) : Int)) rfl rfl rfl rfl (wrap_eqB (by rw [Int.natCast_mul]) Ox Ox) ?_
    simp only [qz]
    refine rg_move ?_
    simp only [qz]
    refine rf_add (r := ((t : Nat) : Int)) rfl rfl rfl rfl (wrap_eqB (by rw [he2.out, Int.natCast_add]) Ox Ox) ?_
    simp only [qz]
    refine rf_loadR (n := 2) rfl rfl rfl Try.underlying24 rfl Kx (fun w hw => Kn.hd0 (Kn.tl (Kn.tl (Kn.tl (Kn.tl hw))))) rfl rfl ?_
    simp only [qz]
    refine rg_move ?_
    simp only [qz]
    refine rg_move ?_
    simp only [qz]
    apply rg_pure Rx Kx
    case hargs => exact Ax
    case h => exact fun w hw => rAt_any N i k xs a c hlx.out hN Ox Ox w (hA.kn0 hw)
    case hz => exact (fun _ h => by cases h; exact (sc _ (sc _ (sc _ (sc _ (sc _ sn))))))
    simp only [qz]
    refine rf_indexS (n := t) (sz := 5) (j := 0 + t * 5) rfl rfl rfl rfl Try.underlying22 Kx rfl Ox rfl ?_
    simp only [qz]
    have hsz1 := nm_sz (besZ N M xs ys t) t (nm xs (i * N + k)) Ox
    refine rf_storeRM (n := 5) (vs := nmC (nm xs (i * N + k))) rfl rfl Kx rfl rfl (UpdR.there _ (UpdR.here _ _ _ hsz1)) (sc _ (sk _ (sc _ (sc _ (sc _ sn))))) ?_
    rw [nm_fl _ _ _ Ox, besZ_set N M xs ys he2.out Ox htt (by (unfold besV; rw [if_pos Ox]))]
    simp only [qz]
    refine rg_nil (ek_next (wk_seq ?_))
    refine wk_region [0, 0, 0, 0, 0, 0, 0, 0, 0, 0] rfl Kx ?_
    simp only [qy]
    refine rg_move ?_
    simp only [qz]
    refine rf_field (n := 0) (j := 0) rfl rfl rfl Try.underlying24 rfl Kx rfl ?_
    simp only [qz]
    refine rf_load rfl rfl rfl Try.underlying3 rfl (fun w hw => (Kn.hd0 (Kn.tl (Kn.tl (Kn.tl (Kn.tl hw))))).at rfl) ?_
    simp only [qz]
    refine rfb_geq rfl rfl rfl rfl ?_
    intro x h12
    cases x
    · (try simp only [qd, ne_eq] at h12)
      simp only [qz]
      refine rg_move ?_
      simp only [qz]
      refine rg_skip Rx ?_
      simp only [qz]
      refine rg_skip Rx ?_
      simp only [qz]
      refine rg_skip Rx ?_
      simp only [qz]
      refine rg_skip Rx ?_
      simp only [qz]
      refine rf_pick rfl rfl rfl ?_
      simp only [qz]
      refine rg_nil (ek_next (wk_cond_f rfl (wk_skip (ek_block (ek_next ?_)))))
      refine wk_region [0, 0, 0] rfl Kx ?_
      simp only [qy]
      refine rg_move ?_
      simp only [qz]
      refine rf_add rfl rfl rfl rfl (wrap_ok Ox Ox) ?_
      simp only [qz]
      refine rg_assign ?_
      simp only [qz]
      refine rg_nil ?_
      refine ek_roundF (N + M - (k + 1)) Ox Kx ?_
      exact ⟨k + 1, t + 1, rfl, rfl, by rfl, Ox, (Lib.hid (by have := he2.out; omega))⟩
    (try simp only [qd, ne_eq] at h12)
    simp only [qz]
    omega
  (try simp only [qd, ne_eq] at h3)
  simp only [qz]
  refine rg_nil (ek_next (wk_cond_t rfl (wk_seq ?_)))
  refine wk_region [0, 1, 0] rfl Kx ?_
  simp only [qy]
  refine rf_build (cs := fun a => #[.int .i64 0, .slice none 0 0]) rfl rfl Kx ?_
  simp only [qz]
  refine rf_storeR (n := 2) rfl rfl Kx rfl rfl (UpdR.here _ _ _ Nl) Nz ?_
  simp only [qz, Nat.reduceAdd]
  refine rg_assign ?_
  simp only [qz]
  refine rg_nil (ek_next (wk_ret (ek_then_ret ?_)))
  refine ek_ret (fun w hw => ⟨rfl, _, run_results2 rfl rfl (Kn.hd0 hw) Try.underlying24 rfl Kx, ?_⟩)
  (try simp only [qz])
  exact retM_err (c := 4) (by unfold besM; rw [hv, hv2, Bool.and_self, if_pos rfl, if_neg Ox]) hw.below

end Go.Proofs.Ytjeijnjaleldkaa
namespace Go.Proofs.Ytjeijnjaleldkaa
set_option linter.all false
open Go.RowKit

theorem gather_len_le5 {f : Nat → NR} : ∀ t, (rL (gather f t)).length ≤ t := fun t => by
  cases h : gather f t with
  | ok l => exact Nat.le_of_eq (gather_len h)
  | error c => exact Nat.zero_le _
theorem mulM_len (n m : Int) (xs ys : List Nm) : (rL (mulM n m xs ys)).length ≤ 36 := by
  unfold mulM
  cases hv : validB n xs with
  | false => exact Nat.zero_le _
  | true =>
    obtain ⟨N, rfl, h1, h2, h3, h4, h5⟩ := validB_N' hv
    cases hv2 : validB m ys with
    | false => exact Nat.zero_le _
    | true =>
      rw [Bool.and_self, if_pos rfl]
      split
      · refine Nat.le_trans (gather_len_le5 _) ?_
        rw [Int.toNat_natCast]
        exact Nat.mul_le_mul h2 h2
      · exact Nat.zero_le _
theorem besM_len (n m : Int) (xs ys : List Nm) : (rL (besM n m xs ys)).length ≤ 36 := by
  unfold besM
  cases hv : validB n xs with
  | false => exact Nat.zero_le _
  | true =>
    obtain ⟨N, rfl, h1, h2, h3, h4, h5⟩ := validB_N' hv
    cases hv2 : validB m ys with
    | false => exact Nat.zero_le _
    | true =>
      obtain ⟨M, rfl, g1, g2, g3, g4, g5⟩ := validB_N' hv2
      rw [Bool.and_self, if_pos rfl]
      split
      · refine Nat.le_trans (gather_len_le5 _) ?_
        rw [Int.toNat_natCast, Int.toNat_natCast]
        have h6 : N + M ≤ 6 := by omega
        exact Nat.mul_le_mul h6 h6
      · exact Nat.zero_le _
set_option maxRecDepth 100000 in
set_option maxHeartbeats 1000000 in
theorem matrixProducts_any (n m : Int) (xs ys : List Nm) (a a' : Option Addr) (c c' : Nat) (hc : xs.length ≤ c) (w : World) (hA : AS w a (nms xs)) (hB : AS w a' (nms ys)) : Calls Try.prog 11 #[.agg #[.int .i64 n, .slice a xs.length c], .agg #[.int .i64 m, .slice a' ys.length c']] w fun e w' => e = .returned (.bool true) ∧ Below w.heap.size w w' := by
  go_enter Try.func11, Try.ntmps11
  refine wk_start ?_
  refine wk_seq ?_
  refine wk_region [1, 1, 0] rfl Kx ?_
  simp only [qy]
  refine Rgn fun g1 => ?_
  simp only [qz]
  refine Rgn fun g2 => ?_
  simp only [qz]
  refine rg_assign ?_
  simp only [qz]
  refine rg_nil (ek_next (wk_seq (wk_seq ?_)))
  refine wk_region [0, 1, 0, 0, 1, 0] rfl Kx ?_
  simp only [qy]
  refine rf_loadR (n := 2) rfl rfl rfl Try.underlying24 rfl Kx (fun w hw => Kn.hd0 (Kn.tl hw)) rfl rfl ?_
  simp only [qz]
  apply rg_pureb Rx Kx
  case hargs => exact Ax
  case h => exact fun w hw => wide_any n xs a c w
  case hz => exact Nz
  intro x h1
  cases x
  · (try simp only [qd, ne_eq] at h1)
    simp only [qz]
    refine rg_move ?_
    simp only [qz]
    refine rf_loadR (n := 2) rfl rfl rfl Try.underlying24 rfl Kx (fun w hw => Kn.hd0 hw) rfl rfl ?_
    simp only [qz]
    apply rg_pureb Rx Kx
    case hargs => exact Ax
    case h => exact fun w hw => wide_any m ys a' c' w
    case hz => exact Nz
    intro x h2
    cases x
    · (try simp only [qd, ne_eq] at h2)
      simp only [qz]
      refine rf_pick rfl rfl rfl ?_
      simp only [qz]
      refine rg_nil (ek_next (wk_cond_f rfl (wk_skip (ek_next (wk_seq ?_)))))
      refine wk_region [0, 0, 1, 0, 0, 0, 1, 1, 0] rfl Kx ?_
      simp only [qy]
      refine rf_loadR (n := 2) rfl rfl rfl Try.underlying24 rfl Kx (fun w hw => Kn.hd0 (Kn.tl hw)) rfl rfl ?_
      simp only [qz]
      refine rf_loadR (n := 2) rfl rfl rfl Try.underlying24 rfl Kx (fun w hw => Kn.hd0 hw) rfl rfl ?_
      simp only [qz]
      apply rg_retM Rx Kx
      case hargs => exact Ax
      case h => exact fun w hw => mul_any n m xs ys a a' c c' Ox Ox w (hA.kn0 hw) (hB.kn0 hw)
      case hz => exact Nz
      intro va3 vc3 u3 hO3
      simp only [qz]
      refine rg_move ?_
      simp only [qz]
      refine rf_extract rfl rfl rfl rfl ?_
      simp only [qz]
      refine rf_extract rfl rfl rfl rfl ?_
      simp only [qz]
      refine Rgn fun g4 => ?_
      simp only [qz]
      refine rf_storeR (n := 2) rfl rfl Kx rfl rfl (UpdR.here _ _ _ Nl) Nz ?_
      simp only [qz, Nat.reduceAdd]
      refine rg_assign ?_
      simp only [qz]
      refine rg_nil (ek_next (wk_seq ?_))
      refine wk_region [0, 0, 1, 0, 0, 0, 1, 1, 0] rfl Kx ?_
      simp only [qy]
      refine rf_loadR (n := 2) rfl rfl rfl Try.underlying24 rfl Kx (fun w hw => Kn.hd0 (Kn.tl (Kn.tlU (Kn.tl hw)))) rfl rfl ?_
      simp only [qz]
      refine rf_loadR (n := 2) rfl rfl rfl Try.underlying24 rfl Kx (fun w hw => Kn.hd0 (Kn.tlU (Kn.tl hw))) rfl rfl ?_
      simp only [qz]
      apply rg_retM Rx Kx
      case hargs => exact Ax
      case h => exact fun w hw => rmul_any n m xs ys a a' c c' Ox Ox hc w (hA.kn0 hw) (hB.kn0 hw)
      case hz => exact Nz
      intro va5 vc5 u5 hO5
      simp only [qz]
      refine rg_move ?_
      simp only [qz]
      refine rf_extract rfl rfl rfl rfl ?_
      simp only [qz]
      refine rf_extract rfl rfl rfl rfl ?_
      simp only [qz]
      refine Rgn fun g6 => ?_
      simp only [qz]
      refine rf_storeR (n := 2) rfl rfl Kx rfl rfl (UpdR.here _ _ _ Nl) Nz ?_
      simp only [qz, Nat.reduceAdd]
      refine rg_assign ?_
      simp only [qz]
      refine rg_nil (ek_next (wk_seq ?_))
      refine wk_region [0, 0, 1, 0, 0, 0, 1, 1, 0] rfl Kx ?_
      simp only [qy]
      refine rf_loadR (n := 2) rfl rfl rfl Try.underlying24 rfl Kx (fun w hw => Kn.hd0 (Kn.tl (Kn.tlU (Kn.tl (Kn.tlU (Kn.tl hw)))))) rfl rfl ?_
      simp only [qz]
      refine rf_loadR (n := 2) rfl rfl rfl Try.underlying24 rfl Kx (fun w hw => Kn.hd0 (Kn.tlU (Kn.tl (Kn.tlU (Kn.tl hw))))) rfl rfl ?_
      simp only [qz]
      apply rg_retM Rx Kx
      case hargs => exact Ax
      case h => exact fun w hw => beside_any n m xs ys a a' c c' Ox Ox w (hA.kn0 hw) (hB.kn0 hw)
      case hz => exact Nz
      intro va7 vc7 u7 hO7
      simp only [qz]
      refine rg_move ?_
      simp only [qz]
      refine rf_extract rfl rfl rfl rfl ?_
      simp only [qz]
      refine rf_extract rfl rfl rfl rfl ?_
      simp only [qz]
      refine Rgn fun g8 => ?_
      simp only [qz]
      refine rf_storeR (n := 2) rfl rfl Kx rfl rfl (UpdR.here _ _ _ Nl) Nz ?_
      simp only [qz, Nat.reduceAdd]
      refine rg_assign ?_
      simp only [qz]
      refine rg_nil (ek_next (wk_seq ?_))
      refine wk_region [0, 0, 1, 0, 0, 0, 1, 1, 0] rfl Kx ?_
      simp only [qy]
      refine rf_loadR (n := 2) rfl rfl rfl Try.underlying24 rfl Kx (fun w hw => Kn.hd0 (Kn.tl (Kn.tlU (Kn.tl (Kn.tlU (Kn.tl (Kn.tlU (Kn.tl hw)))))))) rfl rfl ?_
      simp only [qz]
      refine rf_loadR (n := 2) rfl rfl rfl Try.underlying24 rfl Kx (fun w hw => Kn.hd0 (Kn.tlU (Kn.tl (Kn.tlU (Kn.tl (Kn.tlU (Kn.tl hw))))))) rfl rfl ?_
      simp only [qz]
      apply rg_retM Rx Kx
      case hargs => exact Ax
      case h => exact fun w hw => rbeside_any n m xs ys a a' c c' Ox Ox w (hA.kn0 hw) (hB.kn0 hw)
      case hz => exact Nz
      intro va9 vc9 u9 hO9
      simp only [qz]
      refine rg_move ?_
      simp only [qz]
      refine rf_extract rfl rfl rfl rfl ?_
      simp only [qz]
      refine rf_extract rfl rfl rfl rfl ?_
      simp only [qz]
      refine Rgn fun g10 => ?_
      simp only [qz]
      refine rf_storeR (n := 2) rfl rfl Kx rfl rfl (UpdR.here _ _ _ Nl) Nz ?_
      simp only [qz, Nat.reduceAdd]
      refine rg_assign ?_
      simp only [qz]
      refine rg_nil (ek_next (wk_seq ?_))
      refine wk_region [0, 0, 1, 0, 0, 0, 0, 0, 0, 0, 0, 1, 0, 0, 0, 0, 0, 0, 0, 1, 0, 0] rfl Kx ?_
      simp only [qy]
      refine rf_loadR (n := 2) rfl rfl rfl Try.underlying24 rfl Kx (fun w hw => Kn.hd0 (Kn.tlU (Kn.tl (Kn.tlU (Kn.tl (Kn.tlU (Kn.tl hw))))))) rfl rfl ?_
      simp only [qz]
      refine rf_loadR (n := 2) rfl rfl rfl Try.underlying24 rfl Kx (fun w hw => Kn.hd0 (Kn.tlU (Kn.tl (Kn.tlU (Kn.tl hw))))) rfl rfl ?_
      simp only [qz]
      apply rg_pure Rx Kx
      case hargs => exact Ax
      case h => exact fun w hw => rSame_eq _ _ _ _ _ _ (by have := mulM_len n m xs ys; omega) w (OwnN.asN hO3 (hw.perm ((((((((((((((((List.Perm.refl _).cons _).trans (List.perm_middle (l₁ := u3)).symm).append_left _).trans (List.perm_append_comm_assoc u5 u3 _)).cons _).trans (List.perm_middle (l₁ := u3)).symm).append_left _).trans (List.perm_append_comm_assoc u7 u3 _)).cons _).trans (List.perm_middle (l₁ := u3)).symm).append_left _).trans (List.perm_append_comm_assoc u9 u3 _)).cons _).trans (List.perm_middle (l₁ := u3)).symm).trans ((List.Perm.refl _).append_left _)))) (OwnN.asN hO5 (hw.perm ((((((((((((List.Perm.refl _).cons _).trans (List.perm_middle (l₁ := u5)).symm).append_left _).trans (List.perm_append_comm_assoc u7 u5 _)).cons _).trans (List.perm_middle (l₁ := u5)).symm).append_left _).trans (List.perm_append_comm_assoc u9 u5 _)).cons _).trans (List.perm_middle (l₁ := u5)).symm).trans ((List.Perm.refl _).append_left _))))
      case hz => exact Nz
      simp only [qz]
      refine rg_move ?_
      simp only [qz]
      apply rg_soft_g
      case hg => rfl
      case hy => (intro w hw; go_simp; (try go_bits); exact Yld.mk _ _)
      simp only [qz]
      apply rg_soft_g
      case hg => rfl
      case hy => (intro w hw; go_simp; (try go_bits); exact Yld.mk _ _)
      simp only [qz]
      refine rfb_eql rfl rfl rfl rfl ?_
      intro x h3
      obtain rfl : x = true := by (refine h3.symm.trans ?_; exact decide_eq_true Ox)
      clear h3
      simp only [qz]
      refine rf_pick rfl rfl rfl ?_
      simp only [qz]
      refine rg_move ?_
      simp only [qz]
      refine rf_loadR (n := 2) rfl rfl rfl Try.underlying24 rfl Kx (fun w hw => Kn.hd0 (Kn.tlU (Kn.tl hw))) rfl rfl ?_
      simp only [qz]
      refine rf_loadR (n := 2) rfl rfl rfl Try.underlying24 rfl Kx (fun w hw => Kn.hd0 hw) rfl rfl ?_
      simp only [qz]
      apply rg_pure Rx Kx
      case hargs => exact Ax
      case h => exact fun w hw => rSame_eq _ _ _ _ _ _ (by have := besM_len n m xs ys; omega) w (OwnN.asN hO7 (hw.perm ((((((((List.Perm.refl _).cons _).trans (List.perm_middle (l₁ := u7)).symm).append_left _).trans (List.perm_append_comm_assoc u9 u7 _)).cons _).trans (List.perm_middle (l₁ := u7)).symm).trans ((List.Perm.refl _).append_left _)))) (OwnN.asN hO9 (hw.perm (perm_atU (l := [_]) (u := u9) (List.Perm.refl _))))
      case hz => exact Nz
      simp only [qz]
      refine rf_pick rfl rfl rfl ?_
      simp only [qz]
      refine rg_move ?_
      simp only [qz]
      apply rg_soft_g
      case hg => rfl
      case hy => (intro w hw; go_simp; (try go_bits); exact Yld.mk _ _)
      simp only [qz]
      apply rg_soft_g
      case hg => rfl
      case hy => (intro w hw; go_simp; (try go_bits); exact Yld.mk _ _)
      simp only [qz]
      refine rfb_eql rfl rfl rfl rfl ?_
      intro x h4
      obtain rfl : x = true := by (refine h4.symm.trans ?_; exact decide_eq_true Ox)
      clear h4
      simp only [qz]
      refine rf_pick rfl rfl rfl ?_
      simp only [qz]
      refine rg_move ?_
      simp only [qz]
      apply rg_pure Rx Kx
      case hargs => exact Ax
      case h => exact fun w hw => sane2_any w
      case hz => exact Nz
      simp only [qz]
      refine rf_pick rfl rfl rfl ?_
      simp only [qz]
      refine rg_assign ?_
      simp only [qz]
      refine rg_nil (ek_next (wk_ret ?_))
      refine ek_ret (fun w hw => ⟨rfl, _, res_t _ rfl, ?_⟩)
      (try simp only [qz])
      first | exact ⟨rfl, hw.below⟩ | exact ⟨trivial, hw.below⟩ | exact hw.below
    (try simp only [qd, ne_eq] at h2)
    simp only [qz]
    refine rf_pick rfl rfl rfl ?_
    simp only [qz]
    refine rg_nil (ek_next (wk_cond_t rfl (wk_seq ?_)))
    refine wk_region [1, 0] rfl Kx ?_
    simp only [qy]
    apply rg_pure Rx Kx
    case hargs => exact Ax
    case h => exact fun w hw => sane2_any w
    case hz => exact Nz
    simp only [qz]
    refine rg_assign ?_
    simp only [qz]
    refine rg_nil (ek_next (wk_ret (ek_then_ret ?_)))
    refine ek_ret (fun w hw => ⟨rfl, _, res_t _ rfl, ?_⟩)
    (try simp only [qz])
    first | exact ⟨rfl, hw.below⟩ | exact ⟨trivial, hw.below⟩ | exact hw.below
  (try simp only [qd, ne_eq] at h1)
  simp only [qz]
  refine rg_move ?_
  simp only [qz]
  refine rg_skip Rx ?_
  simp only [qz]
  refine rg_skip_h Rx Nz ?_
  simp only [qz]
  refine rf_pick rfl rfl rfl ?_
  simp only [qz]
  refine rg_nil (ek_next (wk_cond_t rfl (wk_seq ?_)))
  refine wk_region [1, 0] rfl Kx ?_
  simp only [qy]
  apply rg_pure Rx Kx
  case hargs => exact Ax
  case h => exact fun w hw => sane2_any w
  case hz => exact Nz
  simp only [qz]
  refine rg_assign ?_
  simp only [qz]
  refine rg_nil (ek_next (wk_ret (ek_then_ret ?_)))
  refine ek_ret (fun w hw => ⟨rfl, _, res_t _ rfl, ?_⟩)
  (try simp only [qz])
  first | exact ⟨rfl, hw.below⟩ | exact ⟨trivial, hw.below⟩ | exact hw.below

end Go.Proofs.Ytjeijnjaleldkaa
