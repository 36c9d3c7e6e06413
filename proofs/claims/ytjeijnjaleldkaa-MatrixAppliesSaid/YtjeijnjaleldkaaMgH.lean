/- Several texts in one. -/
import Derived.Test.YtjeijnjaleldkaaSq
import Derived.Test.YtjeijnjaleldkaaMgD
import Derived.Test.YtjeijnjaleldkaaCallV
import Derived.Test.YtjeijnjaleldkaaMgA
import Derived.Test.YtjeijnjaleldkaaMgC
import Derived.Test.YtjeijnjaleldkaaMt2a
import Derived.Test.YtjeijnjaleldkaaMgF
namespace Go.Proofs.Ytjeijnjaleldkaa
set_option linter.all false
open Go.RowKit

theorem and7 (x : Int) : bits .and .i64 x 7 = x % 8 := by
  show IntKind.i64.wrap ((BitVec.ofInt 64 x &&& BitVec.ofInt 64 7).toNat : Int) = _
  have h1 : (BitVec.ofInt 64 (7 : Int)).toNat = 2 ^ 3 - 1 := by decide
  rw [BitVec.toNat_and, h1, Nat.and_two_pow_sub_one_eq_mod, BitVec.toNat_ofInt, IntKind.wrap_i64]
  omega
/-- So many eighths of a turn. -/
def Nm.turn : Nat → Nm → Nm
  | 0, z => z
  | n + 1, z => (Nm.turn n z).rot
theorem turn_ok {z : Nm} (h : z.Ok) : ∀ n, (Nm.turn n z).Ok
  | 0 => h
  | n + 1 => rot_ok (turn_ok h n)
set_option maxRecDepth 100000 in
set_option maxHeartbeats 1000000 in
theorem amchanged_ok (z r : Nm) (hz : z.Ok) (f : Nat) (caps : Array Value) (hgo : isGo Try.prog f = true) (w : World) (hf : ∀ w', Below w.heap.size w w' → Calls Try.prog f (#[nmV z] ++ caps) w' fun e w'' => e = .returned (nmV r) ∧ Below w'.heap.size w' w'') : Calls Try.prog 122 #[nmV z, .func (.func f) #[] caps] w fun e w' => e = .returned (.tuple #[nmV r, .int .i64 0]) ∧ Below w.heap.size w w' := by
  go_enter Try.func122, Try.ntmps122
  refine wk_start ?_
  refine wk_seq ?_
  refine wk_region [1, 1, 0] rfl Kx ?_
  simp only [qy]
  refine Rgn fun g1 => ?_
  simp only [qz]
  refine Rgn fun g2 => ?_
  simp only [qz]
  refine rg_assign ?_
  simp only [qz]
  refine rg_nil (ek_next (wk_seq (wk_seq ?_)))
  refine wk_region [0, 1, 0] rfl Kx ?_
  simp only [qy]
  refine rf_loadR (n := 5) rfl rfl rfl Try.underlying29 rfl Kx (fun w hw => Kn.hd0 (Kn.tl hw)) rfl rfl ?_
  simp only [qz]
  apply rg_pure Rx Kx
  case hargs => exact Ax
  case h => exact fun w hw => by have := amvalid_any z w; rw [okB_yes hz] at this; exact this
  case hz => exact Nz
  simp only [qz]
  refine rf_not rfl rfl rfl ?_
  simp only [qz]
  refine rg_nil (ek_next (wk_cond_f rfl (wk_skip (ek_next (wk_seq ?_)))))
  refine wk_region [0, 0, 1, 1, 0] rfl Kx ?_
  simp only [qy]
  refine rg_move ?_
  simp only [qz]
  refine rf_loadR (n := 5) rfl rfl rfl Try.underlying29 rfl Kx (fun w hw => Kn.hd0 (Kn.tl hw)) rfl rfl ?_
  simp only [qz]
  refine CV.rg_callV (caps := caps) (vs := #[nmV z]) (v := nmV r) Rx rfl hgo (by simp only [qm, qs, Act.eval]) (fun w hw => hf w hw.below) Nz ?_
  simp only [qz]
  refine rf_storeR (n := 5) rfl rfl Kx rfl rfl (UpdR.here _ _ _ Nl) Nz ?_
  simp only [qz, Nat.reduceAdd]
  refine rg_assign ?_
  simp only [qz]
  refine rg_nil (ek_next (wk_ret ?_))
  refine ek_ret (fun w hw => ⟨rfl, _, run_results2 rfl rfl (Kn.hd0 hw) Try.underlying29 rfl Kx, ?_⟩)
  (try simp only [qz])
  first | exact ⟨rfl, hw.below⟩ | exact ⟨trivial, hw.below⟩ | exact hw.below

end Go.Proofs.Ytjeijnjaleldkaa
namespace Go.Proofs.Ytjeijnjaleldkaa
set_option linter.all false
open Go.RowKit

set_option maxRecDepth 100000 in
set_option maxHeartbeats 1000000 in
theorem amPower_ok (z : Nm) (hz : z.Ok) (w : World) : Calls Try.prog 88 #[nmV z] w fun e w' => e = .returned (numV z.power) ∧ Below w.heap.size w w' := by
  go_enter Try.func88, Try.ntmps88
  refine wk_start ?_
  refine wk_seq ?_
  refine wk_region [1, 1, 0] rfl Kx ?_
  simp only [qy]
  refine Rgn fun g1 => ?_
  simp only [qz]
  refine Rgn fun g2 => ?_
  simp only [qz]
  refine rg_assign ?_
  simp only [qz]
  refine rg_nil (ek_next (wk_seq (wk_seq ?_)))
  refine wk_region [0, 1, 0] rfl Kx ?_
  simp only [qy]
  refine rf_loadR (n := 5) rfl rfl rfl Try.underlying29 rfl Kx (fun w hw => Kn.hd0 (Kn.tl hw)) rfl rfl ?_
  simp only [qz]
  apply rg_pure Rx Kx
  case hargs => exact Ax
  case h => exact fun w hw => by have := amvalid_any z w; rw [okB_yes hz] at this; exact this
  case hz => exact Nz
  simp only [qz]
  refine rf_not rfl rfl rfl ?_
  simp only [qz]
  refine rg_nil (ek_next (wk_cond_f rfl (wk_skip (ek_next (wk_seq ?_)))))
  refine wk_draws_m (hz1 := (sk _ (sc _ sn))) [(0, 0), (1, 0), (2, 1), (3, 1), (4, 1), (5, 0), (6, 0), (7, 2), (8, 0)] 7 Kx Kx (fun c d v a w h => by cases d <;> exact h) ?_
  simp only [List.map_cons, List.map_nil, List.getD_cons_zero, List.getD_cons_succ]
  refine rf_loadR (n := 5) rfl rfl rfl Try.underlying29 rfl Kx (fun w hw => Kn.hd0 (Kn.tl hw)) rfl rfl ?_
  simp only [qz]
  refine rf_loadR (n := 5) rfl rfl rfl Try.underlying29 rfl Kx (fun w hw => Kn.hd0 (Kn.tl hw)) rfl rfl ?_
  simp only [qz]
  apply rg_pure Rx Kx
  case hargs => exact Ax
  case h => exact fun w hw => amconj_any z (Nm.fit_mono hz.fit Ox) w
  case hz => exact (fun _ h => by cases h; exact (sc _ (sc _ sn)))
  simp only [qz]
  apply rg_pure Rx Kx
  case hargs => exact Ax
  case h => exact fun w hw => ammul_any z z.conj hz (conj_ok hz) w
  case hz => exact (fun _ h => by cases h; exact (sc _ (sc _ sn)))
  simp only [qz]
  apply rg_num Rx Kx
  case hargs => exact Ax
  case h => exact fun w hw => result_any (z.mulR z.conj) (mulR_fit hz.fit (conj_ok hz).fit) (by have := hz.k1; simp only [Nm.mulR, Nm.conj]; omega) w
  case hz => exact (fun _ h => by cases h; exact (sc _ (sc _ sn)))
  case hc => exact (fun c h => mk_err h)
  · intro hr1
    simp only [qz]
    refine rf_extract rfl rfl rfl rfl ?_
    simp only [qz]
    refine rf_extract rfl rfl rfl rfl ?_
    simp only [qz]
    refine rf_storeRM (n := 5) rfl rfl Kx rfl rfl (UpdR.here _ _ _ Nl) (sk _ (sc _ sn)) ?_
    simp only [qz, Nat.reduceAdd]
    refine rg_assign ?_
    simp only [qz]
    refine rg_nil (ek_next (wk_ret ?_))
    refine ek_ret (fun w hw => ⟨rfl, _, run_results2 rfl rfl (Kn.hd0 hw) Try.underlying29 rfl Kx, ?_⟩)
    (try simp only [qz])
    exact ⟨by rw [show z.power = _ from hr1]; rfl, hw.below⟩
  intro z1 hr1
  simp only [qz]
  refine rf_extract rfl rfl rfl rfl ?_
  simp only [qz]
  refine rf_extract rfl rfl rfl rfl ?_
  simp only [qz]
  refine rf_storeRM (n := 5) rfl rfl Kx rfl rfl (UpdR.here _ _ _ Nl) (sk _ (sc _ sn)) ?_
  simp only [qz, Nat.reduceAdd]
  refine rg_assign ?_
  simp only [qz]
  refine rg_nil (ek_next (wk_ret ?_))
  refine ek_ret (fun w hw => ⟨rfl, _, run_results2 rfl rfl (Kn.hd0 hw) Try.underlying29 rfl Kx, ?_⟩)
  (try simp only [qz])
  exact ⟨by rw [show z.power = _ from hr1]; rfl, hw.below⟩

end Go.Proofs.Ytjeijnjaleldkaa
namespace Go.Proofs.Ytjeijnjaleldkaa
set_option linter.all false
open Go.RowKit

section
variable {R : Option Nat} {ops : Array Oper} {Q : Exit → Act → World → Prop} {B : World} {F : List Nat} {s0 : Option (List Blk × List Blk)} {P : Program}
variable {l : List (Oper × Nat)} {a : Act} {s : List Blk} {d : Option Tmp} {t : TypeId} {p : String} {af : Array Edge} {gd : Option (Nat × Bool)} {m : Nat}
/-- A part of a slice, with both bounds. -/
theorem rf_sliceLH {T : Nat} {x yl y : Operand} {b off n lo hi len cap e sz : Nat} {k k' : IntKind} {zl z : Int} (hm : soft03 m = true) (hg : Region.wanted ⟨d, .slice T x (some yl) (some y) none, t, p, af, gd⟩ (yielded ops a.tmps) = true)
    (hx : a.eval x = .slice (some ⟨b, off, none⟩) len cap) (hl : a.eval yl = .int k' zl) (hy : a.eval y = .int k z) (hu : P.underlying T = some (.slice e)) (hs : (P.info? e).map (·.size) = some sz) (hzl : zl = (lo : Int)) (hz : z = (hi : Int)) (hh : lo + n = hi) (hn : hi ≤ cap) (hlo : lo < cap)
    (h : Rg R P ops Q B F s0 l (a.put d (.slice (some ⟨b, off + lo * sz, none⟩) n (cap - lo))) s) : Rg R P ops Q B F s0 ((⟨d, .slice T x (some yl) (some y) none, t, p, af, gd⟩, m) :: l) a s := by
  subst hzl hz
  refine rg_any hm hg (fun w => ?_) h
  unfold Yld
  cases hq : P.info? e with
  | none => simp [hq] at hs
  | some q =>
    have hs' : q.size = sz := by simpa [hq] using hs
    have hb := fun w => run_sliceBound (P := P) w k (hi : Int) cap .sliceAcap Ox Ox
    have hb2 := fun w => run_sliceBound (P := P) w k' (lo : Int) hi .sliceB Ox Ox
    have e1 : (hi : Int).toNat = hi := Int.toNat_natCast _
    have e2 : (lo : Int).toNat = lo := Int.toNat_natCast _
    rw [e1] at hb
    rw [e2] at hb2
    have h3 : ¬ cap = lo := by omega
    have h4 : hi - lo = n := by omega
    simp [execOp, hx, hl, hy, Instr.sliceAt, Instr.slice, Instr.sliceBounds, run_underlying hu, sizeOf, typeInfo, hq, hs', hb, hb2, Addr.add_mid, h3, h4]
end
/-- A row. -/
def rowL (xs : List Nm) (N i : Nat) : List Nm := (List.range N).map fun k => nm xs (i * N + k)
theorem rowL_len (xs : List Nm) (N i : Nat) : (rowL xs N i).length = N := by simp [rowL]
theorem rowL_at (xs : List Nm) {N i k : Nat} (h : k < N) : nm (rowL xs N i) k = nm xs (i * N + k) := by
  show (rowL xs N i).getD k Nm.zero = nm xs (i * N + k)
  rw [List.getD_eq_getElem?_getD, rowL, List.getElem?_map, List.getElem?_range h]
  rfl
theorem colL_at (xs : List Nm) {N k t j : Nat} (h : j < t) : nm (colL xs N k t) j = nm xs (j * N + k) := by
  show (colL xs N k t).getD j Nm.zero = nm xs (j * N + k)
  rw [List.getD_eq_getElem?_getD, colL, List.getElem?_map, List.getElem?_range h]
  rfl
theorem AS.row {w : World} {b off : Nat} {xs : List Nm} {N i : Nat} (h : AS w (some ⟨b, off, none⟩) (nms xs)) (hl : i * N + N ≤ xs.length) (hN : 0 < N) : AS w (some ⟨b, off + i * N * 5, none⟩) (nms (rowL xs N i)) := by
  intro _
  have hf : (nms xs).length = xs.length * 5 := NmE.flat_len xs
  obtain ⟨b', off', e, hlt, hc⟩ := h (fun e => by rw [e] at hf; simp at hf; omega)
  cases e
  refine ⟨b, _, rfl, hlt, fun j hj => ?_⟩
  have hj2 : j < N * 5 := by
    have : (nms (rowL xs N i)).length = (rowL xs N i).length * 5 := NmE.flat_len _
    rw [this, rowL_len] at hj; exact hj
  have hd := Nat.div_add_mod j 5
  have hm5 := Nat.mod_lt j (show 0 < 5 by omega)
  have h1 := NmE.get (rowL xs N i) (j / 5) (j % 5) (by rw [rowL_len]; omega) hm5
  have h2 := NmE.get xs (i * N + j / 5) (j % 5) Ox hm5
  have e1 : NmE.at (rowL xs N i) (j / 5) = NmE.at xs (i * N + j / 5) := rowL_at xs Ox
  rw [e1, ← h2] at h1
  have e2 : j / 5 * NmE.sz + j % 5 = j := by show j / 5 * 5 + j % 5 = j; omega
  have e3 : (i * N + j / 5) * NmE.sz + j % 5 = i * N * 5 + j := by show (i * N + j / 5) * 5 + j % 5 = i * N * 5 + j; omega
  rw [e2, e3] at h1
  have h3 := hc (i * N * 5 + j) (by rw [hf]; omega)
  rw [show off + i * N * 5 + j = off + (i * N * 5 + j) by omega, h3]
  exact h1.symm
theorem prodsR_congr {x y x' y' : Nat → Nm} : ∀ n, (∀ k, k < n → x k = x' k) → (∀ k, k < n → y k = y' k) → prodsR x y n = prodsR x' y' n
  | 0, _, _ => rfl
  | n + 1, h, h' => by simp only [prodsR, prodsR_congr n (fun k hk => h k Ox) (fun k hk => h' k Ox), h n Ox, h' n Ox]
set_option maxRecDepth 100000 in
set_option maxHeartbeats 1000000 in
theorem rproducts_any (xs ys : List Nm) (a a' : Option Addr) (c c' : Nat) (hle : ys.length = xs.length) (hl : xs.length ≤ 1000000) (hox : allOk xs = true) (hoy : allOk ys = true) (w : World) (hA : AS w a (nms xs)) (hB : AS w a' (nms ys)) : Calls Try.prog 100 #[.slice a xs.length c, .slice a' ys.length c'] w fun e w' => e = .returned (numV (prodsR (nm xs) (nm ys) xs.length)) ∧ Below w.heap.size w w' := by
  go_enter Try.func100, Try.ntmps100
  refine wk_start ?_
  refine wk_seq ?_
  refine wk_region [1, 0] rfl Kx ?_
  simp only [qy]
  refine Rgn fun g1 => ?_
  simp only [qz]
  refine rg_assign ?_
  simp only [qz]
  refine rg_nil (ek_next (wk_seq ?_))
  refine wk_region [1] rfl Kx ?_
  simp only [qy]
  refine Rgn fun g2 => ?_
  simp only [qz]
  refine rg_nil (ek_next (wk_seq (wk_seq ?_)))
  refine wk_region [0] rfl Kx ?_
  simp only [qy]
  refine rg_assign ?_
  simp only [qz]
  refine rg_nil (ek_next (wk_block ?_))
  refine wk_loopF [5, 7, 8, 9, 10, 11, 12, 13, 14, 15, 16, 17, 18, 19, 20, 21, 22, 23, 24, 25, 26, 27, 28, 29, 30, 31, 32, 33, 34, 35, 36, 37, 38, 39, 40, 41] (fun mz f s => ∃ (k : Nat) (ac : Nm), f 7 = .int .i64 k ∧ s = ((g2, .cells #[.int .i64 ac.a, .int .i64 ac.b, .int .i64 ac.c, .int .i64 ac.d, .int .i64 ac.k] 29) :: ((g1, .cells #[.int .i64 0, .int .i64 0, .int .i64 0, .int .i64 0, .int .i64 0] 29) :: [])) ∧ mz = xs.length - k ∧ k ≤ xs.length ∧ Hid (prodsR (nm xs) (nm ys) k = .ok ac) ∧ ac.Ok) ((fun (k : Nat) (ac : Nm) => xs.length - k) (0) (Nm.zero)) ?_ Kx ?_
  · exact ⟨0, Nm.zero, rfl, rfl, rfl, by omega, (Lib.hid rfl), zero_ok⟩
  rintro mz f1 s ⟨k, ac, hs1_7, rfl, hn, hd1, hd2, hd3⟩
  simp only [Act.putF, List.foldl_cons, List.foldl_nil, hs1_7, Act.put, Act.eval, q1, q2, q3, q4, q5, q6, q7, q8, q9, q10, q11, q12, q13, q14, q15, q16, q17, q18, Nat.reduceAdd, Bool.not_true, Bool.not_false]
  clear hs1_7
  refine wk_seq (wk_seq ?_)
  refine wk_region [0, 0, 0, 0] rfl Kx ?_
  simp only [qy]
  refine rg_move ?_
  simp only [qz]
  refine rg_move ?_
  simp only [qz]
  refine rf_len rfl rfl rfl Try.underlying22 ?_
  simp only [qz]
  refine rfb_lss rfl rfl rfl rfl ?_
  intro x h1
  cases x
  · (try simp only [qd, ne_eq] at h1)
    simp only [qz]
    refine rg_nil (ek_next (wk_cond_f rfl (wk_exit (ek_then_exit (ek_then_exit (ek_block_exit (ek_next (wk_seq ?_))))))))
    refine wk_region [0, 1, 0] rfl Kx ?_
    simp only [qy]
    refine rf_loadR (n := 5) rfl rfl rfl Try.underlying29 rfl Kx (fun w hw => Kn.hd0 hw) rfl rfl ?_
    simp only [qz]
    refine rf_storeR (n := 5) rfl rfl Kx rfl rfl (UpdR.there _ (UpdR.here _ _ _ Nl)) Nz ?_
    simp only [qz, Nat.reduceAdd]
    refine rg_assign ?_
    simp only [qz]
    refine rg_nil (ek_next (wk_ret ?_))
    refine ek_ret (fun w hw => ⟨rfl, _, run_results2 rfl rfl (Kn.hd0 (Kn.tl hw)) Try.underlying29 rfl Kx, ?_⟩)
    (try simp only [qz])
    obtain rfl : k = xs.length := by omega
    exact ⟨by rw [hd2.out]; rfl, hw.below⟩
  (try simp only [qd, ne_eq] at h1)
  simp only [qz]
  refine rg_nil (ek_next (wk_cond_t rfl (wk_skip (ek_next (wk_seq (wk_block (wk_seq ?_)))))))
  obtain ⟨b, off, ha, hlt, hcell⟩ := AS.openN hA Ox
  obtain ⟨b', off', ha', hlt', hcell'⟩ := AS.openN hB Ox
  subst ha ha'
  have hxk := ok_at hox (show k < xs.length by omega)
  have hyk := ok_at hoy (show k < ys.length by omega)
  refine wk_rt _ Kx (sc _ (sc _ sn)) ?_
  refine rt_soft (i := 0) rfl Kx (fun c d v a w h => by cases d <;> exact h) (sc _ (sc _ sn)) ?_
  refine rg_move ?_
  simp only [qz]
  refine rg_nil ?_
  refine ek_rt (sc _ (sc _ sn)) ?_
  refine rt_soft (i := 1) rfl Kx (fun c d v a w h => by cases d <;> exact h) (sc _ (sc _ sn)) ?_
  refine rg_move ?_
  simp only [qz]
  refine rg_nil ?_
  refine ek_rt (sc _ (sc _ sn)) ?_
  refine rt_soft (i := 2) rfl Kx (fun c d v a w h => by cases d <;> exact h) (sc _ (sc _ sn)) ?_
  refine rf_indexS (n := k) (sz := 5) (j := off + k * 5) rfl rfl rfl rfl Try.underlying22 Kx Ox Ox rfl ?_
  simp only [qz]
  refine rg_nil ?_
  refine ek_rt (sc _ (sc _ sn)) ?_
  refine rt_soft (i := 3) rfl Kx (fun c d v a w h => by cases d <;> exact h) (sc _ (sc _ sn)) ?_
  refine rf_loadC (n := 5) (vs := [.int .i64 (nm xs k).a, .int .i64 (nm xs k).b, .int .i64 (nm xs k).c, .int .i64 (nm xs k).d, .int .i64 (nm xs k).k]) rfl rfl rfl Try.underlying29 rfl Kx rfl (fun w hw => atN_range ((hcell k Ox).kn hw hlt (by simp))) ?_
  simp only [qz]
  refine rg_nil ?_
  refine ek_rt (sc _ (sc _ sn)) ?_
  refine rt_soft (i := 4) rfl Kx (fun c d v a w h => by cases d <;> exact h) (sc _ (sc _ sn)) ?_
  refine rg_move ?_
  simp only [qz]
  refine rg_nil ?_
  refine ek_rt (sc _ (sc _ sn)) ?_
  refine rt_soft (i := 5) rfl Kx (fun c d v a w h => by cases d <;> exact h) (sc _ (sc _ sn)) ?_
  refine rg_move ?_
  simp only [qz]
  refine rg_nil ?_
  refine ek_rt (sc _ (sc _ sn)) ?_
  refine rt_soft (i := 6) rfl Kx (fun c d v a w h => by cases d <;> exact h) (sc _ (sc _ sn)) ?_
  refine rf_indexS (n := k) (sz := 5) (j := off' + k * 5) rfl rfl rfl rfl Try.underlying22 Kx Ox Ox rfl ?_
  simp only [qz]
  refine rg_nil ?_
  refine ek_rt (sc _ (sc _ sn)) ?_
  refine rt_soft (i := 7) rfl Kx (fun c d v a w h => by cases d <;> exact h) (sc _ (sc _ sn)) ?_
  refine rf_loadC (n := 5) (vs := [.int .i64 (nm ys k).a, .int .i64 (nm ys k).b, .int .i64 (nm ys k).c, .int .i64 (nm ys k).d, .int .i64 (nm ys k).k]) rfl rfl rfl Try.underlying29 rfl Kx rfl (fun w hw => atN_range ((hcell' k Ox).kn hw hlt' (by simp))) ?_
  simp only [qz]
  refine rg_nil ?_
  refine ek_rt (sc _ (sc _ sn)) ?_
  refine rt_hard2 (i := 8) (j := 12) Kx rfl rfl ?_ ?_
  · apply rg_num Rx Kx
    case hargs => exact Ax
    case h => exact fun w hw => rTimes_ok (nm xs k) (nm ys k) hxk hyk w
    case hz => exact (fun _ h => by cases h; exact (sc _ (sc _ sn)))
    case hc => exact (fun c h => mk_err h)
    · intro hr2
      simp only [qz]
      refine rg_nil ?_
      refine ek_rt (sc _ (sc _ sn)) ?_
      refine rt_soft (i := 9) rfl Kx (fun c d v a w h => by cases d <;> exact h) (sc _ (sc _ sn)) ?_
      refine rg_move ?_
      simp only [qz]
      refine rg_nil ?_
      refine ek_rt (sc _ (sc _ sn)) ?_
      refine rt_soft (i := 10) rfl Kx (fun c d v a w h => by cases d <;> exact h) (sc _ (sc _ sn)) ?_
      refine rf_extract rfl rfl rfl rfl ?_
      simp only [qz]
      refine rg_nil ?_
      refine ek_rt (sc _ (sc _ sn)) ?_
      refine rt_soft (i := 11) rfl Kx (fun c d v a w h => by cases d <;> exact h) (sc _ (sc _ sn)) ?_
      refine rf_extract rfl rfl rfl rfl ?_
      simp only [qz]
      refine rg_nil ?_
      refine ek_rt (sc _ (sc _ sn)) ?_
      refine rt_hard1 (i := 12) Kx rfl ?_
      refine rg_new (cs := ?_) (ty := ?_) Rx (fun w => ?_) (fun _ h => by cases h; exact (sc _ (sc _ sn))) (fun g3 => ?_); rotate_left 2
      focus (go_simp; rfl)
      simp only [qz]
      refine rg_nil ?_
      refine ek_rt (sk _ (sc _ (sc _ sn))) ?_
      refine rt_hard1 (i := 13) Kx rfl ?_
      refine rf_storeR (n := 5) rfl rfl Kx rfl rfl (UpdR.here _ _ _ Nl) (fun _ h => by cases h; exact (sk _ (sc _ (sc _ sn)))) ?_
      simp only [qz, Nat.reduceAdd]
      refine rg_nil ?_
      refine ek_rt (sk _ (sc _ (sc _ sn))) ?_
      refine rt_soft (i := 14) rfl Kx (fun c d v a w h => by cases d <;> exact h) (sk _ (sc _ (sc _ sn))) ?_
      refine rg_assign ?_
      simp only [qz]
      refine rg_nil ?_
      refine ek_rt (sk _ (sc _ (sc _ sn))) ?_
      refine rt_nil Kx ?_
      refine ek_next (wk_seq (wk_seq ?_))
      refine wk_region [0, 0] rfl Kx ?_
      simp only [qy]
      refine rg_move ?_
      simp only [qz]
      refine rf_neq (b := true) rfl rfl rfl rfl (by decide) ?_
      simp only [qz]
      refine rg_nil (ek_next (wk_cond_t rfl (wk_seq ?_)))
      refine wk_region [0, 0, 1, 0] rfl Kx ?_
      simp only [qy]
      refine rf_build (cs := fun a => #[.int .i64 0, .int .i64 0, .int .i64 0, .int .i64 0, .int .i64 0]) rfl rfl Kx ?_
      simp only [qz]
      refine rg_move ?_
      simp only [qz]
      refine rf_storeR (n := 5) rfl rfl Kx rfl rfl (UpdR.there _ (UpdR.there _ (UpdR.here _ _ _ Nl))) Nz ?_
      simp only [qz, Nat.reduceAdd]
      refine rg_assign ?_
      simp only [qz]
      refine rg_nil (ek_next (wk_ret (ek_then_ret (ek_block_ret (ek_then_ret (ek_then_ret (ek_block_ret (ek_then_ret ?_))))))))
      refine ek_ret (fun w hw => ⟨rfl, _, run_results2 rfl rfl (Kn.hd0 (Kn.tl (Kn.tl hw))) Try.underlying29 rfl Kx, ?_⟩)
      (try simp only [qz])
      exact ⟨by rw [prodsR_err (k := k + 1) (c := 4) (by simp only [prodsR, hd2.out, hr2]) xs.length Ox]; rfl, hw.below⟩
    intro z2 hr2
    simp only [qz]
    refine rg_nil ?_
    refine ek_rt (sc _ (sc _ sn)) ?_
    refine rt_soft (i := 9) rfl Kx (fun c d v a w h => by cases d <;> exact h) (sc _ (sc _ sn)) ?_
    refine rg_move ?_
    simp only [qz]
    refine rg_nil ?_
    refine ek_rt (sc _ (sc _ sn)) ?_
    refine rt_soft (i := 10) rfl Kx (fun c d v a w h => by cases d <;> exact h) (sc _ (sc _ sn)) ?_
    refine rf_extract rfl rfl rfl rfl ?_
    simp only [qz]
    refine rg_nil ?_
    refine ek_rt (sc _ (sc _ sn)) ?_
    refine rt_soft (i := 11) rfl Kx (fun c d v a w h => by cases d <;> exact h) (sc _ (sc _ sn)) ?_
    refine rf_extract rfl rfl rfl rfl ?_
    simp only [qz]
    refine rg_nil ?_
    refine ek_rt (sc _ (sc _ sn)) ?_
    refine rt_hard1 (i := 12) Kx rfl ?_
    refine rg_new (cs := ?_) (ty := ?_) Rx (fun w => ?_) (fun _ h => by cases h; exact (sc _ (sc _ sn))) (fun g4 => ?_); rotate_left 2
    focus (go_simp; rfl)
    simp only [qz]
    refine rg_nil ?_
    refine ek_rt (sk _ (sc _ (sc _ sn))) ?_
    refine rt_hard1 (i := 13) Kx rfl ?_
    refine rf_storeR (n := 5) rfl rfl Kx rfl rfl (UpdR.here _ _ _ Nl) (fun _ h => by cases h; exact (sk _ (sc _ (sc _ sn)))) ?_
    simp only [qz, Nat.reduceAdd]
    refine rg_nil ?_
    refine ek_rt (sk _ (sc _ (sc _ sn))) ?_
    refine rt_soft (i := 14) rfl Kx (fun c d v a w h => by cases d <;> exact h) (sk _ (sc _ (sc _ sn))) ?_
    refine rg_assign ?_
    simp only [qz]
    refine rg_nil ?_
    refine ek_rt (sk _ (sc _ (sc _ sn))) ?_
    refine rt_nil Kx ?_
    refine ek_next (wk_seq (wk_seq ?_))
    refine wk_region [0, 0] rfl Kx ?_
    simp only [qy]
    refine rg_move ?_
    simp only [qz]
    refine rf_neq (b := false) rfl rfl rfl rfl (by decide) ?_
    simp only [qz]
    refine rg_nil (ek_next (wk_cond_f rfl (wk_skip (ek_next (wk_seq ?_)))))
    refine wk_region [0, 0, 1, 0, 0, 0, 1, 0] rfl Kx ?_
    simp only [qy]
    refine rf_loadR (n := 5) rfl rfl rfl Try.underlying29 rfl Kx (fun w hw => Kn.hd0 (Kn.tl hw)) rfl rfl ?_
    simp only [qz]
    refine rf_loadR (n := 5) rfl rfl rfl Try.underlying29 rfl Kx (fun w hw => Kn.hd0 hw) rfl rfl ?_
    simp only [qz]
    have hpk := (mk_ok (mulR_k hxk.k0 hyk.k0) hr2).1
    apply rg_num Rx Kx
    case hargs => exact Ax
    case h => exact fun w hw => rPlus_ok ac z2 hd3 hpk w
    case hz => exact Nz
    case hc => exact (fun c h => mk_err h)
    · intro hr3
      simp only [qz]
      refine rg_move ?_
      simp only [qz]
      refine rf_extract rfl rfl rfl rfl ?_
      simp only [qz]
      refine rf_extract rfl rfl rfl rfl ?_
      simp only [qz]
      refine rf_storeR (n := 5) rfl rfl Kx rfl rfl (UpdR.there _ (UpdR.here _ _ _ Nl)) Nz ?_
      simp only [qz, Nat.reduceAdd]
      refine rg_assign ?_
      simp only [qz]
      refine rg_nil (ek_next (wk_seq ?_))
      refine wk_region [0, 0] rfl Kx ?_
      simp only [qy]
      refine rg_move ?_
      simp only [qz]
      refine rf_neq (b := true) rfl rfl rfl rfl (by decide) ?_
      simp only [qz]
      refine rg_nil (ek_next (wk_cond_t rfl (wk_seq ?_)))
      refine wk_region [0, 0, 1, 0] rfl Kx ?_
      simp only [qy]
      refine rf_build (cs := fun a => #[.int .i64 0, .int .i64 0, .int .i64 0, .int .i64 0, .int .i64 0]) rfl rfl Kx ?_
      simp only [qz]
      refine rg_move ?_
      simp only [qz]
      refine rf_storeR (n := 5) rfl rfl Kx rfl rfl (UpdR.there _ (UpdR.there _ (UpdR.here _ _ _ Nl))) Nz ?_
      simp only [qz, Nat.reduceAdd]
      refine rg_assign ?_
      simp only [qz]
      refine rg_nil (ek_next (wk_ret (ek_block_ret (ek_then_ret (ek_then_ret (ek_block_ret (ek_then_ret ?_)))))))
      refine ek_ret (fun w hw => ⟨rfl, _, run_results2 rfl rfl (Kn.hd0 (Kn.tl (Kn.tl hw))) Try.underlying29 rfl Kx, ?_⟩)
      (try simp only [qz])
      exact ⟨by rw [prodsR_err (k := k + 1) (c := 4) (by simp only [prodsR, hd2.out, hr2, hr3]) xs.length Ox]; rfl, hw.below⟩
    intro z3 hr3
    simp only [qz]
    refine rg_move ?_
    simp only [qz]
    refine rf_extract rfl rfl rfl rfl ?_
    simp only [qz]
    refine rf_extract rfl rfl rfl rfl ?_
    simp only [qz]
    refine rf_storeR (n := 5) rfl rfl Kx rfl rfl (UpdR.there _ (UpdR.here _ _ _ Nl)) Nz ?_
    simp only [qz, Nat.reduceAdd]
    refine rg_assign ?_
    simp only [qz]
    refine rg_nil (ek_next (wk_seq ?_))
    refine wk_region [0, 0] rfl Kx ?_
    simp only [qy]
    refine rg_move ?_
    simp only [qz]
    refine rf_neq (b := false) rfl rfl rfl rfl (by decide) ?_
    simp only [qz]
    refine rg_nil (ek_next (wk_cond_f rfl (wk_skip (ek_block (ek_next ?_)))))
    refine wk_region [0, 0, 0] rfl Kx ?_
    simp only [qy]
    refine rg_move ?_
    simp only [qz]
    refine rf_add rfl rfl rfl rfl (wrap_ok Ox Ox) ?_
    simp only [qz]
    refine rg_assign ?_
    simp only [qz]
    refine rg_nil ?_
    refine ek_sub (sk _ (sc _ (sc _ sn))) ?_
    refine ek_roundF (xs.length - (k + 1)) Ox Kx ?_
    exact ⟨k + 1, z3, rfl, by rfl, by rfl, Ox, (Lib.hid (by simp only [prodsR, hd2.out, hr2, hr3])), (mk_ok (addR_k hd3.k0) hr3).1⟩
  refine rg_new (cs := ?_) (ty := ?_) Rx (fun w => ?_) (fun _ h => by cases h; exact (sc _ (sc _ sn))) (fun g5 => ?_); rotate_left 2
  focus (go_simp; rfl)
  simp only [qz]
  refine rg_nil ?_
  refine ek_rt (sk _ (sc _ (sc _ sn))) ?_
  refine rt_hard1 (i := 8) Kx rfl ?_
  apply rg_num Rx Kx
  case hargs => exact Ax
  case h => exact fun w hw => rTimes_ok (nm xs k) (nm ys k) hxk hyk w
  case hz => exact (fun _ h => by cases h; exact (sk _ (sc _ (sc _ sn))))
  case hc => exact (fun c h => mk_err h)
  · intro hr4
    simp only [qz]
    refine rg_nil ?_
    refine ek_rt (sk _ (sc _ (sc _ sn))) ?_
    refine rt_soft (i := 9) rfl Kx (fun c d v a w h => by cases d <;> exact h) (sk _ (sc _ (sc _ sn))) ?_
    refine rg_move ?_
    simp only [qz]
    refine rg_nil ?_
    refine ek_rt (sk _ (sc _ (sc _ sn))) ?_
    refine rt_soft (i := 10) rfl Kx (fun c d v a w h => by cases d <;> exact h) (sk _ (sc _ (sc _ sn))) ?_
    refine rf_extract rfl rfl rfl rfl ?_
    simp only [qz]
    refine rg_nil ?_
    refine ek_rt (sk _ (sc _ (sc _ sn))) ?_
    refine rt_soft (i := 11) rfl Kx (fun c d v a w h => by cases d <;> exact h) (sk _ (sc _ (sc _ sn))) ?_
    refine rf_extract rfl rfl rfl rfl ?_
    simp only [qz]
    refine rg_nil ?_
    refine ek_rt (sk _ (sc _ (sc _ sn))) ?_
    refine rt_hard1 (i := 13) Kx rfl ?_
    refine rf_storeR (n := 5) rfl rfl Kx rfl rfl (UpdR.here _ _ _ Nl) (fun _ h => by cases h; exact (sk _ (sc _ (sc _ sn)))) ?_
    simp only [qz, Nat.reduceAdd]
    refine rg_nil ?_
    refine ek_rt (sk _ (sc _ (sc _ sn))) ?_
    refine rt_soft (i := 14) rfl Kx (fun c d v a w h => by cases d <;> exact h) (sk _ (sc _ (sc _ sn))) ?_
    refine rg_assign ?_
    simp only [qz]
    refine rg_nil ?_
    refine ek_rt (sk _ (sc _ (sc _ sn))) ?_
    refine rt_nil Kx ?_
    refine ek_next (wk_seq (wk_seq ?_))
    refine wk_region [0, 0] rfl Kx ?_
    simp only [qy]
    refine rg_move ?_
    simp only [qz]
    refine rf_neq (b := true) rfl rfl rfl rfl (by decide) ?_
    simp only [qz]
    refine rg_nil (ek_next (wk_cond_t rfl (wk_seq ?_)))
    refine wk_region [0, 0, 1, 0] rfl Kx ?_
    simp only [qy]
    refine rf_build (cs := fun a => #[.int .i64 0, .int .i64 0, .int .i64 0, .int .i64 0, .int .i64 0]) rfl rfl Kx ?_
    simp only [qz]
    refine rg_move ?_
    simp only [qz]
    refine rf_storeR (n := 5) rfl rfl Kx rfl rfl (UpdR.there _ (UpdR.there _ (UpdR.here _ _ _ Nl))) Nz ?_
    simp only [qz, Nat.reduceAdd]
    refine rg_assign ?_
    simp only [qz]
    refine rg_nil (ek_next (wk_ret (ek_then_ret (ek_block_ret (ek_then_ret (ek_then_ret (ek_block_ret (ek_then_ret ?_))))))))
    refine ek_ret (fun w hw => ⟨rfl, _, run_results2 rfl rfl (Kn.hd0 (Kn.tl (Kn.tl hw))) Try.underlying29 rfl Kx, ?_⟩)
    (try simp only [qz])
    exact ⟨by rw [prodsR_err (k := k + 1) (c := 4) (by simp only [prodsR, hd2.out, hr4]) xs.length Ox]; rfl, hw.below⟩
  intro z4 hr4
  simp only [qz]
  refine rg_nil ?_
  refine ek_rt (sk _ (sc _ (sc _ sn))) ?_
  refine rt_soft (i := 9) rfl Kx (fun c d v a w h => by cases d <;> exact h) (sk _ (sc _ (sc _ sn))) ?_
  refine rg_move ?_
  simp only [qz]
  refine rg_nil ?_
  refine ek_rt (sk _ (sc _ (sc _ sn))) ?_
  refine rt_soft (i := 10) rfl Kx (fun c d v a w h => by cases d <;> exact h) (sk _ (sc _ (sc _ sn))) ?_
  refine rf_extract rfl rfl rfl rfl ?_
  simp only [qz]
  refine rg_nil ?_
  refine ek_rt (sk _ (sc _ (sc _ sn))) ?_
  refine rt_soft (i := 11) rfl Kx (fun c d v a w h => by cases d <;> exact h) (sk _ (sc _ (sc _ sn))) ?_
  refine rf_extract rfl rfl rfl rfl ?_
  simp only [qz]
  refine rg_nil ?_
  refine ek_rt (sk _ (sc _ (sc _ sn))) ?_
  refine rt_hard1 (i := 13) Kx rfl ?_
  refine rf_storeR (n := 5) rfl rfl Kx rfl rfl (UpdR.here _ _ _ Nl) (fun _ h => by cases h; exact (sk _ (sc _ (sc _ sn)))) ?_
  simp only [qz, Nat.reduceAdd]
  refine rg_nil ?_
  refine ek_rt (sk _ (sc _ (sc _ sn))) ?_
  refine rt_soft (i := 14) rfl Kx (fun c d v a w h => by cases d <;> exact h) (sk _ (sc _ (sc _ sn))) ?_
  refine rg_assign ?_
  simp only [qz]
  refine rg_nil ?_
  refine ek_rt (sk _ (sc _ (sc _ sn))) ?_
  refine rt_nil Kx ?_
  refine ek_next (wk_seq (wk_seq ?_))
  refine wk_region [0, 0] rfl Kx ?_
  simp only [qy]
  refine rg_move ?_
  simp only [qz]
  refine rf_neq (b := false) rfl rfl rfl rfl (by decide) ?_
  simp only [qz]
  refine rg_nil (ek_next (wk_cond_f rfl (wk_skip (ek_next (wk_seq ?_)))))
  refine wk_region [0, 0, 1, 0, 0, 0, 1, 0] rfl Kx ?_
  simp only [qy]
  refine rf_loadR (n := 5) rfl rfl rfl Try.underlying29 rfl Kx (fun w hw => Kn.hd0 (Kn.tl hw)) rfl rfl ?_
  simp only [qz]
  refine rf_loadR (n := 5) rfl rfl rfl Try.underlying29 rfl Kx (fun w hw => Kn.hd0 hw) rfl rfl ?_
  simp only [qz]
  have hpk := (mk_ok (mulR_k hxk.k0 hyk.k0) hr4).1
  apply rg_num Rx Kx
  case hargs => exact Ax
  case h => exact fun w hw => rPlus_ok ac z4 hd3 hpk w
  case hz => exact Nz
  case hc => exact (fun c h => mk_err h)
  · intro hr5
    simp only [qz]
    refine rg_move ?_
    simp only [qz]
    refine rf_extract rfl rfl rfl rfl ?_
    simp only [qz]
    refine rf_extract rfl rfl rfl rfl ?_
    simp only [qz]
    refine rf_storeR (n := 5) rfl rfl Kx rfl rfl (UpdR.there _ (UpdR.here _ _ _ Nl)) Nz ?_
    simp only [qz, Nat.reduceAdd]
    refine rg_assign ?_
    simp only [qz]
    refine rg_nil (ek_next (wk_seq ?_))
    refine wk_region [0, 0] rfl Kx ?_
    simp only [qy]
    refine rg_move ?_
    simp only [qz]
    refine rf_neq (b := true) rfl rfl rfl rfl (by decide) ?_
    simp only [qz]
    refine rg_nil (ek_next (wk_cond_t rfl (wk_seq ?_)))
    refine wk_region [0, 0, 1, 0] rfl Kx ?_
    simp only [qy]
    refine rf_build (cs := fun a => #[.int .i64 0, .int .i64 0, .int .i64 0, .int .i64 0, .int .i64 0]) rfl rfl Kx ?_
    simp only [qz]
    refine rg_move ?_
    simp only [qz]
    refine rf_storeR (n := 5) rfl rfl Kx rfl rfl (UpdR.there _ (UpdR.there _ (UpdR.here _ _ _ Nl))) Nz ?_
    simp only [qz, Nat.reduceAdd]
    refine rg_assign ?_
    simp only [qz]
    refine rg_nil (ek_next (wk_ret (ek_block_ret (ek_then_ret (ek_then_ret (ek_block_ret (ek_then_ret ?_)))))))
    refine ek_ret (fun w hw => ⟨rfl, _, run_results2 rfl rfl (Kn.hd0 (Kn.tl (Kn.tl hw))) Try.underlying29 rfl Kx, ?_⟩)
    (try simp only [qz])
    exact ⟨by rw [prodsR_err (k := k + 1) (c := 4) (by simp only [prodsR, hd2.out, hr4, hr5]) xs.length Ox]; rfl, hw.below⟩
  intro z5 hr5
  simp only [qz]
  refine rg_move ?_
  simp only [qz]
  refine rf_extract rfl rfl rfl rfl ?_
  simp only [qz]
  refine rf_extract rfl rfl rfl rfl ?_
  simp only [qz]
  refine rf_storeR (n := 5) rfl rfl Kx rfl rfl (UpdR.there _ (UpdR.here _ _ _ Nl)) Nz ?_
  simp only [qz, Nat.reduceAdd]
  refine rg_assign ?_
  simp only [qz]
  refine rg_nil (ek_next (wk_seq ?_))
  refine wk_region [0, 0] rfl Kx ?_
  simp only [qy]
  refine rg_move ?_
  simp only [qz]
  refine rf_neq (b := false) rfl rfl rfl rfl (by decide) ?_
  simp only [qz]
  refine rg_nil (ek_next (wk_cond_f rfl (wk_skip (ek_block (ek_next ?_)))))
  refine wk_region [0, 0, 0] rfl Kx ?_
  simp only [qy]
  refine rg_move ?_
  simp only [qz]
  refine rf_add rfl rfl rfl rfl (wrap_ok Ox Ox) ?_
  simp only [qz]
  refine rg_assign ?_
  simp only [qz]
  refine rg_nil ?_
  refine ek_sub (sk _ (sc _ (sc _ sn))) ?_
  refine ek_roundF (xs.length - (k + 1)) Ox Kx ?_
  exact ⟨k + 1, z5, rfl, by rfl, by rfl, Ox, (Lib.hid (by simp only [prodsR, hd2.out, hr4, hr5])), (mk_ok (addR_k hd3.k0) hr5).1⟩

set_option maxRecDepth 100000 in
set_option maxHeartbeats 1000000 in
theorem rrow_any (xs : List Nm) (b off : Nat) (c : Nat) (N i : Nat) (hN : N ≤ 6) (hlx : xs.length = N * N) (hi : i < N) (hc : xs.length ≤ c) (w : World) : Calls Try.prog 65 #[.agg #[.int .i64 N, .slice (some ⟨b, off, none⟩) xs.length c], .int .i64 (i : Int)] w fun e w' => e = .returned (.slice (some ⟨b, off + i * N * 5, none⟩) N (c - i * N)) ∧ Below w.heap.size w w' := by
  have hii := Nat.mul_le_mul (show i + 1 ≤ N by omega) (Nat.le_refl N)
  have h36 := Nat.mul_le_mul hN hN
  have e1 : (i + 1) * N = i * N + N := by rw [Nat.add_mul, Nat.one_mul]
  go_enter Try.func65, Try.ntmps65
  refine wk_start ?_
  refine wk_seq ?_
  refine wk_region [1, 0] rfl Kx ?_
  simp only [qy]
  refine Rgn fun g1 => ?_
  simp only [qz]
  refine rg_assign ?_
  simp only [qz]
  refine rg_nil (ek_next (wk_seq ?_))
  refine wk_region [0, 0, 0, 0, 0, 0, 0, 0, 0, 0, 0, 0, 0] rfl Kx ?_
  simp only [qy]
  refine rf_field (n := 0) (j := 1) rfl rfl rfl Try.underlying24 rfl Kx rfl ?_
  simp only [qz]
  refine rf_load rfl rfl rfl Try.underlying22 rfl (fun w hw => (Kn.hd0 hw).at rfl) ?_
  simp only [qz]
  refine rg_move ?_
  simp only [qz]
  refine rf_field (n := 0) (j := 0) rfl rfl rfl Try.underlying24 rfl Kx rfl ?_
  simp only [qz]
  refine rf_load rfl rfl rfl Try.underlying3 rfl (fun w hw => (Kn.hd0 hw).at rfl) ?_
  simp only [qz]
  refine rf_mul (r := ((i * N : Nat) : Int)) rfl rfl rfl rfl (wrap_eqB (Int.natCast_mul i N).symm Ox Ox) ?_
  simp only [qz]
  refine rg_move ?_
  simp only [qz]
  refine rf_add rfl rfl rfl rfl (wrap_ok Ox Ox) ?_
  simp only [qz]
  refine rf_field (n := 0) (j := 0) rfl rfl rfl Try.underlying24 rfl Kx rfl ?_
  simp only [qz]
  refine rf_load rfl rfl rfl Try.underlying3 rfl (fun w hw => (Kn.hd0 hw).at rfl) ?_
  simp only [qz]
  refine rf_mul (r := ((i * N + N : Nat) : Int)) rfl rfl rfl rfl (wrap_eqB (by rw [← e1, Int.natCast_mul, Int.natCast_add]; rfl) Ox Ox) ?_
  simp only [qz]
  refine rf_sliceLH (lo := i * N) (hi := i * N + N) (n := N) (sz := 5) rfl rfl rfl rfl rfl Try.underlying22 Kx rfl rfl rfl Ox Ox ?_
  simp only [qz]
  refine rg_assign ?_
  simp only [qz]
  refine rg_nil (ek_next (wk_ret ?_))
  refine ek_ret (fun w hw => ⟨rfl, _, res_t _ rfl, ?_⟩)
  (try simp only [qz])
  first | exact ⟨rfl, hw.below⟩ | exact ⟨trivial, hw.below⟩ | exact hw.below

end Go.Proofs.Ytjeijnjaleldkaa
namespace Go.Proofs.Ytjeijnjaleldkaa
set_option linter.all false
open Go.RowKit

set_option maxRecDepth 100000 in
set_option maxHeartbeats 1000000 in
theorem rpower_ok (z : Nm) (hz : z.Ok) (w : World) : Calls Try.prog 89 #[nmV z] w fun e w' => e = .returned (numV z.power) ∧ Below w.heap.size w w' := by
  go_enter Try.func89, Try.ntmps89
  refine wk_start ?_
  refine wk_seq ?_
  refine wk_region [1, 1, 0] rfl Kx ?_
  simp only [qy]
  refine Rgn fun g1 => ?_
  simp only [qz]
  refine Rgn fun g2 => ?_
  simp only [qz]
  refine rg_assign ?_
  simp only [qz]
  refine rg_nil (ek_next (wk_seq ?_))
  refine wk_draws_m (hz1 := (sk _ (sc _ sn))) [(0, 0), (1, 0), (2, 1), (3, 1), (4, 0), (5, 0), (6, 2), (7, 0)] 6 Kx Kx (fun c d v a w h => by cases d <;> exact h) ?_
  simp only [List.map_cons, List.map_nil, List.getD_cons_zero, List.getD_cons_succ]
  refine rf_loadR (n := 5) rfl rfl rfl Try.underlying29 rfl Kx (fun w hw => Kn.hd0 (Kn.tl hw)) rfl rfl ?_
  simp only [qz]
  refine rf_loadR (n := 5) rfl rfl rfl Try.underlying29 rfl Kx (fun w hw => Kn.hd0 (Kn.tl hw)) rfl rfl ?_
  simp only [qz]
  apply rg_pure Rx Kx
  case hargs => exact Ax
  case h => exact fun w hw => rConj_any z (Nm.fit_mono hz.fit (by decide)) w
  case hz => exact (fun _ h => by cases h; exact (sc _ (sc _ sn)))
  simp only [qz]
  apply rg_pure Rx Kx
  case hargs => exact Ax
  case h => exact fun w hw => rTimes_ok z z.conj hz (conj_ok hz) w
  case hz => exact (fun _ h => by cases h; exact (sc _ (sc _ sn)))
  simp only [qz]
  obtain ⟨v, e, hve⟩ := numV_ve2 (z.mul z.conj)
  rw [hve]
  replace hve := Lib.hid hve
  refine rf_extract rfl rfl rfl rfl ?_
  simp only [qz]
  refine rf_extract rfl rfl rfl rfl ?_
  simp only [qz]
  refine rf_storeRM (n := 5) rfl rfl Kx rfl rfl (UpdR.here _ _ _ Nl) (sk _ (sc _ sn)) ?_
  simp only [qz, Nat.reduceAdd]
  refine rg_assign ?_
  simp only [qz]
  refine rg_nil (ek_next (wk_ret ?_))
  refine ek_ret (fun w hw => ⟨rfl, _, run_results2 rfl rfl (Kn.hd0 hw) Try.underlying29 rfl Kx, ?_⟩)
  (try simp only [qz])
  exact ⟨(congrArg Ending.returned hve.out).symm, hw.below⟩

end Go.Proofs.Ytjeijnjaleldkaa
namespace Go.Proofs.Ytjeijnjaleldkaa
set_option linter.all false
open Go.RowKit

/-- A vector. -/
def vecB (vs : List Nm) : Bool := decide (1 ≤ vs.length) && (decide (vs.length ≤ 6) && allOk vs)
theorem vecB_y {vs : List Nm} (h : vecB vs = true) : 1 ≤ vs.length ∧ vs.length ≤ 6 ∧ allOk vs = true := by
  simpa [vecB] using h
/-- A call that hands back a list of numbers and an error. -/
def RetV (w : World) (zs : List Nm) (cc : Int) (e : Ending) (w' : World) : Prop := ∃ v u, e = .returned (.tuple #[v, .int .i64 cc]) ∧ OwnN u v zs ∧ Made w u w'
section
variable {R : Option Nat} {ops : Array Oper} {Q : Exit → Act → World → Prop} {B : World} {F : List Nat} {s0 : Option (List Blk × List Blk)}
variable {l : List (Oper × Nat)} {a : Act} {s S : List Blk} {d : Option Tmp} {op : Op} {t : TypeId} {p : String} {af : Array Edge} {v : Value}
theorem rg_retV {f : Nat} {cargs : Array Operand} {at_ : Array TypeId} {args : Array Value} {zs : List Nm} {cc : Int} {P : Program} {gd : Option (Nat × Bool)} (hg : Region.wanted ⟨d, .call ⟨.value (.func f), cargs, at_⟩, t, p, af, gd⟩ (yielded ops a.tmps) = true) (hgo : isGo P f = true)
    (h : ∀ w, Kn B F s w → Calls P f args w (RetV w zs cc)) (hargs : cargs.map a.eval = args)
    (hz : ∀ z ∈ s0, z.1.Sublist s) (k : ∀ (va : Option Addr) (vc : Nat) (u : List Blk), OwnN u (.slice va zs.length vc) zs → Rg R P ops Q B F s0 l (a.put d (.tuple #[.slice va zs.length vc, .int .i64 cc])) (u ++ s)) :
    Rg R P ops Q B F s0 ((⟨d, .call ⟨.value (.func f), cargs, at_⟩, t, p, af, gd⟩, 1) :: l) a s :=
  rg_call hg hgo hargs fun w K => (h w K).mono fun e w' ⟨v, u, he, hO, hm⟩ => by
    obtain ⟨a', c', rfl, -⟩ := Own.val hO
    exact ⟨_, u ++ s, he, K.add hm, fun z hz' => (hz z hz').trans (List.sublist_append_right _ _), k a' c' u hO⟩
end
theorem retV_err {w w' : World} {c : Int} {r : LR} (h : r = .error c) (hb : Below w.heap.size w w') : RetV w (rL r) (rC r) (.returned (.tuple #[.slice none 0 0, .int .i64 c])) w' := by
  subst h
  exact ⟨.slice none 0 0, [], rfl, OwnG.nil, .nil hb⟩
/-- A matrix and a vector. -/
def appR (N : Nat) (xs vs : List Nm) (i : Nat) : NR := prodsR (fun j => nm xs (i * N + j)) (nm vs) N
def appM (n : Int) (xs vs : List Nm) : LR := if validB n xs && vecB vs then (if n = vs.length then gather (appR n.toNat xs vs) n.toNat else .error 21) else .error 20
/-- The length of a vector. -/
def lenM (vs : List Nm) : NR := if vecB vs then lenR (nm vs) vs.length else .error 20
theorem lenR_code {x : Nat → Nm} : ∀ {n : Nat} {c : Int}, lenR x n = .error c → c = 4
  | 0, c, h => by cases h
  | n + 1, c, h => by
    simp only [lenR] at h
    split at h
    · next h' => injection h with h; subst h; exact lenR_code h'
    · split at h
      · next h' => injection h with h; subst h; exact mk_err h'
      · exact mk_err h
set_option maxRecDepth 100000 in
set_option maxHeartbeats 1000000 in
theorem mvector_any (vs : List Nm) (a' : Option Addr) (c' : Nat) (hl' : vs.length ≤ 1000000) (w : World) (hB : AS w a' (nms vs)) : Calls Try.prog 102 #[.slice a' vs.length c'] w fun e w' => e = .returned (.bool (vecB vs)) ∧ Below w.heap.size w w' := by
  go_enter Try.func102, Try.ntmps102
  refine wk_start ?_
  refine wk_seq ?_
  refine wk_region [0] rfl Kx ?_
  simp only [qy]
  refine rg_assign ?_
  simp only [qz]
  refine rg_nil (ek_next (wk_seq ?_))
  refine wk_region [0, 0, 0, 0, 0, 0, 0, 0, 0, 0, 1, 0, 0] rfl Kx ?_
  simp only [qy]
  refine rg_move ?_
  simp only [qz]
  refine rf_len rfl rfl rfl Try.underlying22 ?_
  simp only [qz]
  refine rfb_geq rfl rfl rfl rfl ?_
  intro x h1
  cases x
  · (try simp only [qd, ne_eq] at h1)
    simp only [qz]
    refine rg_move ?_
    simp only [qz]
    refine rg_skip Rx ?_
    simp only [qz]
    refine rg_skip Rx ?_
    simp only [qz]
    refine rg_skip Rx ?_
    simp only [qz]
    refine rf_pick rfl rfl rfl ?_
    simp only [qz]
    refine rg_move ?_
    simp only [qz]
    refine rg_skip Rx ?_
    simp only [qz]
    refine rg_skip_h Rx Nz ?_
    simp only [qz]
    refine rf_pick rfl rfl rfl ?_
    simp only [qz]
    refine rg_assign ?_
    simp only [qz]
    refine rg_nil (ek_next (wk_ret ?_))
    refine ek_ret (fun w hw => ⟨rfl, _, res_t _ rfl, ?_⟩)
    (try simp only [qz])
    exact ⟨by (unfold vecB; first | (rw [decide_eq_true (show 1 ≤ vs.length by omega), decide_eq_true (show vs.length ≤ 6 by omega)]; rfl) | (rw [decide_eq_false (show ¬ 1 ≤ vs.length by omega)]; rfl) | (rw [decide_eq_false (show ¬ vs.length ≤ 6 by omega), Bool.false_and, Bool.and_false])), hw.below⟩
  (try simp only [qd, ne_eq] at h1)
  simp only [qz]
  refine rg_move ?_
  simp only [qz]
  apply rg_soft_g
  case hg => rfl
  case hy => (intro w hw; go_simp; (try go_bits); exact Yld.mk _ _)
  simp only [qz]
  refine rf_len rfl rfl rfl Try.underlying22 ?_
  simp only [qz]
  refine rfb_leq rfl rfl rfl rfl ?_
  intro x h2
  cases x
  · (try simp only [qd, ne_eq] at h2)
    simp only [qz]
    refine rf_pick rfl rfl rfl ?_
    simp only [qz]
    refine rg_move ?_
    simp only [qz]
    refine rg_skip Rx ?_
    simp only [qz]
    refine rg_skip_h Rx Nz ?_
    simp only [qz]
    refine rf_pick rfl rfl rfl ?_
    simp only [qz]
    refine rg_assign ?_
    simp only [qz]
    refine rg_nil (ek_next (wk_ret ?_))
    refine ek_ret (fun w hw => ⟨rfl, _, res_t _ rfl, ?_⟩)
    (try simp only [qz])
    exact ⟨by (unfold vecB; first | (rw [decide_eq_true (show 1 ≤ vs.length by omega), decide_eq_true (show vs.length ≤ 6 by omega)]; rfl) | (rw [decide_eq_false (show ¬ 1 ≤ vs.length by omega)]; rfl) | (rw [decide_eq_false (show ¬ vs.length ≤ 6 by omega), Bool.false_and, Bool.and_false])), hw.below⟩
  (try simp only [qd, ne_eq] at h2)
  simp only [qz]
  refine rf_pick rfl rfl rfl ?_
  simp only [qz]
  refine rg_move ?_
  simp only [qz]
  apply rg_soft_g
  case hg => rfl
  case hy => (intro w hw; go_simp; (try go_bits); exact Yld.mk _ _)
  simp only [qz]
  apply rg_pure Rx Kx
  case hargs => exact Ax
  case h => exact fun w hw => numbers_any vs a' c' hl' w (hB.kn0 hw)
  case hz => exact Nz
  simp only [qz]
  refine rf_pick rfl rfl rfl ?_
  simp only [qz]
  refine rg_assign ?_
  simp only [qz]
  refine rg_nil (ek_next (wk_ret ?_))
  refine ek_ret (fun w hw => ⟨rfl, _, res_t _ rfl, ?_⟩)
  (try simp only [qz])
  exact ⟨by (unfold vecB; first | (rw [decide_eq_true (show 1 ≤ vs.length by omega), decide_eq_true (show vs.length ≤ 6 by omega)]; rfl) | (rw [decide_eq_false (show ¬ 1 ≤ vs.length by omega)]; rfl) | (rw [decide_eq_false (show ¬ vs.length ≤ 6 by omega), Bool.false_and, Bool.and_false])), hw.below⟩

theorem power_ok {z p : Nm} (hz : z.Ok) (h : z.power = .ok p) : p.Ok := (mk_ok (mulR_k hz.k0 (conj_ok hz).k0) h).1
set_option maxRecDepth 100000 in
set_option maxHeartbeats 1000000 in
theorem mlength_any (vs : List Nm) (a' : Option Addr) (c' : Nat) (hl' : vs.length ≤ 1000000) (w : World) (hB : AS w a' (nms vs)) : Calls Try.prog 54 #[.slice a' vs.length c'] w fun e w' => e = .returned (numV (lenM vs)) ∧ Below w.heap.size w w' := by
  go_enter Try.func54, Try.ntmps54
  refine wk_start ?_
  refine wk_seq ?_
  refine wk_region [1, 0] rfl Kx ?_
  simp only [qy]
  refine Rgn fun g1 => ?_
  simp only [qz]
  refine rg_assign ?_
  simp only [qz]
  refine rg_nil (ek_next (wk_seq (wk_seq ?_)))
  refine wk_region [0, 1, 0] rfl Kx ?_
  simp only [qy]
  refine rg_move ?_
  simp only [qz]
  apply rg_pureb Rx Kx
  case hargs => exact Ax
  case h => exact fun w hw => mvector_any vs a' c' hl' w (hB.kn0 hw)
  case hz => exact Nz
  intro x h1
  cases x
  · (try simp only [qd, ne_eq] at h1)
    simp only [qz]
    refine rf_not rfl rfl rfl ?_
    simp only [qz]
    refine rg_nil (ek_next (wk_cond_t rfl (wk_seq ?_)))
    refine wk_region [0, 1, 0] rfl Kx ?_
    simp only [qy]
    refine rf_build (cs := fun a => #[.int .i64 0, .int .i64 0, .int .i64 0, .int .i64 0, .int .i64 0]) rfl rfl Kx ?_
    simp only [qz]
    refine rf_storeR (n := 5) rfl rfl Kx rfl rfl (UpdR.here _ _ _ Nl) Nz ?_
    simp only [qz, Nat.reduceAdd]
    refine rg_assign ?_
    simp only [qz]
    refine rg_nil (ek_next (wk_ret (ek_then_ret ?_)))
    refine ek_ret (fun w hw => ⟨rfl, _, run_results2 rfl rfl (Kn.hd0 hw) Try.underlying29 rfl Kx, ?_⟩)
    (try simp only [qz])
    exact ⟨by unfold lenM; rw [h1]; rfl, hw.below⟩
  (try simp only [qd, ne_eq] at h1)
  simp only [qz]
  have hv := h1
  obtain ⟨hv1, hv6, hvo⟩ := vecB_y hv
  have hcp : lenM vs = lenR (nm vs) vs.length := by (unfold lenM; rw [hv, if_pos rfl])
  replace hcp := Lib.hid hcp
  refine rf_not rfl rfl rfl ?_
  simp only [qz]
  refine rg_nil (ek_next (wk_cond_f rfl (wk_skip (ek_next (wk_seq ?_)))))
  refine wk_region [1] rfl Kx ?_
  simp only [qy]
  refine Rgn fun g2 => ?_
  simp only [qz]
  refine rg_nil (ek_next (wk_seq (wk_seq ?_)))
  refine wk_region [0, 0, 0] rfl Kx ?_
  simp only [qy]
  refine rg_move ?_
  simp only [qz]
  refine rf_len rfl rfl rfl Try.underlying22 ?_
  simp only [qz]
  refine rg_move ?_
  simp only [qz]
  refine rg_nil (ek_next (wk_block ?_))
  refine wk_loopF [3, 6, 7, 8, 15, 16, 17, 18, 19, 20, 21, 22, 23, 24, 25, 26, 27, 28, 29, 30, 31, 32, 33, 34, 35, 36, 37, 38] (fun mz f s => ∃ (k : Nat) (ac : Nm), f 15 = .int .i64 k ∧ s = ((g2, .cells #[.int .i64 ac.a, .int .i64 ac.b, .int .i64 ac.c, .int .i64 ac.d, .int .i64 ac.k] 29) :: ((g1, .cells #[.int .i64 0, .int .i64 0, .int .i64 0, .int .i64 0, .int .i64 0] 29) :: [])) ∧ mz = vs.length - k ∧ k ≤ vs.length ∧ Hid (lenR (nm vs) k = .ok ac) ∧ ac.Ok) ((fun (k : Nat) (ac : Nm) => vs.length - k) (0) (Nm.zero)) ?_ Kx ?_
  · exact ⟨0, Nm.zero, rfl, rfl, rfl, by omega, (Lib.hid rfl), zero_ok⟩
  rintro mz f1 s ⟨k, ac, hs1_15, rfl, hn, hd1, hd2, hd3⟩
  simp only [Act.putF, List.foldl_cons, List.foldl_nil, hs1_15, Act.put, Act.eval, q1, q2, q3, q4, q5, q6, q7, q8, q9, q10, q11, q12, q13, q14, q15, q16, q17, q18, Nat.reduceAdd, Bool.not_true, Bool.not_false]
  clear hs1_15
  refine wk_seq ?_
  refine wk_region [0] rfl Kx ?_
  simp only [qy]
  refine rfb_lss rfl rfl rfl rfl ?_
  intro x h2
  cases x
  · (try simp only [qd, ne_eq] at h2)
    simp only [qz]
    refine rg_nil (ek_next (wk_seq (wk_cond_f rfl (wk_exit (ek_then_exit (ek_then_exit (ek_block_exit (ek_next (wk_seq ?_)))))))))
    refine wk_region [0, 1, 0] rfl Kx ?_
    simp only [qy]
    refine rf_loadR (n := 5) rfl rfl rfl Try.underlying29 rfl Kx (fun w hw => Kn.hd0 hw) rfl rfl ?_
    simp only [qz]
    refine rf_storeR (n := 5) rfl rfl Kx rfl rfl (UpdR.there _ (UpdR.here _ _ _ Nl)) Nz ?_
    simp only [qz, Nat.reduceAdd]
    refine rg_assign ?_
    simp only [qz]
    refine rg_nil (ek_next (wk_ret ?_))
    refine ek_ret (fun w hw => ⟨rfl, _, run_results2 rfl rfl (Kn.hd0 (Kn.tl hw)) Try.underlying29 rfl Kx, ?_⟩)
    (try simp only [qz])
    obtain rfl : k = vs.length := by omega
    exact ⟨by rw [hcp.out, hd2.out]; rfl, hw.below⟩
  (try simp only [qd, ne_eq] at h2)
  simp only [qz]
  refine rg_nil (ek_next (wk_seq (wk_cond_t rfl (wk_skip (ek_next (wk_seq (wk_block (wk_seq ?_))))))))
  obtain ⟨b', off', ha', hlt', hcell'⟩ := AS.openN hB Ox
  subst ha'
  have hvk := ok_at hvo (show k < vs.length by omega)
  refine wk_region [0, 0, 1, 1] rfl Kx ?_
  simp only [qy]
  refine rf_indexS (n := k) (sz := 5) (j := off' + k * 5) rfl rfl rfl rfl Try.underlying22 Kx Ox Ox rfl ?_
  simp only [qz]
  refine rf_loadC (n := 5) (vs := [.int .i64 (nm vs k).a, .int .i64 (nm vs k).b, .int .i64 (nm vs k).c, .int .i64 (nm vs k).d, .int .i64 (nm vs k).k]) rfl rfl rfl Try.underlying29 rfl Kx rfl (fun w hw => atN_range ((hcell' k Ox).kn hw hlt' (by simp))) ?_
  simp only [qz]
  refine Rgn fun g3 => ?_
  simp only [qz]
  refine rf_storeR (n := 5) rfl rfl Kx rfl rfl (UpdR.here _ _ _ Nl) Nz ?_
  simp only [qz, Nat.reduceAdd]
  refine rg_nil (ek_next (wk_seq ?_))
  refine wk_region [0, 1, 0, 0, 0, 1, 1, 0] rfl Kx ?_
  simp only [qy]
  refine rf_loadR (n := 5) rfl rfl rfl Try.underlying29 rfl Kx (fun w hw => Kn.hd0 hw) rfl rfl ?_
  simp only [qz]
  apply rg_num Rx Kx
  case hargs => exact Ax
  case h => exact fun w hw => amPower_ok (nm vs k) hvk w
  case hz => exact Nz
  case hc => exact (fun c h => mk_err h)
  · intro hr3
    simp only [qz]
    refine rg_move ?_
    simp only [qz]
    refine rf_extract rfl rfl rfl rfl ?_
    simp only [qz]
    refine rf_extract rfl rfl rfl rfl ?_
    simp only [qz]
    refine Rgn fun g4 => ?_
    simp only [qz]
    refine rf_storeR (n := 5) rfl rfl Kx rfl rfl (UpdR.here _ _ _ Nl) Nz ?_
    simp only [qz, Nat.reduceAdd]
    refine rg_assign ?_
    simp only [qz]
    refine rg_nil (ek_next (wk_seq (wk_seq ?_)))
    refine wk_region [0, 0] rfl Kx ?_
    simp only [qy]
    refine rg_move ?_
    simp only [qz]
    refine rf_neq (b := true) rfl rfl rfl rfl (by decide) ?_
    simp only [qz]
    refine rg_nil (ek_next (wk_cond_t rfl (wk_seq ?_)))
    refine wk_region [0, 0, 1, 0] rfl Kx ?_
    simp only [qy]
    refine rf_build (cs := fun a => #[.int .i64 0, .int .i64 0, .int .i64 0, .int .i64 0, .int .i64 0]) rfl rfl Kx ?_
    simp only [qz]
    refine rg_move ?_
    simp only [qz]
    refine rf_storeR (n := 5) rfl rfl Kx rfl rfl (UpdR.there _ (UpdR.there _ (UpdR.there _ (UpdR.here _ _ _ Nl)))) Nz ?_
    simp only [qz, Nat.reduceAdd]
    refine rg_assign ?_
    simp only [qz]
    refine rg_nil (ek_next (wk_ret (ek_then_ret (ek_block_ret (ek_then_ret (ek_then_ret (ek_block_ret (ek_then_ret ?_))))))))
    refine ek_ret (fun w hw => ⟨rfl, _, run_results2 rfl rfl (Kn.hd0 (Kn.tl (Kn.tl (Kn.tl hw)))) Try.underlying29 rfl Kx, ?_⟩)
    (try simp only [qz])
    exact ⟨by rw [hcp.out, lenR_err (k := k + 1) (c := 4) (by simp only [lenR, hd2.out, hr3]) vs.length Ox]; rfl, hw.below⟩
  intro z3 hr3
  simp only [qz]
  refine rg_move ?_
  simp only [qz]
  refine rf_extract rfl rfl rfl rfl ?_
  simp only [qz]
  refine rf_extract rfl rfl rfl rfl ?_
  simp only [qz]
  refine Rgn fun g5 => ?_
  simp only [qz]
  refine rf_storeR (n := 5) rfl rfl Kx rfl rfl (UpdR.here _ _ _ Nl) Nz ?_
  simp only [qz, Nat.reduceAdd]
  refine rg_assign ?_
  simp only [qz]
  refine rg_nil (ek_next (wk_seq (wk_seq ?_)))
  refine wk_region [0, 0] rfl Kx ?_
  simp only [qy]
  refine rg_move ?_
  simp only [qz]
  refine rf_neq (b := false) rfl rfl rfl rfl (by decide) ?_
  simp only [qz]
  refine rg_nil (ek_next (wk_cond_f rfl (wk_skip (ek_next (wk_seq ?_)))))
  refine wk_region [0, 0, 1, 0, 0, 0, 1, 0] rfl Kx ?_
  simp only [qy]
  refine rf_loadR (n := 5) rfl rfl rfl Try.underlying29 rfl Kx (fun w hw => Kn.hd0 (Kn.tl (Kn.tl hw))) rfl rfl ?_
  simp only [qz]
  refine rf_loadR (n := 5) rfl rfl rfl Try.underlying29 rfl Kx (fun w hw => Kn.hd0 hw) rfl rfl ?_
  simp only [qz]
  have hpk := power_ok hvk hr3
  apply rg_num Rx Kx
  case hargs => exact Ax
  case h => exact fun w hw => amAdd_ok ac z3 hd3 hpk w
  case hz => exact Nz
  case hc => exact (fun c h => mk_err h)
  · intro hr4
    simp only [qz]
    refine rg_move ?_
    simp only [qz]
    refine rf_extract rfl rfl rfl rfl ?_
    simp only [qz]
    refine rf_extract rfl rfl rfl rfl ?_
    simp only [qz]
    refine rf_storeR (n := 5) rfl rfl Kx rfl rfl (UpdR.there _ (UpdR.there _ (UpdR.here _ _ _ Nl))) Nz ?_
    simp only [qz, Nat.reduceAdd]
    refine rg_assign ?_
    simp only [qz]
    refine rg_nil (ek_next (wk_seq ?_))
    refine wk_region [0, 0] rfl Kx ?_
    simp only [qy]
    refine rg_move ?_
    simp only [qz]
    refine rf_neq (b := true) rfl rfl rfl rfl (by decide) ?_
    simp only [qz]
    refine rg_nil (ek_next (wk_cond_t rfl (wk_seq ?_)))
    refine wk_region [0, 0, 1, 0] rfl Kx ?_
    simp only [qy]
    refine rf_build (cs := fun a => #[.int .i64 0, .int .i64 0, .int .i64 0, .int .i64 0, .int .i64 0]) rfl rfl Kx ?_
    simp only [qz]
    refine rg_move ?_
    simp only [qz]
    refine rf_storeR (n := 5) rfl rfl Kx rfl rfl (UpdR.there _ (UpdR.there _ (UpdR.there _ (UpdR.here _ _ _ Nl)))) Nz ?_
    simp only [qz, Nat.reduceAdd]
    refine rg_assign ?_
    simp only [qz]
    refine rg_nil (ek_next (wk_ret (ek_block_ret (ek_then_ret (ek_then_ret (ek_block_ret (ek_then_ret ?_)))))))
    refine ek_ret (fun w hw => ⟨rfl, _, run_results2 rfl rfl (Kn.hd0 (Kn.tl (Kn.tl (Kn.tl hw)))) Try.underlying29 rfl Kx, ?_⟩)
    (try simp only [qz])
    exact ⟨by rw [hcp.out, lenR_err (k := k + 1) (c := 4) (by simp only [lenR, hd2.out, hr3, hr4]) vs.length Ox]; rfl, hw.below⟩
  intro z4 hr4
  simp only [qz]
  refine rg_move ?_
  simp only [qz]
  refine rf_extract rfl rfl rfl rfl ?_
  simp only [qz]
  refine rf_extract rfl rfl rfl rfl ?_
  simp only [qz]
  refine rf_storeR (n := 5) rfl rfl Kx rfl rfl (UpdR.there _ (UpdR.there _ (UpdR.here _ _ _ Nl))) Nz ?_
  simp only [qz, Nat.reduceAdd]
  refine rg_assign ?_
  simp only [qz]
  refine rg_nil (ek_next (wk_seq ?_))
  refine wk_region [0, 0] rfl Kx ?_
  simp only [qy]
  refine rg_move ?_
  simp only [qz]
  refine rf_neq (b := false) rfl rfl rfl rfl (by decide) ?_
  simp only [qz]
  refine rg_nil (ek_next (wk_cond_f rfl (wk_skip (ek_block (ek_next ?_)))))
  refine wk_region [0, 0] rfl Kx ?_
  simp only [qy]
  refine rf_add rfl rfl rfl rfl (wrap_ok Ox Ox) ?_
  simp only [qz]
  refine rg_move ?_
  simp only [qz]
  refine rg_nil ?_
  refine ek_sub (sk _ (sk _ (sc _ (sc _ sn)))) ?_
  refine ek_roundF (vs.length - (k + 1)) Ox Kx ?_
  exact ⟨k + 1, z4, rfl, by rfl, by rfl, Ox, (Lib.hid (by simp only [lenR, hd2.out, hr3, hr4])), (mk_ok (addR_k hd3.k0) hr4).1⟩

set_option maxRecDepth 100000 in
set_option maxHeartbeats 1000000 in
theorem apply1_any (xs vs : List Nm) (a a' : Option Addr) (c c' : Nat) (N : Nat) (hN : N ≤ 6) (hlx : Hid (xs.length = N * N)) (i k gx gi gv : Nat) (hi : i < N) (hk : k < N) (hk2 : k < vs.length) (w : World) (hA : AS w a (nms xs)) (hB : AS w a' (nms vs)) (hX : Hd w gx 83 #[.int .i64 N, .slice a xs.length c]) (hI : Hd w gi 3 #[.int .i64 i]) (hV : Hd w gv 22 #[.slice a' vs.length c']) : Calls Try.prog 103 #[.int .i64 (k : Int), .pointer (some ⟨gx, 0, none⟩), .pointer (some ⟨gi, 0, none⟩), .pointer (some ⟨gv, 0, none⟩)] w fun e w' => e = .returned (.tuple #[nmV (nm xs (i * N + k)), nmV (nm vs k)]) ∧ Below w.heap.size w w' := by
  obtain ⟨b', off', ha', hlt', hcell'⟩ := AS.openN hB Ox
  subst ha'
  go_enter Try.func103, Try.ntmps103
  refine wk_start ?_
  refine wk_seq ?_
  refine wk_region [1, 1] rfl Kx ?_
  simp only [qy]
  refine Rgn fun g1 => ?_
  simp only [qz]
  refine Rgn fun g2 => ?_
  simp only [qz]
  refine rg_nil (ek_next (wk_seq ?_))
  refine wk_draws_m (hz1 := (sk _ (sk _ sn))) [(0, 0), (1, 0), (2, 0), (4, 3), (5, 3), (6, 3), (7, 3), (3, 1), (8, 2), (9, 1)] 8 Kx Kx (fun c d v a w h => by cases d <;> exact h) ?_
  simp only [List.map_cons, List.map_nil, List.getD_cons_zero, List.getD_cons_succ]
  refine rf_loadC (n := 2) (vs := [.int .i64 N, .slice a xs.length c]) rfl rfl rfl Try.underlying83 rfl Kx rfl (fun w hw => cells_range (Kn.hdB hw hX (by simp)) 0 2) ?_
  simp only [qz]
  refine rf_load (v := .int .i64 i) rfl rfl rfl Try.underlying3 rfl (fun w hw => (Kn.hdB hw hI (by simp)).at (i := 0) rfl) ?_
  simp only [qz]
  refine rg_move ?_
  simp only [qz]
  refine rf_load (v := .slice (some ⟨b', off', none⟩) vs.length c') rfl rfl rfl Try.underlying22 rfl (fun w hw => (Kn.hdB hw hV (by simp)).at (i := 0) rfl) ?_
  simp only [qz]
  refine rg_moveP ?_
  simp only [qz]
  refine rf_indexS (n := k) (sz := 5) (j := off' + k * 5) rfl rfl rfl rfl Try.underlying22 Kx Ox Ox rfl ?_
  simp only [qz]
  refine rf_loadC (n := 5) (vs := [.int .i64 (nm vs k).a, .int .i64 (nm vs k).b, .int .i64 (nm vs k).c, .int .i64 (nm vs k).d, .int .i64 (nm vs k).k]) rfl rfl rfl Try.underlying29 rfl Kx rfl (fun w hw => atN_range ((hcell' k Ox).kn hw hlt' (by simp))) ?_
  simp only [qz]
  apply rg_pure Rx Kx
  case hargs => exact Ax
  case h => exact fun w hw => at_any N i k xs a c hlx.out hN hi hk w (hA.kn0 hw)
  case hz => exact (fun _ h => by cases h; exact (sc _ (sc _ sn)))
  simp only [qz]
  refine rf_storeRM (n := 5) rfl rfl Kx rfl rfl (UpdR.there _ (UpdR.here _ _ _ Nl)) (sk _ (sk _ sn)) ?_
  simp only [qz, Nat.reduceAdd]
  refine rf_storeR (n := 5) rfl rfl Kx rfl rfl (UpdR.here _ _ _ Nl) (fun _ h => by cases h; exact (sk _ (sk _ sn))) ?_
  simp only [qz, Nat.reduceAdd]
  refine rg_nil (ek_next (wk_ret ?_))
  refine ek_ret (fun w hw => ⟨rfl, _, run_results_c2 rfl rfl (Kn.hd0 (Kn.tl hw)) Try.underlying29 rfl Kx rfl (Kn.hd0 hw) Try.underlying29 rfl Kx, ?_⟩)
  exact ⟨rfl, hw.below⟩

end Go.Proofs.Ytjeijnjaleldkaa
namespace Go.Proofs.Ytjeijnjaleldkaa
set_option linter.all false
open Go.RowKit

set_option maxRecDepth 100000 in
set_option maxHeartbeats 1000000 in
theorem mapply_any (n : Int) (xs vs : List Nm) (a a' : Option Addr) (c c' : Nat) (hl : xs.length ≤ 1000000) (hl' : vs.length ≤ 1000000) (w : World) (hA : AS w a (nms xs)) (hB : AS w a' (nms vs)) : Calls Try.prog 52 #[.agg #[.int .i64 n, .slice a xs.length c], .slice a' vs.length c'] w fun e w' => RetV w (rL (appM n xs vs)) (rC (appM n xs vs)) e w' := by
  go_enter Try.func52, Try.ntmps52
  refine wk_start ?_
  refine wk_seq ?_
  refine wk_region [1, 1, 0, 0] rfl Kx ?_
  simp only [qy]
  refine Rgn fun g1 => ?_
  simp only [qz]
  refine Rgn fun g2 => ?_
  simp only [qz]
  refine rg_assign ?_
  simp only [qz]
  refine rg_assign ?_
  simp only [qz]
  refine rg_nil (ek_next (wk_seq (wk_block (wk_seq ?_))))
  refine wk_region [0, 1, 0, 0, 0, 1, 0, 0, 0] rfl Kx ?_
  simp only [qy]
  refine rf_loadR (n := 2) rfl rfl rfl Try.underlying24 rfl Kx (fun w hw => Kn.hd0 (Kn.tl hw)) rfl rfl ?_
  simp only [qz]
  apply rg_pureb Rx Kx
  case hargs => exact Ax
  case h => exact fun w hw => mvalid_any n xs a c hl w (hA.kn0 hw)
  case hz => exact Nz
  intro x h1
  cases x
  · (try simp only [qd, ne_eq] at h1)
    simp only [qz]
    refine rf_not rfl rfl rfl ?_
    simp only [qz]
    refine rg_move ?_
    simp only [qz]
    refine rg_skip Rx ?_
    simp only [qz]
    refine rg_skip_h Rx Nz ?_
    simp only [qz]
    refine rg_skip Rx ?_
    simp only [qz]
    refine rf_pick rfl rfl rfl ?_
    simp only [qz]
    refine rg_assign ?_
    simp only [qz]
    refine rg_nil (ek_next (wk_cond_t rfl (wk_seq ?_)))
    refine wk_region [0, 0] rfl Kx ?_
    simp only [qy]
    refine rg_assign ?_
    simp only [qz]
    refine rg_assign ?_
    simp only [qz]
    refine rg_nil (ek_next (wk_ret (ek_block_ret (ek_then_ret ?_))))
    refine ek_ret (fun w hw => ⟨rfl, _, res_tt _ _ rfl, ?_⟩)
    (try simp only [qz])
    exact retV_err (c := 20) (by unfold appM; rw [h1]; rfl) hw.below
  (try simp only [qd, ne_eq] at h1)
  simp only [qz]
  have hv := h1
  obtain ⟨N, rfl, hN1, hN, hlx, hlx36, hox⟩ := validB_N' hv
  replace hlx := Lib.hid hlx
  refine rf_not rfl rfl rfl ?_
  simp only [qz]
  refine rg_move ?_
  simp only [qz]
  refine rf_load rfl rfl rfl Try.underlying22 rfl (fun w hw => (Kn.hd0 hw).at rfl) ?_
  simp only [qz]
  apply rg_pureb Rx Kx
  case hargs => exact Ax
  case h => exact fun w hw => mvector_any vs a' c' hl' w (hB.kn0 hw)
  case hz => exact Nz
  intro x h2
  cases x
  · (try simp only [qd, ne_eq] at h2)
    simp only [qz]
    refine rf_not rfl rfl rfl ?_
    simp only [qz]
    refine rf_pick rfl rfl rfl ?_
    simp only [qz]
    refine rg_assign ?_
    simp only [qz]
    refine rg_nil (ek_next (wk_cond_t rfl (wk_seq ?_)))
    refine wk_region [0, 0] rfl Kx ?_
    simp only [qy]
    refine rg_assign ?_
    simp only [qz]
    refine rg_assign ?_
    simp only [qz]
    refine rg_nil (ek_next (wk_ret (ek_block_ret (ek_then_ret ?_))))
    refine ek_ret (fun w hw => ⟨rfl, _, res_tt _ _ rfl, ?_⟩)
    (try simp only [qz])
    exact retV_err (c := 20) (by unfold appM; rw [h2, Bool.and_false]; rfl) hw.below
  (try simp only [qd, ne_eq] at h2)
  simp only [qz]
  have hv2 := h2
  obtain ⟨hv1, hv6, hvo⟩ := vecB_y hv2
  refine rf_not rfl rfl rfl ?_
  simp only [qz]
  refine rf_pick rfl rfl rfl ?_
  simp only [qz]
  refine rg_assign ?_
  simp only [qz]
  refine rg_nil (ek_next (wk_cond_f rfl (wk_seq ?_)))
  refine wk_region [0, 0, 0, 0, 0, 0] rfl Kx ?_
  simp only [qy]
  refine rf_load rfl rfl rfl Try.underlying22 rfl (fun w hw => (Kn.hd0 hw).at rfl) ?_
  simp only [qz]
  refine rf_len rfl rfl rfl Try.underlying22 ?_
  simp only [qz]
  refine rf_field (n := 0) (j := 0) rfl rfl rfl Try.underlying24 rfl Kx rfl ?_
  simp only [qz]
  refine rf_load rfl rfl rfl Try.underlying3 rfl (fun w hw => (Kn.hd0 (Kn.tl hw)).at rfl) ?_
  simp only [qz]
  refine rfb_neq rfl rfl rfl rfl ?_
  intro x h3
  cases x
  · (try simp only [qd, ne_eq] at h3)
    simp only [qz]
    obtain hlv : vs.length = N := by omega
    have hcp : appM (N : Int) xs vs = gather (appR N xs vs) N := by (unfold appM; rw [hv, hv2, Bool.and_self, if_pos rfl, if_pos Ox, Int.toNat_natCast])
    replace hcp := Lib.hid hcp
    replace hlv := Lib.hid hlv
    refine rg_assign ?_
    simp only [qz]
    refine rg_nil (ek_next (wk_cond_f rfl (wk_skip (ek_block (ek_next (wk_seq ?_))))))
    refine wk_region [0, 0, 1, 1] rfl Kx ?_
    simp only [qy]
    refine rf_loadR (n := 2) rfl rfl rfl Try.underlying24 rfl Kx (fun w hw => Kn.hd0 (Kn.tl hw)) rfl rfl ?_
    simp only [qz]
    refine rf_build (cs := fun a => #[cellAt (a.eval (.tmp 26)) 0, cellAt (a.eval (.tmp 26)) 1]) rfl rfl Kx ?_
    simp only [qz]
    refine Rgn fun g3 => ?_
    simp only [qz]
    refine rf_storeR (n := 2) rfl rfl Kx rfl rfl (UpdR.here _ _ _ Nl) Nz ?_
    simp only [qz, Nat.reduceAdd]
    refine rg_nil (ek_next (wk_seq ?_))
    refine wk_region [0] rfl Kx ?_
    simp only [qy]
    refine rg_assign ?_
    simp only [qz]
    refine rg_nil (ek_next (wk_seq (wk_seq ?_)))
    refine wk_region [0, 0, 0] rfl Kx ?_
    simp only [qy]
    refine rf_field (n := 0) (j := 0) rfl rfl rfl Try.underlying24 rfl Kx rfl ?_
    simp only [qz]
    refine rf_load rfl rfl rfl Try.underlying3 rfl (fun w hw => (Kn.hd0 (Kn.tl (Kn.tl hw))).at rfl) ?_
    simp only [qz]
    refine rg_move ?_
    simp only [qz]
    refine rg_nil (ek_next (wk_block ?_))
    refine wk_loopF [4, 5, 7, 8, 9, 10, 30, 31, 32, 33, 34, 35, 36, 37, 38, 39, 40, 41, 42, 43, 44, 45, 46, 47] (fun mz f s => ∃ (i : Nat) (l : List Nm) (u : List Blk) (av : Option Addr) (cv : Nat), f 7 = .slice av i cv ∧ f 30 = .int .i64 i ∧ s = (u ++ ((g3, .cells #[.int .i64 N, .slice a xs.length c] 83) :: ((g2, .cells #[.slice a' vs.length c'] 22) :: ((g1, .cells #[.int .i64 N, .slice a xs.length c] 24) :: [])))) ∧ mz = N - i ∧ i ≤ N ∧ Hid (gather (appR N xs vs) i = .ok l) ∧ OwnN u (.slice av i cv) l) ((fun (i : Nat) (l : List Nm) (u : List Blk) (av : Option Addr) (cv : Nat) => N - i) (0) ([]) ([]) (none) (0)) ?_ Kx ?_
    · exact ⟨0, [], [], none, 0, rfl, rfl, rfl, rfl, by omega, (Lib.hid rfl), OwnG.nil⟩
    rintro mz f1 s ⟨i, l, u, av, cv, hs1_7, hs1_30, rfl, hn, hd1, hd2, hd3⟩
    simp only [Act.putF, List.foldl_cons, List.foldl_nil, hs1_7, hs1_30, Act.put, Act.eval, q1, q2, q3, q4, q5, q6, q7, q8, q9, q10, q11, q12, q13, q14, q15, q16, q17, q18, Nat.reduceAdd, Bool.not_true, Bool.not_false]
    clear hs1_7 hs1_30
    refine wk_seq ?_
    refine wk_region [0] rfl Kx ?_
    simp only [qy]
    refine rfb_lss rfl rfl rfl rfl ?_
    intro x h4
    cases x
    · (try simp only [qd, ne_eq] at h4)
      simp only [qz]
      refine rg_nil (ek_next (wk_seq (wk_cond_f rfl (wk_exit (ek_then_exit (ek_then_exit (ek_block_exit (ek_next (wk_seq ?_)))))))))
      refine wk_region [0, 0, 0] rfl Kx ?_
      simp only [qy]
      refine rg_move ?_
      simp only [qz]
      refine rg_assign ?_
      simp only [qz]
      refine rg_assign ?_
      simp only [qz]
      refine rg_nil (ek_next (wk_ret ?_))
      refine ek_ret (fun w hw => ⟨rfl, _, res_tt _ _ rfl, ?_⟩)
      (try simp only [qz])
      obtain rfl : N = i := by omega
      rw [hcp.out, hd2.out]
      exact ⟨_, u, rfl, hd3, hw.made (List.sublist_append_left _ _)⟩
    (try simp only [qd, ne_eq] at h4)
    simp only [qz]
    refine rg_nil (ek_next (wk_seq (wk_cond_t rfl (wk_skip (ek_next (wk_seq (wk_block (wk_seq ?_))))))))
    refine wk_region [0, 1, 1] rfl Kx ?_
    simp only [qy]
    refine rg_move ?_
    simp only [qz]
    refine Rgn fun g4 => ?_
    simp only [qz]
    refine rf_store rfl rfl Kx rfl rfl (UpdR.here _ _ _ Nl) Nz ?_
    simp only [qz]
    refine rg_nil (ek_next (wk_seq ?_))
    refine wk_region [0, 0, 0, 1, 0, 0, 0, 1, 1, 0] rfl Kx ?_
    simp only [qy]
    refine rf_field (n := 0) (j := 0) rfl rfl rfl Try.underlying24 rfl Kx rfl ?_
    simp only [qz]
    refine rf_load rfl rfl rfl Try.underlying3 rfl (fun w hw => (Kn.hd0 (Kn.tl (Kn.tl (Kn.tlU (Kn.tl hw))))).at rfl) ?_
    simp only [qz]
    apply rg_soft
    case hy => (intro w hw; go_simp; (try go_bits); exact Yld.mk _ _)
    simp only [qz]
    apply rg_num Rx Kx
    case hargs => exact Ax
    case h => exact fun w hw => products_any N hN (fun j => nm xs (i * N + j)) (nm vs) _ (fun j hj => elemOk hox hlx.out Ox hj) (fun j hj => ok_at hvo (by have := hlv.out; omega)) w ⟨_, _, _, rfl, by kernel_rfl, fun w' hb vs' r ⟨j, hj, hvj, hr⟩ => by
        subst hvj hr
        have h := apply1_any xs vs a a' c c' N hN hlx i j g3 g4 g2 Ox hj (by have := hlv.out; omega) w' ((hA.kn0 hw).below hb) ((hB.kn0 hw).below hb) ((Kn.hd0 (Kn.tlU (Kn.tl hw))).belowS hb) ((Kn.hd0 hw).belowS hb) ((Kn.hd0 (Kn.tl (Kn.tlU (Kn.tl hw)))).belowS hb)
        simpa using h⟩
    case hz => exact Nz
    case hc => exact (fun c h => prodsR_code h)
    · intro hr5
      simp only [qz]
      refine rg_move ?_
      simp only [qz]
      refine rf_extract rfl rfl rfl rfl ?_
      simp only [qz]
      refine rf_extract rfl rfl rfl rfl ?_
      simp only [qz]
      refine Rgn fun g5 => ?_
      simp only [qz]
      refine rf_storeR (n := 5) rfl rfl Kx rfl rfl (UpdR.here _ _ _ Nl) Nz ?_
      simp only [qz, Nat.reduceAdd]
      refine rg_assign ?_
      simp only [qz]
      refine rg_nil (ek_next (wk_seq (wk_seq ?_)))
      refine wk_region [0, 0] rfl Kx ?_
      simp only [qy]
      refine rg_move ?_
      simp only [qz]
      refine rf_neq (b := true) rfl rfl rfl rfl (by decide) ?_
      simp only [qz]
      refine rg_nil (ek_next (wk_cond_t rfl (wk_seq ?_)))
      refine wk_region [0, 0, 0] rfl Kx ?_
      simp only [qy]
      refine rg_move ?_
      simp only [qz]
      refine rg_assign ?_
      simp only [qz]
      refine rg_assign ?_
      simp only [qz]
      refine rg_nil (ek_next (wk_ret (ek_then_ret (ek_block_ret (ek_then_ret (ek_then_ret (ek_block_ret (ek_then_ret ?_))))))))
      refine ek_ret (fun w hw => ⟨rfl, _, res_tt _ _ rfl, ?_⟩)
      (try simp only [qz])
      exact retV_err (c := 4) (by rw [hcp.out]; exact gather_err hd2.out hr5 _ Ox) hw.below
    intro z5 hr5
    simp only [qz]
    refine rg_move ?_
    simp only [qz]
    refine rf_extract rfl rfl rfl rfl ?_
    simp only [qz]
    refine rf_extract rfl rfl rfl rfl ?_
    simp only [qz]
    refine Rgn fun g6 => ?_
    simp only [qz]
    refine rf_storeR (n := 5) rfl rfl Kx rfl rfl (UpdR.here _ _ _ Nl) Nz ?_
    simp only [qz, Nat.reduceAdd]
    refine rg_assign ?_
    simp only [qz]
    refine rg_nil (ek_next (wk_seq (wk_seq ?_)))
    refine wk_region [0, 0] rfl Kx ?_
    simp only [qy]
    refine rg_move ?_
    simp only [qz]
    refine rf_neq (b := false) rfl rfl rfl rfl (by decide) ?_
    simp only [qz]
    refine rg_nil (ek_next (wk_cond_f rfl (wk_skip (ek_next ?_))))
    refine wk_region [0, 0, 1, 1, 0] rfl Kx ?_
    simp only [qy]
    refine rg_move ?_
    simp only [qz]
    refine rf_loadR (n := 5) rfl rfl rfl Try.underlying29 rfl Kx (fun w hw => Kn.hd0 hw) rfl rfl ?_
    simp only [qz]
    refine rg_newS (cs := ?_) (ty := ?_) (n := 1) (c := 1) Rx (fun w => ?_) Nz (fun g7 => ?_); rotate_left 2
    focus (go_simp; rfl)
    simp only [qz]
    refine rg_appN' (xs := l) (x := z5) Rx rfl hd3 (gather_len hd2.out) rfl Ox (perm_atU (l := [_, _, _]) (u := u) (List.Perm.refl _)) (fun w hw => Kn.hd0 hw) Nz (fun uN1 aN1 cN1 hON1 => ?_)
    simp only [qz]
    refine rg_assign ?_
    simp only [qz]
    refine rg_nil (ek_block (ek_next ?_))
    refine wk_region [0, 0] rfl Kx ?_
    simp only [qy]
    refine rf_add rfl rfl rfl rfl (wrap_ok Ox Ox) ?_
    simp only [qz]
    refine rg_move ?_
    simp only [qz]
    refine rg_nil ?_
    refine ek_sub (List.Sublist.append_left (sk _ (sk _ (sk _ (sc _ (sc _ (sc _ sn)))))) _) ?_
    refine ek_roundF (N - (i + 1)) Ox Kx ?_
    exact ⟨i + 1, l ++ [z5], uN1, aN1, cN1, rfl, rfl, by rfl, by rfl, Ox, (Lib.hid (gather_ok hd2.out hr5)), hON1⟩
  (try simp only [qd, ne_eq] at h3)
  simp only [qz]
  refine rg_assign ?_
  simp only [qz]
  refine rg_nil (ek_next (wk_cond_t rfl (wk_seq ?_)))
  refine wk_region [0, 0] rfl Kx ?_
  simp only [qy]
  refine rg_assign ?_
  simp only [qz]
  refine rg_assign ?_
  simp only [qz]
  refine rg_nil (ek_next (wk_ret (ek_block_ret (ek_then_ret ?_))))
  refine ek_ret (fun w hw => ⟨rfl, _, res_tt _ _ rfl, ?_⟩)
  (try simp only [qz])
  exact retV_err (c := 21) (by unfold appM; rw [hv, hv2, Bool.and_self, if_pos rfl, if_neg Ox]) hw.below

end Go.Proofs.Ytjeijnjaleldkaa
namespace Go.Proofs.Ytjeijnjaleldkaa
set_option linter.all false
open Go.RowKit

set_option maxRecDepth 100000 in
set_option maxHeartbeats 1000000 in
theorem rvvector_any (vs : List Nm) (a' : Option Addr) (c' : Nat) (hl' : vs.length ≤ 1000000) (w : World) (hB : AS w a' (nms vs)) : Calls Try.prog 104 #[.slice a' vs.length c'] w fun e w' => e = .returned (.bool (vecB vs)) ∧ Below w.heap.size w w' := by
  go_enter Try.func104, Try.ntmps104
  refine wk_start ?_
  refine wk_seq ?_
  refine wk_region [0] rfl Kx ?_
  simp only [qy]
  refine rg_assign ?_
  simp only [qz]
  refine rg_nil (ek_next (wk_seq (wk_seq ?_)))
  refine wk_region [0] rfl Kx ?_
  simp only [qy]
  refine rg_assign ?_
  simp only [qz]
  refine rg_nil (ek_next (wk_block ?_))
  refine wk_loopF [2, 3, 4, 5, 6, 7, 8, 9, 10, 11, 12, 13, 14, 15] (fun mz f s => ∃ (k : Nat), f 2 = .bool false ∧ f 3 = .int .i64 k ∧ s = [] ∧ mz = vs.length - k ∧ k ≤ vs.length ∧ (∀ j, j < k → (nm vs j).okB = true)) ((fun (k : Nat) => vs.length - k) (0)) ?_ Kx ?_
  · exact ⟨0, rfl, rfl, rfl, rfl, by omega, fun j hj => by omega⟩
  rintro mz f1 s ⟨k, hs1_2, hs1_3, rfl, hn, hd1, hd2⟩
  simp only [Act.putF, List.foldl_cons, List.foldl_nil, hs1_2, hs1_3, Act.put, Act.eval, q1, q2, q3, q4, q5, q6, q7, q8, q9, q10, q11, q12, q13, q14, q15, q16, q17, q18, Nat.reduceAdd, Bool.not_true, Bool.not_false]
  clear hs1_2 hs1_3
  refine wk_seq (wk_seq ?_)
  refine wk_region [0, 0, 0, 0] rfl Kx ?_
  simp only [qy]
  refine rg_move ?_
  simp only [qz]
  refine rg_move ?_
  simp only [qz]
  refine rf_len rfl rfl rfl Try.underlying22 ?_
  simp only [qz]
  refine rfb_lss rfl rfl rfl rfl ?_
  intro x h1
  cases x
  · (try simp only [qd, ne_eq] at h1)
    simp only [qz]
    refine rg_nil (ek_next (wk_cond_f rfl (wk_exit (ek_then_exit (ek_then_exit (ek_block_exit (ek_next (wk_seq ?_))))))))
    refine wk_region [0, 0, 0, 0, 0, 0, 0, 0, 0] rfl Kx ?_
    simp only [qy]
    refine rg_move ?_
    simp only [qz]
    refine rf_len rfl rfl rfl Try.underlying22 ?_
    simp only [qz]
    refine rfb_geq rfl rfl rfl rfl ?_
    intro x h2
    cases x
    · (try simp only [qd, ne_eq] at h2)
      simp only [qz]
      refine rg_move ?_
      simp only [qz]
      refine rg_skip Rx ?_
      simp only [qz]
      refine rg_skip Rx ?_
      simp only [qz]
      refine rg_skip Rx ?_
      simp only [qz]
      refine rf_pick rfl rfl rfl ?_
      simp only [qz]
      refine rg_assign ?_
      simp only [qz]
      refine rg_nil (ek_next (wk_ret ?_))
      refine ek_ret (fun w hw => ⟨rfl, _, res_t _ rfl, ?_⟩)
      (try simp only [qz])
      exact ⟨by (have hall := allOk_true (xs := vs) (fun j hj => hd2 j Ox); unfold vecB; rw [hall]; first | (rw [decide_eq_false (show ¬ 1 ≤ vs.length by omega)]; rfl) | (rw [decide_eq_true (show 1 ≤ vs.length by omega)]; by_cases h6 : vs.length ≤ 6 <;> first | (rw [decide_eq_true h6, decide_eq_true (show ((vs.length : Int) ≤ 6) by omega)]; rfl) | (rw [decide_eq_false h6, decide_eq_false (show ¬ ((vs.length : Int) ≤ 6) by omega)]; rfl))), hw.below⟩
    (try simp only [qd, ne_eq] at h2)
    simp only [qz]
    refine rg_move ?_
    simp only [qz]
    apply rg_soft_g
    case hg => rfl
    case hy => (intro w hw; go_simp; (try go_bits); exact Yld.mk _ _)
    simp only [qz]
    refine rf_len rfl rfl rfl Try.underlying22 ?_
    simp only [qz]
    refine rf_leq rfl rfl rfl rfl rfl ?_
    simp only [qz]
    refine rf_pick rfl rfl rfl ?_
    simp only [qz]
    refine rg_assign ?_
    simp only [qz]
    refine rg_nil (ek_next (wk_ret ?_))
    refine ek_ret (fun w hw => ⟨rfl, _, res_t _ rfl, ?_⟩)
    (try simp only [qz])
    exact ⟨by (have hall := allOk_true (xs := vs) (fun j hj => hd2 j Ox); unfold vecB; rw [hall]; first | (rw [decide_eq_false (show ¬ 1 ≤ vs.length by omega)]; rfl) | (rw [decide_eq_true (show 1 ≤ vs.length by omega)]; by_cases h6 : vs.length ≤ 6 <;> first | (rw [decide_eq_true h6, decide_eq_true (show ((vs.length : Int) ≤ 6) by omega)]; rfl) | (rw [decide_eq_false h6, decide_eq_false (show ¬ ((vs.length : Int) ≤ 6) by omega)]; rfl))), hw.below⟩
  (try simp only [qd, ne_eq] at h1)
  simp only [qz]
  refine rg_nil (ek_next (wk_cond_t rfl (wk_skip (ek_next (wk_seq (wk_block (wk_seq ?_)))))))
  obtain ⟨b', off', ha', hlt', hcell'⟩ := AS.openN hB Ox
  subst ha'
  refine wk_region [0, 0, 0, 0, 1, 0] rfl Kx ?_
  simp only [qy]
  refine rg_move ?_
  simp only [qz]
  refine rg_move ?_
  simp only [qz]
  refine rf_indexS (n := k) (sz := 5) (j := off' + k * 5) rfl rfl rfl rfl Try.underlying22 Kx Ox Ox rfl ?_
  simp only [qz]
  refine rf_loadC (n := 5) (vs := [.int .i64 (nm vs k).a, .int .i64 (nm vs k).b, .int .i64 (nm vs k).c, .int .i64 (nm vs k).d, .int .i64 (nm vs k).k]) rfl rfl rfl Try.underlying29 rfl Kx rfl (fun w hw => atN_range ((hcell' k Ox).kn hw hlt' (by simp))) ?_
  simp only [qz]
  apply rg_pureb Rx Kx
  case hargs => exact Ax
  case h => exact fun w hw => rValidNum_any (nm vs k) w
  case hz => exact Nz
  intro x h3
  cases x
  · (try simp only [qd, ne_eq] at h3)
    simp only [qz]
    refine rf_not rfl rfl rfl ?_
    simp only [qz]
    refine rg_nil (ek_next (wk_cond_t rfl (wk_seq ?_)))
    refine wk_region [0] rfl Kx ?_
    simp only [qy]
    refine rg_assign ?_
    simp only [qz]
    refine rg_nil (ek_next (wk_ret (ek_block_ret (ek_then_ret (ek_then_ret (ek_block_ret (ek_then_ret ?_)))))))
    refine ek_ret (fun w hw => ⟨rfl, _, res_t _ rfl, ?_⟩)
    (try simp only [qz])
    exact ⟨by unfold vecB; rw [allOk_false (k := k) Ox h3, Bool.and_false, Bool.and_false], hw.below⟩
  (try simp only [qd, ne_eq] at h3)
  simp only [qz]
  refine rf_not rfl rfl rfl ?_
  simp only [qz]
  refine rg_nil (ek_next (wk_cond_f rfl (wk_skip (ek_block (ek_next ?_)))))
  refine wk_region [0, 0, 0] rfl Kx ?_
  simp only [qy]
  refine rg_move ?_
  simp only [qz]
  refine rf_add rfl rfl rfl rfl (wrap_ok Ox Ox) ?_
  simp only [qz]
  refine rg_assign ?_
  simp only [qz]
  refine rg_nil ?_
  refine ek_roundF (vs.length - (k + 1)) Ox Kx ?_
  exact ⟨k + 1, rfl, rfl, by rfl, by rfl, by omega, (fun j hj => by rcases (by omega : j < k ∨ j = k) with h | rfl; exact hd2 j h; exact h3)⟩

set_option maxRecDepth 100000 in
set_option maxHeartbeats 1000000 in
theorem rlength_any (vs : List Nm) (a' : Option Addr) (c' : Nat) (hl' : vs.length ≤ 1000000) (w : World) (hB : AS w a' (nms vs)) : Calls Try.prog 55 #[.slice a' vs.length c'] w fun e w' => e = .returned (numV (lenM vs)) ∧ Below w.heap.size w w' := by
  go_enter Try.func55, Try.ntmps55
  refine wk_start ?_
  refine wk_seq ?_
  refine wk_region [1, 0] rfl Kx ?_
  simp only [qy]
  refine Rgn fun g1 => ?_
  simp only [qz]
  refine rg_assign ?_
  simp only [qz]
  refine rg_nil (ek_next (wk_seq (wk_seq ?_)))
  refine wk_region [0, 1, 0] rfl Kx ?_
  simp only [qy]
  refine rg_move ?_
  simp only [qz]
  apply rg_pureb Rx Kx
  case hargs => exact Ax
  case h => exact fun w hw => rvvector_any vs a' c' hl' w (hB.kn0 hw)
  case hz => exact Nz
  intro x h1
  cases x
  · (try simp only [qd, ne_eq] at h1)
    simp only [qz]
    refine rf_not rfl rfl rfl ?_
    simp only [qz]
    refine rg_nil (ek_next (wk_cond_t rfl (wk_seq ?_)))
    refine wk_region [0, 1, 0] rfl Kx ?_
    simp only [qy]
    refine rf_build (cs := fun a => #[.int .i64 0, .int .i64 0, .int .i64 0, .int .i64 0, .int .i64 0]) rfl rfl Kx ?_
    simp only [qz]
    refine rf_storeR (n := 5) rfl rfl Kx rfl rfl (UpdR.here _ _ _ Nl) Nz ?_
    simp only [qz, Nat.reduceAdd]
    refine rg_assign ?_
    simp only [qz]
    refine rg_nil (ek_next (wk_ret (ek_then_ret ?_)))
    refine ek_ret (fun w hw => ⟨rfl, _, run_results2 rfl rfl (Kn.hd0 hw) Try.underlying29 rfl Kx, ?_⟩)
    (try simp only [qz])
    exact ⟨by unfold lenM; rw [h1]; rfl, hw.below⟩
  (try simp only [qd, ne_eq] at h1)
  simp only [qz]
  have hv := h1
  obtain ⟨hv1, hv6, hvo⟩ := vecB_y hv
  have hcp : lenM vs = lenR (nm vs) vs.length := by (unfold lenM; rw [hv, if_pos rfl])
  replace hcp := Lib.hid hcp
  refine rf_not rfl rfl rfl ?_
  simp only [qz]
  refine rg_nil (ek_next (wk_cond_f rfl (wk_skip (ek_next (wk_seq ?_)))))
  refine wk_region [1] rfl Kx ?_
  simp only [qy]
  refine Rgn fun g2 => ?_
  simp only [qz]
  refine rg_nil (ek_next (wk_seq (wk_seq ?_)))
  refine wk_region [0] rfl Kx ?_
  simp only [qy]
  refine rg_assign ?_
  simp only [qz]
  refine rg_nil (ek_next (wk_block ?_))
  refine wk_loopF [3, 5, 6, 7, 12, 13, 14, 15, 16, 17, 18, 19, 20, 21, 22, 23, 24, 25, 26, 27, 28, 29, 30, 31, 32, 33, 34, 35, 36, 37, 38, 39] (fun mz f s => ∃ (k : Nat) (ac : Nm), f 5 = .int .i64 k ∧ s = ((g2, .cells #[.int .i64 ac.a, .int .i64 ac.b, .int .i64 ac.c, .int .i64 ac.d, .int .i64 ac.k] 29) :: ((g1, .cells #[.int .i64 0, .int .i64 0, .int .i64 0, .int .i64 0, .int .i64 0] 29) :: [])) ∧ mz = vs.length - k ∧ k ≤ vs.length ∧ Hid (lenR (nm vs) k = .ok ac) ∧ ac.Ok) ((fun (k : Nat) (ac : Nm) => vs.length - k) (0) (Nm.zero)) ?_ Kx ?_
  · exact ⟨0, Nm.zero, rfl, rfl, rfl, by omega, (Lib.hid rfl), zero_ok⟩
  rintro mz f1 s ⟨k, ac, hs1_5, rfl, hn, hd1, hd2, hd3⟩
  simp only [Act.putF, List.foldl_cons, List.foldl_nil, hs1_5, Act.put, Act.eval, q1, q2, q3, q4, q5, q6, q7, q8, q9, q10, q11, q12, q13, q14, q15, q16, q17, q18, Nat.reduceAdd, Bool.not_true, Bool.not_false]
  clear hs1_5
  refine wk_seq (wk_seq ?_)
  refine wk_region [0, 0, 0, 0] rfl Kx ?_
  simp only [qy]
  refine rg_move ?_
  simp only [qz]
  refine rg_move ?_
  simp only [qz]
  refine rf_len rfl rfl rfl Try.underlying22 ?_
  simp only [qz]
  refine rfb_lss rfl rfl rfl rfl ?_
  intro x h2
  cases x
  · (try simp only [qd, ne_eq] at h2)
    simp only [qz]
    refine rg_nil (ek_next (wk_cond_f rfl (wk_exit (ek_then_exit (ek_then_exit (ek_block_exit (ek_next (wk_seq ?_))))))))
    refine wk_region [0, 1, 0] rfl Kx ?_
    simp only [qy]
    refine rf_loadR (n := 5) rfl rfl rfl Try.underlying29 rfl Kx (fun w hw => Kn.hd0 hw) rfl rfl ?_
    simp only [qz]
    refine rf_storeR (n := 5) rfl rfl Kx rfl rfl (UpdR.there _ (UpdR.here _ _ _ Nl)) Nz ?_
    simp only [qz, Nat.reduceAdd]
    refine rg_assign ?_
    simp only [qz]
    refine rg_nil (ek_next (wk_ret ?_))
    refine ek_ret (fun w hw => ⟨rfl, _, run_results2 rfl rfl (Kn.hd0 (Kn.tl hw)) Try.underlying29 rfl Kx, ?_⟩)
    (try simp only [qz])
    obtain rfl : k = vs.length := by omega
    exact ⟨by rw [hcp.out, hd2.out]; rfl, hw.below⟩
  (try simp only [qd, ne_eq] at h2)
  simp only [qz]
  refine rg_nil (ek_next (wk_cond_t rfl (wk_skip (ek_next (wk_seq (wk_block (wk_seq ?_)))))))
  obtain ⟨b', off', ha', hlt', hcell'⟩ := AS.openN hB Ox
  subst ha'
  have hvk := ok_at hvo (show k < vs.length by omega)
  refine wk_region [0, 0, 0, 0, 1, 0, 0, 0, 1, 1, 0] rfl Kx ?_
  simp only [qy]
  refine rg_move ?_
  simp only [qz]
  refine rg_move ?_
  simp only [qz]
  refine rf_indexS (n := k) (sz := 5) (j := off' + k * 5) rfl rfl rfl rfl Try.underlying22 Kx Ox Ox rfl ?_
  simp only [qz]
  refine rf_loadC (n := 5) (vs := [.int .i64 (nm vs k).a, .int .i64 (nm vs k).b, .int .i64 (nm vs k).c, .int .i64 (nm vs k).d, .int .i64 (nm vs k).k]) rfl rfl rfl Try.underlying29 rfl Kx rfl (fun w hw => atN_range ((hcell' k Ox).kn hw hlt' (by simp))) ?_
  simp only [qz]
  apply rg_num Rx Kx
  case hargs => exact Ax
  case h => exact fun w hw => rpower_ok (nm vs k) hvk w
  case hz => exact Nz
  case hc => exact (fun c h => mk_err h)
  · intro hr3
    simp only [qz]
    refine rg_move ?_
    simp only [qz]
    refine rf_extract rfl rfl rfl rfl ?_
    simp only [qz]
    refine rf_extract rfl rfl rfl rfl ?_
    simp only [qz]
    refine Rgn fun g3 => ?_
    simp only [qz]
    refine rf_storeR (n := 5) rfl rfl Kx rfl rfl (UpdR.here _ _ _ Nl) Nz ?_
    simp only [qz, Nat.reduceAdd]
    refine rg_assign ?_
    simp only [qz]
    refine rg_nil (ek_next (wk_seq (wk_seq ?_)))
    refine wk_region [0, 0] rfl Kx ?_
    simp only [qy]
    refine rg_move ?_
    simp only [qz]
    refine rf_neq (b := true) rfl rfl rfl rfl (by decide) ?_
    simp only [qz]
    refine rg_nil (ek_next (wk_cond_t rfl (wk_seq ?_)))
    refine wk_region [0, 0, 1, 0] rfl Kx ?_
    simp only [qy]
    refine rf_build (cs := fun a => #[.int .i64 0, .int .i64 0, .int .i64 0, .int .i64 0, .int .i64 0]) rfl rfl Kx ?_
    simp only [qz]
    refine rg_move ?_
    simp only [qz]
    refine rf_storeR (n := 5) rfl rfl Kx rfl rfl (UpdR.there _ (UpdR.there _ (UpdR.here _ _ _ Nl))) Nz ?_
    simp only [qz, Nat.reduceAdd]
    refine rg_assign ?_
    simp only [qz]
    refine rg_nil (ek_next (wk_ret (ek_then_ret (ek_block_ret (ek_then_ret (ek_then_ret (ek_block_ret (ek_then_ret ?_))))))))
    refine ek_ret (fun w hw => ⟨rfl, _, run_results2 rfl rfl (Kn.hd0 (Kn.tl (Kn.tl hw))) Try.underlying29 rfl Kx, ?_⟩)
    (try simp only [qz])
    exact ⟨by rw [hcp.out, lenR_err (k := k + 1) (c := 4) (by simp only [lenR, hd2.out, hr3]) vs.length Ox]; rfl, hw.below⟩
  intro z3 hr3
  simp only [qz]
  refine rg_move ?_
  simp only [qz]
  refine rf_extract rfl rfl rfl rfl ?_
  simp only [qz]
  refine rf_extract rfl rfl rfl rfl ?_
  simp only [qz]
  refine Rgn fun g4 => ?_
  simp only [qz]
  refine rf_storeR (n := 5) rfl rfl Kx rfl rfl (UpdR.here _ _ _ Nl) Nz ?_
  simp only [qz, Nat.reduceAdd]
  refine rg_assign ?_
  simp only [qz]
  refine rg_nil (ek_next (wk_seq (wk_seq ?_)))
  refine wk_region [0, 0] rfl Kx ?_
  simp only [qy]
  refine rg_move ?_
  simp only [qz]
  refine rf_neq (b := false) rfl rfl rfl rfl (by decide) ?_
  simp only [qz]
  refine rg_nil (ek_next (wk_cond_f rfl (wk_skip (ek_next (wk_seq ?_)))))
  refine wk_region [0, 0, 1, 0, 0, 0, 1, 0] rfl Kx ?_
  simp only [qy]
  refine rf_loadR (n := 5) rfl rfl rfl Try.underlying29 rfl Kx (fun w hw => Kn.hd0 (Kn.tl hw)) rfl rfl ?_
  simp only [qz]
  refine rf_loadR (n := 5) rfl rfl rfl Try.underlying29 rfl Kx (fun w hw => Kn.hd0 hw) rfl rfl ?_
  simp only [qz]
  have hpk := power_ok hvk hr3
  apply rg_num Rx Kx
  case hargs => exact Ax
  case h => exact fun w hw => rPlus_ok ac z3 hd3 hpk w
  case hz => exact Nz
  case hc => exact (fun c h => mk_err h)
  · intro hr4
    simp only [qz]
    refine rg_move ?_
    simp only [qz]
    refine rf_extract rfl rfl rfl rfl ?_
    simp only [qz]
    refine rf_extract rfl rfl rfl rfl ?_
    simp only [qz]
    refine rf_storeR (n := 5) rfl rfl Kx rfl rfl (UpdR.there _ (UpdR.here _ _ _ Nl)) Nz ?_
    simp only [qz, Nat.reduceAdd]
    refine rg_assign ?_
    simp only [qz]
    refine rg_nil (ek_next (wk_seq ?_))
    refine wk_region [0, 0] rfl Kx ?_
    simp only [qy]
    refine rg_move ?_
    simp only [qz]
    refine rf_neq (b := true) rfl rfl rfl rfl (by decide) ?_
    simp only [qz]
    refine rg_nil (ek_next (wk_cond_t rfl (wk_seq ?_)))
    refine wk_region [0, 0, 1, 0] rfl Kx ?_
    simp only [qy]
    refine rf_build (cs := fun a => #[.int .i64 0, .int .i64 0, .int .i64 0, .int .i64 0, .int .i64 0]) rfl rfl Kx ?_
    simp only [qz]
    refine rg_move ?_
    simp only [qz]
    refine rf_storeR (n := 5) rfl rfl Kx rfl rfl (UpdR.there _ (UpdR.there _ (UpdR.here _ _ _ Nl))) Nz ?_
    simp only [qz, Nat.reduceAdd]
    refine rg_assign ?_
    simp only [qz]
    refine rg_nil (ek_next (wk_ret (ek_block_ret (ek_then_ret (ek_then_ret (ek_block_ret (ek_then_ret ?_)))))))
    refine ek_ret (fun w hw => ⟨rfl, _, run_results2 rfl rfl (Kn.hd0 (Kn.tl (Kn.tl hw))) Try.underlying29 rfl Kx, ?_⟩)
    (try simp only [qz])
    exact ⟨by rw [hcp.out, lenR_err (k := k + 1) (c := 4) (by simp only [lenR, hd2.out, hr3, hr4]) vs.length Ox]; rfl, hw.below⟩
  intro z4 hr4
  simp only [qz]
  refine rg_move ?_
  simp only [qz]
  refine rf_extract rfl rfl rfl rfl ?_
  simp only [qz]
  refine rf_extract rfl rfl rfl rfl ?_
  simp only [qz]
  refine rf_storeR (n := 5) rfl rfl Kx rfl rfl (UpdR.there _ (UpdR.here _ _ _ Nl)) Nz ?_
  simp only [qz, Nat.reduceAdd]
  refine rg_assign ?_
  simp only [qz]
  refine rg_nil (ek_next (wk_seq ?_))
  refine wk_region [0, 0] rfl Kx ?_
  simp only [qy]
  refine rg_move ?_
  simp only [qz]
  refine rf_neq (b := false) rfl rfl rfl rfl (by decide) ?_
  simp only [qz]
  refine rg_nil (ek_next (wk_cond_f rfl (wk_skip (ek_block (ek_next ?_)))))
  refine wk_region [0, 0, 0] rfl Kx ?_
  simp only [qy]
  refine rg_move ?_
  simp only [qz]
  refine rf_add rfl rfl rfl rfl (wrap_ok Ox Ox) ?_
  simp only [qz]
  refine rg_assign ?_
  simp only [qz]
  refine rg_nil ?_
  refine ek_sub (sk _ (sc _ (sc _ sn))) ?_
  refine ek_roundF (vs.length - (k + 1)) Ox Kx ?_
  exact ⟨k + 1, z4, rfl, by rfl, by rfl, Ox, (Lib.hid (by simp only [lenR, hd2.out, hr3, hr4])), (mk_ok (addR_k hd3.k0) hr4).1⟩

theorem rprodV {xs vs : List Nm} {N i : Nat} {a a' : Option Addr} {c c' : Nat} (hN : N ≤ 6) (hlx : xs.length = N * N) (hlv : vs.length = N) (hox : allOk xs = true) (hoy : allOk vs = true) (hi : i < N) (w : World) (hA : AS w a (nms (rowL xs N i))) (hB : AS w a' (nms vs)) :
    Calls Try.prog 100 #[.slice a N c, .slice a' vs.length c'] w fun e w' => e = .returned (numV (appR N xs vs i)) ∧ Below w.heap.size w w' := by
  have h1 := rowL_len xs N i
  have hr : allOk (rowL xs N i) = true := allOk_true fun t ht => okB_iff.2 (by rw [rowL_at xs Ox]; exact elemOk hox hlx hi Ox)
  have h := rproducts_any (rowL xs N i) vs a a' c c' Ox Ox hr hoy w hA hB
  rw [h1, prodsR_congr N (fun t ht => rowL_at xs ht) (fun t ht => rfl)] at h
  exact h
set_option maxRecDepth 100000 in
set_option maxHeartbeats 1000000 in
theorem rapply_any (n : Int) (xs vs : List Nm) (a a' : Option Addr) (c c' : Nat) (hl : xs.length ≤ 1000000) (hl' : vs.length ≤ 1000000) (hc : xs.length ≤ c) (w : World) (hA : AS w a (nms xs)) (hB : AS w a' (nms vs)) : Calls Try.prog 53 #[.agg #[.int .i64 n, .slice a xs.length c], .slice a' vs.length c'] w fun e w' => RetV w (rL (appM n xs vs)) (rC (appM n xs vs)) e w' := by
  go_enter Try.func53, Try.ntmps53
  refine wk_start ?_
  refine wk_seq ?_
  refine wk_region [1, 0, 0] rfl Kx ?_
  simp only [qy]
  refine Rgn fun g1 => ?_
  simp only [qz]
  refine rg_assign ?_
  simp only [qz]
  refine rg_assign ?_
  simp only [qz]
  refine rg_nil (ek_next (wk_seq (wk_seq ?_)))
  refine wk_region [0, 1, 0, 0, 0, 1, 0, 0] rfl Kx ?_
  simp only [qy]
  refine rf_loadR (n := 2) rfl rfl rfl Try.underlying24 rfl Kx (fun w hw => Kn.hd0 hw) rfl rfl ?_
  simp only [qz]
  apply rg_pureb Rx Kx
  case hargs => exact Ax
  case h => exact fun w hw => rmvalid_any n xs a c hl w (hA.kn0 hw)
  case hz => exact Nz
  intro x h1
  cases x
  · (try simp only [qd, ne_eq] at h1)
    simp only [qz]
    refine rf_not rfl rfl rfl ?_
    simp only [qz]
    refine rg_move ?_
    simp only [qz]
    refine rg_skip Rx ?_
    simp only [qz]
    refine rg_skip_h Rx Nz ?_
    simp only [qz]
    refine rg_skip Rx ?_
    simp only [qz]
    refine rf_pick rfl rfl rfl ?_
    simp only [qz]
    refine rg_nil (ek_next (wk_cond_t rfl (wk_seq ?_)))
    refine wk_region [0, 0] rfl Kx ?_
    simp only [qy]
    refine rg_assign ?_
    simp only [qz]
    refine rg_assign ?_
    simp only [qz]
    refine rg_nil (ek_next (wk_ret (ek_then_ret ?_)))
    refine ek_ret (fun w hw => ⟨rfl, _, res_tt _ _ rfl, ?_⟩)
    (try simp only [qz])
    exact retV_err (c := 20) (by unfold appM; rw [h1]; rfl) hw.below
  (try simp only [qd, ne_eq] at h1)
  simp only [qz]
  have hv := h1
  obtain ⟨N, rfl, hN1, hN, hlx, hlx36, hox⟩ := validB_N' hv
  replace hlx := Lib.hid hlx
  refine rf_not rfl rfl rfl ?_
  simp only [qz]
  refine rg_move ?_
  simp only [qz]
  apply rg_soft_g
  case hg => rfl
  case hy => (intro w hw; go_simp; (try go_bits); exact Yld.mk _ _)
  simp only [qz]
  apply rg_pureb Rx Kx
  case hargs => exact Ax
  case h => exact fun w hw => rvvector_any vs a' c' hl' w (hB.kn0 hw)
  case hz => exact Nz
  intro x h2
  cases x
  · (try simp only [qd, ne_eq] at h2)
    simp only [qz]
    refine rf_not rfl rfl rfl ?_
    simp only [qz]
    refine rf_pick rfl rfl rfl ?_
    simp only [qz]
    refine rg_nil (ek_next (wk_cond_t rfl (wk_seq ?_)))
    refine wk_region [0, 0] rfl Kx ?_
    simp only [qy]
    refine rg_assign ?_
    simp only [qz]
    refine rg_assign ?_
    simp only [qz]
    refine rg_nil (ek_next (wk_ret (ek_then_ret ?_)))
    refine ek_ret (fun w hw => ⟨rfl, _, res_tt _ _ rfl, ?_⟩)
    (try simp only [qz])
    exact retV_err (c := 20) (by unfold appM; rw [h2, Bool.and_false]; rfl) hw.below
  (try simp only [qd, ne_eq] at h2)
  simp only [qz]
  have hv2 := h2
  obtain ⟨hv1, hv6, hvo⟩ := vecB_y hv2
  refine rf_not rfl rfl rfl ?_
  simp only [qz]
  refine rf_pick rfl rfl rfl ?_
  simp only [qz]
  refine rg_nil (ek_next (wk_cond_f rfl (wk_skip (ek_next (wk_seq (wk_seq ?_))))))
  refine wk_region [0, 0, 0, 0, 0] rfl Kx ?_
  simp only [qy]
  refine rf_field (n := 0) (j := 0) rfl rfl rfl Try.underlying24 rfl Kx rfl ?_
  simp only [qz]
  refine rf_load rfl rfl rfl Try.underlying3 rfl (fun w hw => (Kn.hd0 hw).at rfl) ?_
  simp only [qz]
  refine rg_move ?_
  simp only [qz]
  refine rf_len rfl rfl rfl Try.underlying22 ?_
  simp only [qz]
  refine rfb_neq rfl rfl rfl rfl ?_
  intro x h3
  cases x
  · (try simp only [qd, ne_eq] at h3)
    simp only [qz]
    obtain hlv : vs.length = N := by omega
    have hcp : appM (N : Int) xs vs = gather (appR N xs vs) N := by (unfold appM; rw [hv, hv2, Bool.and_self, if_pos rfl, if_pos Ox, Int.toNat_natCast])
    replace hcp := Lib.hid hcp
    replace hlv := Lib.hid hlv
    have hx0 : 0 < xs.length := by (have := Nat.mul_le_mul hN1 hN1; have := hlx.out; omega)
    obtain ⟨b, off, ha, hlt, hcell⟩ := AS.openN hA hx0
    subst ha
    refine rg_nil (ek_next (wk_cond_f rfl (wk_skip (ek_next (wk_seq ?_)))))
    refine wk_region [0] rfl Kx ?_
    simp only [qy]
    refine rg_assign ?_
    simp only [qz]
    refine rg_nil (ek_next (wk_seq (wk_seq ?_)))
    refine wk_region [0] rfl Kx ?_
    simp only [qy]
    refine rg_assign ?_
    simp only [qz]
    refine rg_nil (ek_next (wk_block ?_))
    refine wk_loopF [4, 5, 6, 7, 8, 9, 23, 24, 25, 26, 27, 28, 29, 30, 31, 32, 33, 34, 35, 36, 37, 38, 39, 40, 41, 42, 43] (fun mz f s => ∃ (i : Nat) (l : List Nm) (u : List Blk) (av : Option Addr) (cv : Nat), f 6 = .slice av i cv ∧ f 7 = .int .i64 i ∧ s = (u ++ ((g1, .cells #[.int .i64 N, .slice (some ⟨b, off, none⟩) xs.length c] 24) :: [])) ∧ mz = N - i ∧ i ≤ N ∧ Hid (gather (appR N xs vs) i = .ok l) ∧ OwnN u (.slice av i cv) l) ((fun (i : Nat) (l : List Nm) (u : List Blk) (av : Option Addr) (cv : Nat) => N - i) (0) ([]) ([]) (none) (0)) ?_ Kx ?_
    · exact ⟨0, [], [], none, 0, rfl, rfl, rfl, rfl, by omega, (Lib.hid rfl), OwnG.nil⟩
    rintro mz f1 s ⟨i, l, u, av, cv, hs1_6, hs1_7, rfl, hn, hd1, hd2, hd3⟩
    simp only [Act.putF, List.foldl_cons, List.foldl_nil, hs1_6, hs1_7, Act.put, Act.eval, q1, q2, q3, q4, q5, q6, q7, q8, q9, q10, q11, q12, q13, q14, q15, q16, q17, q18, Nat.reduceAdd, Bool.not_true, Bool.not_false]
    clear hs1_6 hs1_7
    refine wk_seq (wk_seq ?_)
    refine wk_region [0, 0, 0, 0] rfl Kx ?_
    simp only [qy]
    refine rg_move ?_
    simp only [qz]
    refine rf_field (n := 0) (j := 0) rfl rfl rfl Try.underlying24 rfl Kx rfl ?_
    simp only [qz]
    refine rf_load rfl rfl rfl Try.underlying3 rfl (fun w hw => (Kn.hd0 (Kn.tlU hw)).at rfl) ?_
    simp only [qz]
    refine rfb_lss rfl rfl rfl rfl ?_
    intro x h4
    cases x
    · (try simp only [qd, ne_eq] at h4)
      simp only [qz]
      refine rg_nil (ek_next (wk_cond_f rfl (wk_exit (ek_then_exit (ek_then_exit (ek_block_exit (ek_next (wk_seq ?_))))))))
      refine wk_region [0, 0, 0] rfl Kx ?_
      simp only [qy]
      refine rg_move ?_
      simp only [qz]
      refine rg_assign ?_
      simp only [qz]
      refine rg_assign ?_
      simp only [qz]
      refine rg_nil (ek_next (wk_ret ?_))
      refine ek_ret (fun w hw => ⟨rfl, _, res_tt _ _ rfl, ?_⟩)
      (try simp only [qz])
      obtain rfl : N = i := by omega
      rw [hcp.out, hd2.out]
      exact ⟨_, u, rfl, hd3, hw.made (List.sublist_append_left _ _)⟩
    (try simp only [qd, ne_eq] at h4)
    simp only [qz]
    refine rg_nil (ek_next (wk_cond_t rfl (wk_skip (ek_next (wk_seq (wk_block (wk_seq ?_)))))))
    have hr36 := Nat.mul_le_mul_right N (show i + 1 ≤ N by omega)
    have hr1 : (i + 1) * N = i * N + N := by rw [Nat.add_mul, Nat.one_mul]
    replace hr36 := Lib.hid hr36
    replace hr1 := Lib.hid hr1
    refine wk_region [0, 0, 1, 0, 1, 0, 0, 0, 1, 1, 0] rfl Kx ?_
    simp only [qy]
    refine rf_loadR (n := 2) rfl rfl rfl Try.underlying24 rfl Kx (fun w hw => Kn.hd0 (Kn.tlU hw)) rfl rfl ?_
    simp only [qz]
    refine rg_move ?_
    simp only [qz]
    apply rg_pure Rx Kx
    case hargs => exact Ax
    case h => exact fun w hw => rrow_any xs b off c N i hN hlx.out Ox hc w
    case hz => exact Nz
    simp only [qz]
    refine rg_move ?_
    simp only [qz]
    apply rg_num Rx Kx
    case hargs => exact Ax
    case h => exact fun w hw => rprodV hN hlx.out hlv.out hox hvo Ox w (AS.row (hA.kn0 hw) (by have h1 := hr36.out; have h2 := hr1.out; have h3 := hlx.out; omega) Ox) (hB.kn0 hw)
    case hz => exact Nz
    case hc => exact (fun c h => prodsR_code h)
    · intro hr5
      simp only [qz]
      refine rg_move ?_
      simp only [qz]
      refine rf_extract rfl rfl rfl rfl ?_
      simp only [qz]
      refine rf_extract rfl rfl rfl rfl ?_
      simp only [qz]
      refine Rgn fun g2 => ?_
      simp only [qz]
      refine rf_storeR (n := 5) rfl rfl Kx rfl rfl (UpdR.here _ _ _ Nl) Nz ?_
      simp only [qz, Nat.reduceAdd]
      refine rg_assign ?_
      simp only [qz]
      refine rg_nil (ek_next (wk_seq (wk_seq ?_)))
      refine wk_region [0, 0] rfl Kx ?_
      simp only [qy]
      refine rg_move ?_
      simp only [qz]
      refine rf_neq (b := true) rfl rfl rfl rfl (by decide) ?_
      simp only [qz]
      refine rg_nil (ek_next (wk_cond_t rfl (wk_seq ?_)))
      refine wk_region [0, 0, 0] rfl Kx ?_
      simp only [qy]
      refine rg_move ?_
      simp only [qz]
      refine rg_assign ?_
      simp only [qz]
      refine rg_assign ?_
      simp only [qz]
      refine rg_nil (ek_next (wk_ret (ek_then_ret (ek_block_ret (ek_then_ret (ek_then_ret (ek_block_ret (ek_then_ret ?_))))))))
      refine ek_ret (fun w hw => ⟨rfl, _, res_tt _ _ rfl, ?_⟩)
      (try simp only [qz])
      exact retV_err (c := 4) (by rw [hcp.out]; exact gather_err hd2.out hr5 _ Ox) hw.below
    intro z5 hr5
    simp only [qz]
    refine rg_move ?_
    simp only [qz]
    refine rf_extract rfl rfl rfl rfl ?_
    simp only [qz]
    refine rf_extract rfl rfl rfl rfl ?_
    simp only [qz]
    refine Rgn fun g3 => ?_
    simp only [qz]
    refine rf_storeR (n := 5) rfl rfl Kx rfl rfl (UpdR.here _ _ _ Nl) Nz ?_
    simp only [qz, Nat.reduceAdd]
    refine rg_assign ?_
    simp only [qz]
    refine rg_nil (ek_next (wk_seq (wk_seq ?_)))
    refine wk_region [0, 0] rfl Kx ?_
    simp only [qy]
    refine rg_move ?_
    simp only [qz]
    refine rf_neq (b := false) rfl rfl rfl rfl (by decide) ?_
    simp only [qz]
    refine rg_nil (ek_next (wk_cond_f rfl (wk_skip (ek_next ?_))))
    refine wk_region [0, 0, 1, 1, 0] rfl Kx ?_
    simp only [qy]
    refine rg_move ?_
    simp only [qz]
    refine rf_loadR (n := 5) rfl rfl rfl Try.underlying29 rfl Kx (fun w hw => Kn.hd0 hw) rfl rfl ?_
    simp only [qz]
    refine rg_newS (cs := ?_) (ty := ?_) (n := 1) (c := 1) Rx (fun w => ?_) Nz (fun g4 => ?_); rotate_left 2
    focus (go_simp; rfl)
    simp only [qz]
    refine rg_appN' (xs := l) (x := z5) Rx rfl hd3 (gather_len hd2.out) rfl Ox (perm_atU (l := [_, _]) (u := u) (List.Perm.refl _)) (fun w hw => Kn.hd0 hw) Nz (fun uN1 aN1 cN1 hON1 => ?_)
    simp only [qz]
    refine rg_assign ?_
    simp only [qz]
    refine rg_nil (ek_block (ek_next ?_))
    refine wk_region [0, 0, 0] rfl Kx ?_
    simp only [qy]
    refine rg_move ?_
    simp only [qz]
    refine rf_add rfl rfl rfl rfl (wrap_ok Ox Ox) ?_
    simp only [qz]
    refine rg_assign ?_
    simp only [qz]
    refine rg_nil ?_
    refine ek_sub (List.Sublist.append_left (sk _ (sk _ (sc _ sn))) _) ?_
    refine ek_roundF (N - (i + 1)) Ox Kx ?_
    exact ⟨i + 1, l ++ [z5], uN1, aN1, cN1, rfl, rfl, by rfl, by rfl, Ox, (Lib.hid (gather_ok hd2.out hr5)), hON1⟩
  (try simp only [qd, ne_eq] at h3)
  simp only [qz]
  refine rg_nil (ek_next (wk_cond_t rfl (wk_seq ?_)))
  refine wk_region [0, 0] rfl Kx ?_
  simp only [qy]
  refine rg_assign ?_
  simp only [qz]
  refine rg_assign ?_
  simp only [qz]
  refine rg_nil (ek_next (wk_ret (ek_then_ret ?_)))
  refine ek_ret (fun w hw => ⟨rfl, _, res_tt _ _ rfl, ?_⟩)
  (try simp only [qz])
  exact retV_err (c := 21) (by unfold appM; rw [hv, hv2, Bool.and_self, if_pos rfl, if_neg Ox]) hw.below

set_option maxRecDepth 100000 in
set_option maxHeartbeats 1000000 in
theorem sameN_eq (xs : List Nm) (a a' : Option Addr) (c c' : Nat) (hl : xs.length ≤ 1000000) (w : World) (hA : AS w a (nms xs)) (hB : AS w a' (nms xs)) : Calls Try.prog 56 #[.slice a xs.length c, .slice a' xs.length c'] w fun e w' => e = .returned (.bool true) ∧ Below w.heap.size w w' := by
  go_enter Try.func56, Try.ntmps56
  refine wk_start ?_
  refine wk_seq ?_
  refine wk_region [0] rfl Kx ?_
  simp only [qy]
  refine rg_assign ?_
  simp only [qz]
  refine rg_nil (ek_next (wk_seq (wk_seq ?_)))
  refine wk_region [0, 0, 0, 0, 0] rfl Kx ?_
  simp only [qy]
  refine rg_move ?_
  simp only [qz]
  refine rf_len rfl rfl rfl Try.underlying22 ?_
  simp only [qz]
  refine rg_move ?_
  simp only [qz]
  refine rf_len rfl rfl rfl Try.underlying22 ?_
  simp only [qz]
  refine rfb_neq rfl rfl rfl rfl ?_
  intro x h1
  obtain rfl : x = false := by (refine h1.symm.trans ?_; exact decide_eq_false Ox)
  clear h1
  simp only [qz]
  refine rg_nil (ek_next (wk_cond_f rfl (wk_skip (ek_next (wk_seq (wk_seq ?_))))))
  refine wk_region [0] rfl Kx ?_
  simp only [qy]
  refine rg_assign ?_
  simp only [qz]
  refine rg_nil (ek_next (wk_block ?_))
  refine wk_loopF [4, 5, 11, 12, 13, 14, 15, 16, 17, 18, 19, 20, 21, 22, 23, 24, 25] (fun mz f s => ∃ (i : Nat), f 5 = .int .i64 i ∧ s = [] ∧ mz = xs.length - i ∧ i ≤ xs.length) ((fun (i : Nat) => xs.length - i) (0)) ?_ Kx ?_
  · exact ⟨0, rfl, rfl, rfl, by omega⟩
  rintro mz f1 s ⟨i, hs1_5, rfl, hn, hd1⟩
  simp only [Act.putF, List.foldl_cons, List.foldl_nil, hs1_5, Act.put, Act.eval, q1, q2, q3, q4, q5, q6, q7, q8, q9, q10, q11, q12, q13, q14, q15, q16, q17, q18, Nat.reduceAdd, Bool.not_true, Bool.not_false]
  clear hs1_5
  refine wk_seq (wk_seq ?_)
  refine wk_region [0, 0, 0, 0] rfl Kx ?_
  simp only [qy]
  refine rg_move ?_
  simp only [qz]
  refine rg_move ?_
  simp only [qz]
  refine rf_len rfl rfl rfl Try.underlying22 ?_
  simp only [qz]
  refine rfb_lss rfl rfl rfl rfl ?_
  intro x h2
  cases x
  · (try simp only [qd, ne_eq] at h2)
    simp only [qz]
    refine rg_nil (ek_next (wk_cond_f rfl (wk_exit (ek_then_exit (ek_then_exit (ek_block_exit (ek_next (wk_seq ?_))))))))
    refine wk_region [0] rfl Kx ?_
    simp only [qy]
    refine rg_assign ?_
    simp only [qz]
    refine rg_nil (ek_next (wk_ret ?_))
    refine ek_ret (fun w hw => ⟨rfl, _, res_t _ rfl, ?_⟩)
    (try simp only [qz])
    first | exact ⟨rfl, hw.below⟩ | exact ⟨trivial, hw.below⟩ | exact hw.below
  (try simp only [qd, ne_eq] at h2)
  simp only [qz]
  refine rg_nil (ek_next (wk_cond_t rfl (wk_skip (ek_next (wk_seq (wk_block (wk_seq ?_)))))))
  obtain ⟨b, off, ha, hlt, hcell⟩ := AS.openN hA Ox
  obtain ⟨b', off', ha', hlt', hcell'⟩ := AS.openN hB Ox
  subst ha ha'
  refine wk_draws _ _ [(0, 0), (1, 0), (2, 0), (3, 0), (4, 0), (5, 0), (6, 0), (7, 0), (8, 0)] [] Kx Kx (fun c d v a w h => by cases d <;> exact h) (sn) (fun e => by first | exact absurd e (by decide) | rfl) ?_
  simp only [List.map_cons, List.map_nil, List.getD_cons_zero, List.getD_cons_succ]
  refine rg_move ?_
  simp only [qz]
  refine rg_move ?_
  simp only [qz]
  refine rf_indexS (n := i) (sz := 5) (j := off + i * 5) rfl rfl rfl rfl Try.underlying22 Kx Ox Ox rfl ?_
  simp only [qz]
  refine rf_loadC (n := 5) (vs := [.int .i64 (nm xs i).a, .int .i64 (nm xs i).b, .int .i64 (nm xs i).c, .int .i64 (nm xs i).d, .int .i64 (nm xs i).k]) rfl rfl rfl Try.underlying29 rfl Kx rfl (fun w hw => atN_range ((hcell i Ox).kn hw hlt (by simp))) ?_
  simp only [qz]
  refine rg_move ?_
  simp only [qz]
  refine rg_move ?_
  simp only [qz]
  refine rf_indexS (n := i) (sz := 5) (j := off' + i * 5) rfl rfl rfl rfl Try.underlying22 Kx Ox Ox rfl ?_
  simp only [qz]
  refine rf_loadC (n := 5) (vs := [.int .i64 (nm xs i).a, .int .i64 (nm xs i).b, .int .i64 (nm xs i).c, .int .i64 (nm xs i).d, .int .i64 (nm xs i).k]) rfl rfl rfl Try.underlying29 rfl Kx rfl (fun w hw => atN_range ((hcell' i Ox).kn hw hlt' (by simp))) ?_
  simp only [qz]
  refine rfb_neN (nm xs i) (nm xs i) rfl rfl rfl rfl ?_
  intro x h3
  cases x
  · (try simp only [qd, ne_eq] at h3)
    simp only [qz]
    refine rg_nil (ek_next (wk_cond_f rfl (wk_skip (ek_block (ek_next ?_)))))
    refine wk_region [0, 0, 0] rfl Kx ?_
    simp only [qy]
    refine rg_move ?_
    simp only [qz]
    refine rf_add rfl rfl rfl rfl (wrap_ok Ox Ox) ?_
    simp only [qz]
    refine rg_assign ?_
    simp only [qz]
    refine rg_nil ?_
    refine ek_roundF (xs.length - (i + 1)) Ox Kx ?_
    exact ⟨i + 1, rfl, by rfl, by rfl, Ox⟩
  (try simp only [qd, ne_eq] at h3)
  simp only [qz]
  simp at h3

end Go.Proofs.Ytjeijnjaleldkaa
namespace Go.Proofs.Ytjeijnjaleldkaa
set_option linter.all false
open Go.RowKit

theorem appM_len (n : Int) (xs vs : List Nm) : (rL (appM n xs vs)).length ≤ 6 := by
  unfold appM
  cases hv : validB n xs with
  | false => exact Nat.zero_le _
  | true =>
    obtain ⟨N, rfl, h1, h2, h3, h4, h5⟩ := validB_N' hv
    cases hv2 : vecB vs with
    | false => exact Nat.zero_le _
    | true =>
      rw [Bool.and_self, if_pos rfl]
      split
      · rw [Int.toNat_natCast]
        cases h : gather (appR N xs vs) N with
        | ok l => exact Nat.le_trans (Nat.le_of_eq (gather_len h)) h2
        | error c => exact Nat.zero_le _
      · exact Nat.zero_le _
set_option maxRecDepth 100000 in
set_option maxHeartbeats 1000000 in
theorem matrixApplies_any (n : Int) (xs vs : List Nm) (a a' : Option Addr) (c c' : Nat) (hc : xs.length ≤ c) (w : World) (hA : AS w a (nms xs)) (hB : AS w a' (nms vs)) : Calls Try.prog 12 #[.agg #[.int .i64 n, .slice a xs.length c], .slice a' vs.length c'] w fun e w' => e = .returned (.bool true) ∧ Below w.heap.size w w' := by
  go_enter Try.func12, Try.ntmps12
  refine wk_start ?_
  refine wk_seq ?_
  refine wk_region [1, 0] rfl Kx ?_
  simp only [qy]
  refine Rgn fun g1 => ?_
  simp only [qz]
  refine rg_assign ?_
  simp only [qz]
  refine rg_nil (ek_next (wk_seq (wk_seq ?_)))
  refine wk_region [0, 1, 0, 0, 0, 0, 0] rfl Kx ?_
  simp only [qy]
  refine rf_loadR (n := 2) rfl rfl rfl Try.underlying24 rfl Kx (fun w hw => Kn.hd0 hw) rfl rfl ?_
  simp only [qz]
  apply rg_pureb Rx Kx
  case hargs => exact Ax
  case h => exact fun w hw => wide_any n xs a c w
  case hz => exact Nz
  intro x h1
  cases x
  · (try simp only [qd, ne_eq] at h1)
    simp only [qz]
    refine rg_move ?_
    simp only [qz]
    apply rg_soft_g
    case hg => rfl
    case hy => (intro w hw; go_simp; (try go_bits); exact Yld.mk _ _)
    simp only [qz]
    refine rf_len rfl rfl rfl Try.underlying22 ?_
    simp only [qz]
    refine rfb_gtr rfl rfl rfl rfl ?_
    intro x h2
    cases x
    · (try simp only [qd, ne_eq] at h2)
      simp only [qz]
      refine rf_pick rfl rfl rfl ?_
      simp only [qz]
      refine rg_nil (ek_next (wk_cond_f rfl (wk_skip (ek_next (wk_seq ?_)))))
      refine wk_region [0, 0, 1, 0, 0, 0, 0, 0] rfl Kx ?_
      simp only [qy]
      refine rf_loadR (n := 2) rfl rfl rfl Try.underlying24 rfl Kx (fun w hw => Kn.hd0 hw) rfl rfl ?_
      simp only [qz]
      refine rg_move ?_
      simp only [qz]
      apply rg_retV Rx Kx
      case hargs => exact Ax
      case h => exact fun w hw => mapply_any n xs vs a a' c c' Ox Ox w (hA.kn0 hw) (hB.kn0 hw)
      case hz => exact Nz
      intro va2 vc2 u2 hO2
      simp only [qz]
      refine rg_move ?_
      simp only [qz]
      refine rf_extract rfl rfl rfl rfl ?_
      simp only [qz]
      refine rf_extract rfl rfl rfl rfl ?_
      simp only [qz]
      refine rg_assign ?_
      simp only [qz]
      refine rg_assign ?_
      simp only [qz]
      refine rg_nil (ek_next (wk_seq ?_))
      refine wk_region [0, 0, 1, 0, 0, 0, 0, 0] rfl Kx ?_
      simp only [qy]
      refine rf_loadR (n := 2) rfl rfl rfl Try.underlying24 rfl Kx (fun w hw => Kn.hd0 (Kn.tlU hw)) rfl rfl ?_
      simp only [qz]
      refine rg_move ?_
      simp only [qz]
      apply rg_retV Rx Kx
      case hargs => exact Ax
      case h => exact fun w hw => rapply_any n xs vs a a' c c' Ox Ox hc w (hA.kn0 hw) (hB.kn0 hw)
      case hz => exact Nz
      intro va3 vc3 u3 hO3
      simp only [qz]
      refine rg_move ?_
      simp only [qz]
      refine rf_extract rfl rfl rfl rfl ?_
      simp only [qz]
      refine rf_extract rfl rfl rfl rfl ?_
      simp only [qz]
      refine rg_assign ?_
      simp only [qz]
      refine rg_assign ?_
      simp only [qz]
      refine rg_nil (ek_next (wk_seq ?_))
      refine wk_region [0, 1, 0, 0, 0, 1, 1, 0] rfl Kx ?_
      simp only [qy]
      refine rg_move ?_
      simp only [qz]
      apply rg_pure Rx Kx
      case hargs => exact Ax
      case h => exact fun w hw => mlength_any vs a' c' Ox w (hB.kn0 hw)
      case hz => exact Nz
      simp only [qz]
      obtain ⟨zl, el, hve⟩ := numV_ve2 (lenM vs)
      rw [hve]
      replace hve := Lib.hid hve
      refine rg_move ?_
      simp only [qz]
      refine rf_extract rfl rfl rfl rfl ?_
      simp only [qz]
      refine rf_extract rfl rfl rfl rfl ?_
      simp only [qz]
      refine Rgn fun g4 => ?_
      simp only [qz]
      refine rf_storeR (n := 5) rfl rfl Kx rfl rfl (UpdR.here _ _ _ Nl) Nz ?_
      simp only [qz, Nat.reduceAdd]
      refine rg_assign ?_
      simp only [qz]
      refine rg_nil (ek_next (wk_seq ?_))
      refine wk_region [0, 1, 0, 0, 0, 1, 1, 0] rfl Kx ?_
      simp only [qy]
      refine rg_move ?_
      simp only [qz]
      apply rg_pure Rx Kx
      case hargs => exact Ax
      case h => exact fun w hw => rlength_any vs a' c' Ox w (hB.kn0 hw)
      case hz => exact Nz
      simp only [qz]
      rw [hve.out]
      refine rg_move ?_
      simp only [qz]
      refine rf_extract rfl rfl rfl rfl ?_
      simp only [qz]
      refine rf_extract rfl rfl rfl rfl ?_
      simp only [qz]
      refine Rgn fun g5 => ?_
      simp only [qz]
      refine rf_storeR (n := 5) rfl rfl Kx rfl rfl (UpdR.here _ _ _ Nl) Nz ?_
      simp only [qz, Nat.reduceAdd]
      refine rg_assign ?_
      simp only [qz]
      refine rg_nil (ek_next (wk_seq ?_))
      refine wk_region [0, 0, 1, 0, 0, 0, 0, 0, 0, 0, 0, 0, 0, 0, 0, 0, 0, 0, 0, 1, 0, 0] rfl Kx ?_
      simp only [qy]
      refine rg_move ?_
      simp only [qz]
      refine rg_move ?_
      simp only [qz]
      apply rg_pure Rx Kx
      case hargs => exact Ax
      case h => exact fun w hw => sameN_eq _ _ _ _ _ (by have := appM_len n xs vs; omega) w (OwnN.asN hO2 (hw.perm ((((((((List.Perm.refl _).append_left _).trans (List.perm_append_comm_assoc u3 u2 _)).cons _).trans (List.perm_middle (l₁ := u2)).symm).cons _).trans (List.perm_middle (l₁ := u2)).symm).trans ((List.Perm.refl _).append_left _)))) (OwnN.asN hO3 (hw.perm (perm_atU (l := [_, _]) (u := u3) (List.Perm.refl _))))
      case hz => exact Nz
      simp only [qz]
      refine rg_move ?_
      simp only [qz]
      apply rg_soft_g
      case hg => rfl
      case hy => (intro w hw; go_simp; (try go_bits); exact Yld.mk _ _)
      simp only [qz]
      apply rg_soft_g
      case hg => rfl
      case hy => (intro w hw; go_simp; (try go_bits); exact Yld.mk _ _)
      simp only [qz]
      refine rfb_eql rfl rfl rfl rfl ?_
      intro x h3
      obtain rfl : x = true := by (refine h3.symm.trans ?_; exact decide_eq_true Ox)
      clear h3
      simp only [qz]
      refine rf_pick rfl rfl rfl ?_
      simp only [qz]
      refine rg_move ?_
      simp only [qz]
      refine rf_loadR (n := 5) rfl rfl rfl Try.underlying29 rfl Kx (fun w hw => Kn.hd0 (Kn.tl hw)) rfl rfl ?_
      simp only [qz]
      refine rf_loadR (n := 5) rfl rfl rfl Try.underlying29 rfl Kx (fun w hw => Kn.hd0 hw) rfl rfl ?_
      simp only [qz]
      refine rf_eqN (u := zl) (v := zl) rfl rfl rfl rfl ?_
      rw [decide_eq_true (rfl : zl = zl)]
      simp only [qz]
      refine rf_pick rfl rfl rfl ?_
      simp only [qz]
      refine rg_move ?_
      simp only [qz]
      apply rg_soft_g
      case hg => rfl
      case hy => (intro w hw; go_simp; (try go_bits); exact Yld.mk _ _)
      simp only [qz]
      apply rg_soft_g
      case hg => rfl
      case hy => (intro w hw; go_simp; (try go_bits); exact Yld.mk _ _)
      simp only [qz]
      refine rfb_eql rfl rfl rfl rfl ?_
      intro x h4
      obtain rfl : x = true := by (refine h4.symm.trans ?_; exact decide_eq_true Ox)
      clear h4
      simp only [qz]
      refine rf_pick rfl rfl rfl ?_
      simp only [qz]
      refine rg_move ?_
      simp only [qz]
      apply rg_pure Rx Kx
      case hargs => exact Ax
      case h => exact fun w hw => sane2_any w
      case hz => exact Nz
      simp only [qz]
      refine rf_pick rfl rfl rfl ?_
      simp only [qz]
      refine rg_assign ?_
      simp only [qz]
      refine rg_nil (ek_next (wk_ret ?_))
      refine ek_ret (fun w hw => ⟨rfl, _, res_t _ rfl, ?_⟩)
      (try simp only [qz])
      first | exact ⟨rfl, hw.below⟩ | exact ⟨trivial, hw.below⟩ | exact hw.below
    (try simp only [qd, ne_eq] at h2)
    simp only [qz]
    refine rf_pick rfl rfl rfl ?_
    simp only [qz]
    refine rg_nil (ek_next (wk_cond_t rfl (wk_seq ?_)))
    refine wk_region [1, 0] rfl Kx ?_
    simp only [qy]
    apply rg_pure Rx Kx
    case hargs => exact Ax
    case h => exact fun w hw => sane2_any w
    case hz => exact Nz
    simp only [qz]
    refine rg_assign ?_
    simp only [qz]
    refine rg_nil (ek_next (wk_ret (ek_then_ret ?_)))
    refine ek_ret (fun w hw => ⟨rfl, _, res_t _ rfl, ?_⟩)
    (try simp only [qz])
    first | exact ⟨rfl, hw.below⟩ | exact ⟨trivial, hw.below⟩ | exact hw.below
  (try simp only [qd, ne_eq] at h1)
  simp only [qz]
  refine rg_move ?_
  simp only [qz]
  refine rg_skip Rx ?_
  simp only [qz]
  refine rg_skip Rx ?_
  simp only [qz]
  refine rg_skip Rx ?_
  simp only [qz]
  refine rf_pick rfl rfl rfl ?_
  simp only [qz]
  refine rg_nil (ek_next (wk_cond_t rfl (wk_seq ?_)))
  refine wk_region [1, 0] rfl Kx ?_
  simp only [qy]
  apply rg_pure Rx Kx
  case hargs => exact Ax
  case h => exact fun w hw => sane2_any w
  case hz => exact Nz
  simp only [qz]
  refine rg_assign ?_
  simp only [qz]
  refine rg_nil (ek_next (wk_ret (ek_then_ret ?_)))
  refine ek_ret (fun w hw => ⟨rfl, _, res_t _ rfl, ?_⟩)
  (try simp only [qz])
  first | exact ⟨rfl, hw.below⟩ | exact ⟨trivial, hw.below⟩ | exact hw.below

end Go.Proofs.Ytjeijnjaleldkaa
