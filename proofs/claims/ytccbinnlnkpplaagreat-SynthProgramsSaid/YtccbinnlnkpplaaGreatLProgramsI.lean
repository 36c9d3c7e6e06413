/- Texts in one: Wb6, Wb7, MtW, AmCj, MtD, Ort, Pg5, RtR, Orr, SmE, FrmM, Mul64. -/
import Derived.Test.YtccbinnlnkpplaaGreatLProgramsH
import Derived.OrdersIn
import Derived.Deep.Slices
import Derived.Lib.SmallJoins
import Derived.Lib.Mul64
import Derived.Laws.Bits64b
import Derived.Lib.Strings
import Derived.Lib.Slices
import Derived.Lib.Small
import Derived.Lib.Walk
import Derived.Lib.BitFns
import Derived.Lib.ItoaNum
import Derived.Deep.Light
namespace Go.Proofs.YtccbinnlnkpplaaGreat
set_option linter.all false
set_option maxRecDepth 100000
set_option maxHeartbeats 1000000
open Go.RowKit
theorem rAt_any (N i k : Nat) (xs : List Nm) (a : Option Addr) (c : Nat) (hl : xs.length = N * N) (hN : N ≤ 6) (hi : i < N) (hk : k < N) (w : World) (hA : AS w a (nms xs)) : Calls Tryz.prog 47 #[.agg #[.int .i64 N, .slice a xs.length c], .int .i64 i, .int .i64 k] w fun e w' => e = .returned (nmV (nm xs (i * N + k))) ∧ Below w.heap.size w w' := by
 have hm := ix_small hi hN
 have hc0 : ((i * N : Nat) : Int) = (i : Int) * N := Int.natCast_mul i N
 obtain ⟨b, off, rfl, hlt, hcell⟩ := AS.openN hA Ox
 go_enter Tryz.func47, Tryz.ntmps47
 refine wk_start ?_
 refine wk_seq ?_
 refine wk_region [1, 1] rfl Kx ?_
 simp only [qy]
 refine Rgn fun g1 => ?_
 simp only [qz]
 refine Rgn fun g2 => ?_
 simp only [qz]
 refine rg_nil (ek_next (wk_seq ?_))
 refine wk_region [0, 0, 0, 0, 0, 0, 0, 0, 0, 0, 1] rfl Kx ?_
 simp only [qy]
 refine rf_field (n := 0) (j := 1) rfl rfl rfl Tryz.underlying24 rfl Kx rfl ?_
 simp only [qz]
 refine rf_load rfl rfl rfl Tryz.underlying22 rfl (fun w hw => (Kn.hd0 (Kn.tl hw)).at rfl) ?_
 refine Zm ?_
 refine rf_field (n := 0) (j := 0) rfl rfl rfl Tryz.underlying24 rfl Kx rfl ?_
 simp only [qz]
 refine rf_load rfl rfl rfl Tryz.underlying3 rfl (fun w hw => (Kn.hd0 (Kn.tl hw)).at rfl) ?_
 simp only [qz]
 refine rf_mul rfl rfl rfl rfl (wrap_ok Ox Ox) ?_
 refine Zm ?_
 refine rf_add rfl rfl rfl rfl (wrap_ok Ox Ox) ?_
 simp only [qz]
 refine rf_indexS (n := i * N + k) (sz := 5) (j := off + (i * N + k) * 5) rfl rfl rfl rfl Tryz.underlying22 Kx (by rw [Int.natCast_add, Int.natCast_mul]) Ox rfl ?_
 simp only [qz]
 refine rf_loadC (n := 5) (vs := nmC (nm xs (i * N + k))) rfl rfl rfl Tryz.underlying55 rfl Kx rfl (fun w hw => atN_range ((hcell _ Ox).kn hw hlt (by simp))) ?_
 simp only [qz]
 refine rf_storeR (n := 5) rfl rfl Kx rfl rfl (UpdR.here _ _ _ Nl) Nz ?_
 simp only [qz, Nat.reduceAdd]
 refine rg_nil (ek_next (wk_ret ?_))
 refine ek_ret (fun w hw => ⟨rfl, _, run_results1 rfl rfl (Kn.hd0 hw) Tryz.underlying55 rfl Kx, ?_⟩)
 (try simp only [qz])
 first | exact ⟨rfl, hw.below⟩ | exact ⟨trivial, hw.below⟩ | exact hw.below
theorem rOne_any  (w : World) : Calls Tryz.prog 51 #[] w fun e w' => e = .returned (nmV Nm.one) ∧ Below w.heap.size w w' := by
 go_enter Tryz.func51, Tryz.ntmps51
 refine wk_start ?_
 refine wk_seq ?_
 refine wk_region [1] rfl Kx ?_
 simp only [qy]
 refine Rgn fun g1 => ?_
 simp only [qz]
 refine rg_nil (ek_next (wk_seq ?_))
 refine wk_region [0, 0, 1] rfl Kx ?_
 simp only [qy]
 refine rf_build (cs := fun a => #[a.eval (.const (.int .i64 1)), .int .i64 0, .int .i64 0, .int .i64 0]) rfl rfl Kx ?_
 simp only [qz]
 refine rf_build (cs := fun a => #[cellAt (a.eval (.tmp 1)) 0, cellAt (a.eval (.tmp 1)) 1, cellAt (a.eval (.tmp 1)) 2, cellAt (a.eval (.tmp 1)) 3, .int .i64 0]) rfl rfl Kx ?_
 simp only [qz]
 refine rf_storeR (n := 5) rfl rfl Kx rfl rfl (UpdR.here _ _ _ Nl) Nz ?_
 simp only [qz, Nat.reduceAdd]
 refine rg_nil (ek_next (wk_ret ?_))
 refine ek_ret (fun w hw => ⟨rfl, _, run_results1 rfl rfl (Kn.hd0 hw) Tryz.underlying55 rfl Kx, ?_⟩)
 (try simp only [qz])
 first | exact ⟨rfl, hw.below⟩ | exact ⟨trivial, hw.below⟩ | exact hw.below
def colS (xs : List Nm) (N k l : Nat) : Nat → Nm
  | 0 => Nm.zero
  | n + 1 => (colS xs N k l n).addR ((nm xs (n * N + k)).conj.mulR (nm xs (n * N + l)))
def wantN (k l : Nat) : Nm := if k = l then Nm.one else Nm.zero
def Fb (n : Nat) : Int := 2 ^ (62 + 42 * n)
theorem upW_fit {M : Int} {n : Nat} {z : Nm} (h : z.Fit M) (hM : 0 ≤ M) (hn : n ≤ 81) : (Nm.up n z).Fit (2 ^ 41 * M) := by
  have key : ∀ m : Nat, m ≤ 41 → (2 : Int) ^ m * M ≤ 2 ^ 41 * M := fun m hm => by
    refine Int.mul_le_mul_of_nonneg_right ?_ hM
    have h1 := Nat.pow_le_pow_right (n := 2) Ox hm
    have e : ((2 ^ m : Nat) : Int) = (2 : Int) ^ m := by simp
    have e2 : ((2 ^ 41 : Nat) : Int) = (2 : Int) ^ 41 := by simp
    omega
  rcases (⟨n / 2, by omega⟩ : ∃ m, n = 2 * m ∧ m ≤ 40 ∨ n = 2 * m + 1 ∧ m ≤ 40) with ⟨m, ⟨rfl, hm⟩ | ⟨rfl, hm⟩⟩
  · exact Nm.fit_mono (Nm.up_fit m h).1 (key m Ox)
  exact Nm.fit_mono (Nm.up_fit m h).2 (key (m + 1) Ox)
theorem Fb_pos (n : Nat) : 4611686018427387904 ≤ Fb n := by
  unfold Fb
  have h1 := Nat.pow_le_pow_right (n := 2) Ox (show 62 ≤ 62 + 42 * n by omega)
  have e : ((2 ^ (62 + 42 * n) : Nat) : Int) = (2 : Int) ^ (62 + 42 * n) := by simp
  have e2 : (2 : Nat) ^ 62 = 4611686018427387904 := by decide
  omega
theorem Fb_succ (n : Nat) : 2 ^ 41 * Fb n + 2 ^ 41 * Fb n = Fb (n + 1) := by
  unfold Fb
  rw [show 62 + 42 * (n + 1) = (62 + 42 * n) + 42 by omega, Int.pow_add (2 : Int) (62 + 42 * n) 42]
  generalize (2 : Int) ^ (62 + 42 * n) = M
  have e1 : (2 : Int) ^ 41 = 2199023255552 := by decide
  have e2 : (2 : Int) ^ 42 = 4398046511104 := by decide
  rw [e1, e2]
  omega
theorem Fb_le {n : Nat} (h : n ≤ 6) : 2 ^ 41 * Fb n ≤ 9850501549098619803069760025035903451269934817616361666987073351061430442874302652853566563721228910201656997576704 := by
  have h1 := Nat.pow_le_pow_right (n := 2) Ox (show 41 + (62 + 42 * n) ≤ 200 + 155 by omega)
  rw [Nat.pow_add 2 200 155] at h1
  have e : ((2 ^ (41 + (62 + 42 * n)) : Nat) : Int) = (2 : Int) ^ 41 * (2 : Int) ^ (62 + 42 * n) := by
    rw [Nat.pow_add, Int.natCast_mul]; simp only [Int.natCast_pow]
    rfl
  have e2 : (2 : Nat) ^ 200 * 2 ^ 155 = 73391955711682288371546268649666782105490079653384995959602842860381532034831513858240593699524021969747968 := by decide
  unfold Fb
  omega
theorem prod_W {x y : Nm} (hx : x.Ok) (hy : y.Ok) : (x.conj.mulR y).Fit 4611686018427387904 ∧ 0 ≤ (x.conj.mulR y).k ∧ (x.conj.mulR y).k ≤ 80 :=
  ⟨Nm.fit_mono (mulR_fit (conj_ok hx).fit hy.fit) (by decide), by have := hx.k0; have := hy.k0; simp only [Nm.mulR, Nm.conj]; omega, by have := hx.k1; have := hy.k1; simp only [Nm.mulR, Nm.conj]; omega⟩
theorem addR_W {x y : Nm} {n : Nat} (hx : x.Fit (Fb n)) (hx0 : 0 ≤ x.k) (hx1 : x.k ≤ 80) (hy : y.Fit 4611686018427387904) (hy0 : 0 ≤ y.k) (hy1 : y.k ≤ 80) :
    (x.to (max x.k y.k)).Fit (2 ^ 41 * Fb n) ∧ (y.to (max x.k y.k)).Fit (2 ^ 41 * Fb n) ∧ (x.addR y).Fit (Fb (n + 1)) ∧ 0 ≤ (x.addR y).k ∧ (x.addR y).k ≤ 80 := by
  have hF := Fb_pos n
  have h1 : (x.to (max x.k y.k)).Fit (2 ^ 41 * Fb n) := upW_fit hx Ox Ox
  have h2 : (y.to (max x.k y.k)).Fit (2 ^ 41 * Fb n) := upW_fit (Nm.fit_mono hy hF) Ox Ox
  refine ⟨h1, h2, ?_, by simp only [Nm.addR]; omega, by simp only [Nm.addR]; omega⟩; rw [← Fb_succ]
  obtain ⟨a1, a2, a3, a4, a5, a6, a7, a8⟩ := h1
  obtain ⟨b1, b2, b3, b4, b5, b6, b7, b8⟩ := h2
  generalize 2 ^ 41 * Fb n = M at *
  unfold Nm.addR
  exact ⟨by dsimp only; omega, by dsimp only; omega, by dsimp only; omega, by dsimp only; omega, by dsimp only; omega, by dsimp only; omega, by dsimp only; omega, by dsimp only; omega⟩
theorem colS_W {xs : List Nm} {N k l : Nat} (hok : allOk xs = true) (hlen : xs.length = N * N) (hN : N ≤ 6) (hk : k < N) (hl : l < N) : ∀ n, n ≤ N → (colS xs N k l n).Fit (Fb n) ∧ 0 ≤ (colS xs N k l n).k ∧ (colS xs N k l n).k ≤ 80
  | 0, _ => by
    have := Fb_pos 0
    exact ⟨⟨by show -_ ≤ (0 : Int); omega, by show (0 : Int) ≤ _; omega, by show -_ ≤ (0 : Int); omega, by show (0 : Int) ≤ _; omega, by show -_ ≤ (0 : Int); omega, by show (0 : Int) ≤ _; omega, by show -_ ≤ (0 : Int); omega, by show (0 : Int) ≤ _; omega⟩, by show (0 : Int) ≤ 0; decide, by show (0 : Int) ≤ 80; decide⟩
  | n + 1, hn => by
    obtain ⟨h1, h2, h3⟩ := colS_W hok hlen hN hk hl n Ox
    have hx := ix_small (i := n) (N := N) Ox hN
    obtain ⟨p1, p2, p3⟩ := prod_W (ok_at hok (show n * N + k < xs.length by omega)) (ok_at hok (show n * N + l < xs.length by omega))
    obtain ⟨_, _, h4, h5, h6⟩ := addR_W h1 h2 h3 p1 p2 p3
    exact ⟨h4, h5, h6⟩
theorem SA4.conj {w : World} {z : Nm} {s0 s1 s2 s3 : Value} (h : SA4 w z s0 s1 s2 s3) : SA4 w z.conj s0 s3 s2 s1 :=
  ⟨h.a, by simp only [Nm.conj, Int.natAbs_neg]; exact h.d, by simp only [Nm.conj, Int.natAbs_neg]; exact h.c, by simp only [Nm.conj, Int.natAbs_neg]; exact h.b⟩
theorem wd_zero9 : (#[.bool false, .slice none 0 0, .bool false, .slice none 0 0, .bool false, .slice none 0 0, .bool false, .slice none 0 0, .int .i64 0] : Array Value) = #[.bool (decide (Nm.zero.a < 0)), .slice none (digs Nm.zero.a.natAbs).length 0, .bool (decide (Nm.zero.b < 0)), .slice none (digs Nm.zero.b.natAbs).length 0, .bool (decide (Nm.zero.c < 0)), .slice none (digs Nm.zero.c.natAbs).length 0, .bool (decide (Nm.zero.d < 0)), .slice none (digs Nm.zero.d.natAbs).length 0, .int .i64 Nm.zero.k] := by
 simp only [Nm.zero, Int.natAbs_zero, digs_zero]
 rfl
theorem sk4_zero {w : World} : SK4 w [] Nm.zero (.slice none (digs Nm.zero.a.natAbs).length 0) (.slice none (digs Nm.zero.b.natAbs).length 0) (.slice none (digs Nm.zero.c.natAbs).length 0) (.slice none (digs Nm.zero.d.natAbs).length 0) := by
 have h : SK w [] (.slice none (digs (0 : Int).natAbs).length 0) (0 : Int).natAbs := by
  simp only [Int.natAbs_zero, digs_zero]
  exact SK.own SU.nil
 exact ⟨h, h, h, h⟩
theorem runitary_walk (N : Nat) (xs : List Nm) (a : Option Addr) (c : Nat) (hN1 : 1 ≤ N) (hN : N ≤ 6) (hlen : Hid (xs.length = N * N)) (hl36 : xs.length ≤ 36) (hok : allOk xs = true) (w : World) (hA : AS w a (nms xs)) : Calls Tryz.prog 24 #[.agg #[.int .i64 N, .slice a xs.length c]] w fun e w' => ∃ b, e = .returned (.bool b) ∧ (b = true ↔ ∀ k l, k < N → l < N → wnum (colS xs N k l N) = (wantN k l, true)) ∧ Below w.heap.size w w' := by
 go_enter Tryz.func24, Tryz.ntmps24
 refine wk_start ?_
 refine wk_seq ?_
 refine wk_region [1, 0] rfl Kx ?_
 simp only [qy]
 refine Rgn fun g1 => ?_
 refine Zm ?_
 refine rg_nil (ek_next (wk_seq (wk_seq ?_)))
 refine wk_region [0] rfl Kx ?_
 refine Zm ?_
 refine rg_nil (ek_next (wk_block ?_))
 refine wk_loopF [2, 3, 4, 5, 6, 7, 8, 9, 10, 11, 12, 13, 14, 15, 16, 17, 18, 19, 20, 21, 22, 23, 24, 25, 26, 27, 28, 29, 30, 31, 32, 33, 34, 35, 36, 37, 38, 39, 40, 41, 42, 43, 44, 45, 46, 47, 48, 49, 50, 51, 52, 53, 54, 55, 56, 57, 58] (fun mz f s => ∃ (k : Nat), f 3 = .int .i64 k ∧ s = ((g1, .cells #[.int .i64 N, .slice a xs.length c] 24) :: []) ∧ mz = N - k ∧ k ≤ N ∧ (∀ k2, k2 < k → ∀ l2, l2 < N → wnum (colS xs N k2 l2 N) = (wantN k2 l2, true))) ((fun (k : Nat) => N - k) (0)) ?_ Kx ?_
 ·exact ⟨0, rfl, rfl, rfl, by omega, fun _ h => by omega⟩
 rintro mz f1 s ⟨k, hs1_3, rfl, hn, hd1, hd2⟩
 simp only [Act.putF, List.foldl_cons, List.foldl_nil, hs1_3, Act.put, Act.eval, q1, q2, q3, q4, q5, q6, q7, q8, q9, q10, q11, q12, q13, q14, q15, q16, q17, q18, Nat.reduceAdd, Bool.not_true, Bool.not_false]
 clear hs1_3
 refine wk_seq (wk_seq ?_)
 refine wk_region [0, 0, 0, 0] rfl Kx ?_
 refine Zm ?_
 refine rf_field (n := 0) (j := 0) rfl rfl rfl Tryz.underlying24 rfl Kx rfl ?_
 simp only [qz]
 refine rf_load rfl rfl rfl Tryz.underlying3 rfl (fun w hw => (Kn.hd0 hw).at rfl) ?_
 simp only [qz]
 refine rfb_lss rfl rfl rfl rfl ?_
 intro x h1
 cases x
 ·(try simp only [qd, ne_eq] at h1)
  simp only [qz]; refine rg_nil (ek_next (wk_cond_f rfl (wk_exit (ek_then_exit (ek_then_exit (ek_block_exit (ek_next (wk_seq ?_)))))))); refine wk_region [0] rfl Kx ?_; refine Zm ?_; refine rg_nil (ek_next (wk_ret ?_)); refine ek_ret (fun w hw => ⟨rfl, _, res_t _ rfl, ?_⟩); (try simp only [qz])
  exact ⟨true, rfl, ⟨fun _ k2 l2 hk2 hl2 => hd2 k2 Ox l2 hl2, fun _ => rfl⟩, hw.below⟩
 (try simp only [qd, ne_eq] at h1)
 simp only [qz]
 refine rg_nil (ek_next (wk_cond_t rfl (wk_skip (ek_next (wk_seq (wk_block (wk_seq ?_)))))))
 refine wk_region [0] rfl Kx ?_
 refine Zm ?_
 refine rg_nil (ek_next (wk_block ?_))
 refine wk_loopF [2, 4, 5, 6, 7, 8, 9, 16, 17, 18, 19, 20, 21, 22, 23, 24, 25, 26, 27, 28, 29, 30, 31, 32, 33, 34, 35, 36, 37, 38, 39, 40, 41, 42, 43, 44, 45, 46, 47, 48, 49, 50, 51, 52, 53, 54, 55, 56, 57, 58] (fun mz f s => ∃ (l : Nat), f 4 = .int .i64 l ∧ s = ((g1, .cells #[.int .i64 N, .slice a xs.length c] 24) :: []) ∧ mz = N - l ∧ l ≤ N ∧ (∀ l2, l2 < l → wnum (colS xs N k l2 N) = (wantN k l2, true))) ((fun (l : Nat) => N - l) (0)) ?_ Kx ?_
 ·exact ⟨0, rfl, rfl, rfl, by omega, fun _ h => by omega⟩
 rintro mz f2 s ⟨l, hs2_4, rfl, hn, he1, he2⟩
 simp only [Act.putF, List.foldl_cons, List.foldl_nil, hs2_4, Act.put, Act.eval, q1, q2, q3, q4, q5, q6, q7, q8, q9, q10, q11, q12, q13, q14, q15, q16, q17, q18, Nat.reduceAdd, Bool.not_true, Bool.not_false]
 clear hs2_4
 refine wk_seq (wk_seq ?_)
 refine wk_region [0, 0, 0, 0] rfl Kx ?_
 refine Zm ?_
 refine rf_field (n := 0) (j := 0) rfl rfl rfl Tryz.underlying24 rfl Kx rfl ?_
 simp only [qz]
 refine rf_load rfl rfl rfl Tryz.underlying3 rfl (fun w hw => (Kn.hd0 hw).at rfl) ?_
 simp only [qz]
 refine rfb_lss rfl rfl rfl rfl ?_
 intro x h2
 cases x
 ·(try simp only [qd, ne_eq] at h2)
  simp only [qz]; refine rg_nil (ek_next (wk_cond_f rfl (wk_exit (ek_then_exit (ek_then_exit (ek_block_exit (ek_block (ek_next ?_)))))))); refine wk_region [0, 0, 0] rfl Kx ?_; refine Zm ?_; refine rf_add rfl rfl rfl rfl (wrap_ok Ox Ox) ?_; refine Zm ?_; refine rg_nil ?_
  obtain rfl : N = l := by omega
  refine ek_roundF (N - (k + 1)) Ox Kx ?_
  exact ⟨k + 1, rfl, by rfl, by rfl, Ox, (fun k2 hk2 l2 hl2 => by rcases (by omega : k2 < k ∨ k2 = k) with h | rfl; exact hd2 k2 h l2 hl2; exact he2 l2 hl2)⟩
 (try simp only [qd, ne_eq] at h2)
 simp only [qz]
 refine rg_nil (ek_next (wk_cond_t rfl (wk_skip (ek_next (wk_seq (wk_block (wk_seq ?_)))))))
 refine wk_region [1] rfl Kx ?_
 simp only [qy]
 refine Rgn fun g2 => ?_
 simp only [qz]
 refine rg_nil (ek_next (wk_seq (wk_seq ?_)))
 rw [wd_zero9]
 refine wk_region [0] rfl Kx ?_
 refine Zm ?_
 refine rg_nil (ek_next (wk_block ?_))
 refine wk_loopF [6, 22, 23, 24, 25, 26, 27, 28, 29, 30, 31, 32, 33, 34, 35, 36, 37, 38, 39, 40, 41] (fun mz f s => ∃ (n : Nat) (y : Nm) (ta0 ta1 ta2 ta3 : Option Addr) (tc0 tc1 tc2 tc3 : Nat) (u : List Blk), f 6 = .int .i64 n ∧ s = (u ++ ((g2, .cells #[.bool (decide (y.a < 0)), .slice ta0 (digs y.a.natAbs).length tc0, .bool (decide (y.b < 0)), .slice ta1 (digs y.b.natAbs).length tc1, .bool (decide (y.c < 0)), .slice ta2 (digs y.c.natAbs).length tc2, .bool (decide (y.d < 0)), .slice ta3 (digs y.d.natAbs).length tc3, .int .i64 y.k] 84) :: ((g1, .cells #[.int .i64 N, .slice a xs.length c] 24) :: []))) ∧ mz = N - n ∧ n ≤ N ∧ Hid (colS xs N k l n = y) ∧ SK4 w u y (.slice ta0 (digs y.a.natAbs).length tc0) (.slice ta1 (digs y.b.natAbs).length tc1) (.slice ta2 (digs y.c.natAbs).length tc2) (.slice ta3 (digs y.d.natAbs).length tc3)) ((fun (n : Nat) (y : Nm) (ta0 ta1 ta2 ta3 : Option Addr) (tc0 tc1 tc2 tc3 : Nat) (u : List Blk) => N - n) (0) (Nm.zero) (none) (none) (none) (none) (0) (0) (0) (0) ([])) ?_ Kx ?_
 ·exact ⟨0, Nm.zero, none, none, none, none, 0, 0, 0, 0, [], rfl, rfl, rfl, by omega, Lib.hid rfl, sk4_zero⟩
 rintro mz f3 s ⟨n, y, ta0, ta1, ta2, ta3, tc0, tc1, tc2, tc3, u, hs3_6, rfl, hn, hf1, hf2, hf3⟩
 simp only [Act.putF, List.foldl_cons, List.foldl_nil, hs3_6, Act.put, Act.eval, q1, q2, q3, q4, q5, q6, q7, q8, q9, q10, q11, q12, q13, q14, q15, q16, q17, q18, Nat.reduceAdd, Bool.not_true, Bool.not_false]
 clear hs3_6
 have hy := hf2
 have hsk := hf3
 clear hf2 hf3
 refine wk_seq (wk_seq ?_)
 refine wk_region [0, 0, 0, 0] rfl Kx ?_
 refine Zm ?_
 refine rf_field (n := 0) (j := 0) rfl rfl rfl Tryz.underlying24 rfl Kx rfl ?_
 simp only [qz]
 refine rf_load rfl rfl rfl Tryz.underlying3 rfl (fun w hw => (Kn.hd0 (Kn.tl (Kn.tlU hw))).at rfl) ?_
 simp only [qz]
 refine rfb_lss rfl rfl rfl rfl ?_
 intro x h3
 cases x
 ·(try simp only [qd, ne_eq] at h3)
  simp only [qz]; refine rg_nil (ek_next (wk_cond_f rfl (wk_exit (ek_then_exit (ek_then_exit (ek_block_exit (ek_next (wk_seq ?_))))))))
  obtain rfl : N = n := by omega
  have hyw := colS_W hok hlen.out hN (k := k) (l := l) Ox Ox N Ox
  rw [hy.out] at hyw
  have hFl := Fb_le (n := N) Ox
  have cn := fun w hs => wnum_any y (.slice ta0 (digs y.a.natAbs).length tc0) (.slice ta1 (digs y.b.natAbs).length tc1) (.slice ta2 (digs y.c.natAbs).length tc2) (.slice ta3 (digs y.d.natAbs).length tc3) (Nm.fit_mono hyw.1 (by have := Fb_pos N; omega)) hyw.2.1 Ox w hs
  obtain ⟨⟨v, bb⟩, hv⟩ : ∃ r, wnum y = r := ⟨_, rfl⟩
  rw [hv] at cn
  have hwn : Hid (wnum (colS xs N k l N) = (v, bb)) := Lib.hid (by rw [hy.out, hv])
  replace cn := Lib.hid cn
  clear hv; refine wk_region [0, 1, 0, 0, 0, 1, 1, 0] rfl Kx ?_; simp only [qy]; refine rf_loadR (n := 9) rfl rfl rfl Tryz.underlying84 rfl Kx (fun w hw => Kn.hd0 (Kn.tlU hw)) rfl rfl ?_; simp only [qz]; apply rg_pure Rx Kx
  case hargs => exact Ax
  case h => exact fun w hw => cn.out w (hsk.at hw (List.sublist_append_left _ _))
  case hz => exact Nz
  refine Zm ?_; refine rf_extract rfl rfl rfl rfl ?_; simp only [qz]; refine rf_extract rfl rfl rfl rfl ?_; simp only [qz]
  refine Rgn fun g3 => ?_
  simp only [qz]; refine rf_storeR (n := 5) rfl rfl Kx rfl rfl (UpdR.here _ _ _ Nl) Nz ?_; simp only [qz, Nat.reduceAdd]; refine Zm ?_; refine rg_nil (ek_next (wk_seq ?_)); refine wk_region [0, 1, 1] rfl Kx ?_; simp only [qy]; refine rf_build (cs := fun a => #[.int .i64 0, .int .i64 0, .int .i64 0, .int .i64 0, .int .i64 0]) rfl rfl Kx ?_; simp only [qz]
  refine Rgn fun g4 => ?_
  simp only [qz]; refine rf_storeR (n := 5) rfl rfl Kx rfl rfl (UpdR.here _ _ _ Nl) Nz ?_; simp only [qz, Nat.reduceAdd]; refine rg_nil (ek_next (wk_seq (wk_seq ?_))); refine wk_region [0, 0, 0] rfl Kx ?_; refine Zm ?_; refine rfb_eql rfl rfl rfl rfl ?_; intro x h4; cases x
  ·(try simp only [qd, ne_eq] at h4)
   simp only [qz]; refine rg_nil (ek_next (wk_cond_f rfl (wk_skip (ek_next (wk_seq ?_))))); refine wk_region [0, 0, 0, 0, 0, 0, 0] rfl Kx ?_; refine Zm ?_; apply rg_softb
   case hy => (intro w hw; go_simp; (try go_bits); exact Yld.mk _ _)
   intro x h5; cases x
   ·(try simp only [qd, ne_eq] at h5)
    refine Zm ?_; refine rf_loadR (n := 5) rfl rfl rfl Tryz.underlying55 rfl Kx (fun w hw => Kn.hd0 (Kn.tl hw)) rfl rfl ?_; simp only [qz]; refine rf_loadR (n := 5) rfl rfl rfl Tryz.underlying55 rfl Kx (fun w hw => Kn.hd0 hw) rfl rfl ?_; simp only [qz]; refine rfb_neN v Nm.zero rfl rfl rfl rfl ?_; intro x h6; cases x
    ·(try simp only [qd, ne_eq] at h6)
     simp only [qz]
     have hnv : decide (v = Nm.zero) = true := by simpa using h6
     have hgood : wnum (colS xs N k l N) = (wantN k l, true) := by (rw [hwn.out]; unfold wantN; rw [if_neg Ox, of_decide_eq_true hnv]; congr 1 <;> simpa using h5)
     refine rf_pick rfl rfl rfl ?_; simp only [qz]; refine rg_nil (ek_next (wk_cond_f rfl (wk_skip (ek_block (ek_next ?_))))); refine wk_region [0, 0, 0] rfl Kx ?_; refine Zm ?_; refine rf_add rfl rfl rfl rfl (wrap_ok Ox Ox) ?_; refine Zm ?_; refine rg_nil ?_; refine ek_sub (sk _ (sk _ ((sk _ (sc _ sn)).trans (List.sublist_append_right _ _)))) ?_; refine ek_roundF (N - (l + 1)) Ox Kx ?_
     exact ⟨l + 1, rfl, by rfl, by rfl, Ox, (fun l2 hl2 => by rcases (by omega : l2 < l ∨ l2 = l) with h | rfl; exact he2 l2 h; exact hgood)⟩
    (try simp only [qd, ne_eq] at h6); simp only [qz]
    have hnv : decide (v = Nm.zero) = false := by simpa using h6
    refine rf_pick rfl rfl rfl ?_; simp only [qz]; refine rg_nil (ek_next (wk_cond_t rfl (wk_seq ?_))); refine wk_region [0] rfl Kx ?_; refine Zm ?_; refine rg_nil (ek_next (wk_ret (ek_block_ret (ek_then_ret (ek_then_ret (ek_block_ret (ek_block_ret (ek_then_ret (ek_then_ret (ek_block_ret (ek_then_ret ?_))))))))))); refine ek_ret (fun w hw => ⟨rfl, _, res_t _ rfl, ?_⟩); (try simp only [qz])
    exact ⟨false, rfl, ⟨fun h => (by cases h), fun h => by have hg := h k l Ox Ox; rw [hwn.out] at hg; have h2 := congrArg Prod.fst hg; unfold wantN at h2; rw [if_neg Ox] at h2; exact absurd h2 (of_decide_eq_false hnv)⟩, hw.below⟩
   (try simp only [qd, ne_eq] at h5); refine Zm ?_; refine rf_pick rfl rfl rfl ?_; simp only [qz]; refine rg_nil (ek_next (wk_cond_t rfl (wk_seq ?_))); refine wk_region [0] rfl Kx ?_; refine Zm ?_; refine rg_nil (ek_next (wk_ret (ek_block_ret (ek_then_ret (ek_then_ret (ek_block_ret (ek_block_ret (ek_then_ret (ek_then_ret (ek_block_ret (ek_then_ret ?_))))))))))); refine ek_ret (fun w hw => ⟨rfl, _, res_t _ rfl, ?_⟩); (try simp only [qz])
   exact ⟨false, rfl, ⟨fun h => (by cases h), fun h => by have hg := h k l Ox Ox; rw [hwn.out] at hg; have h2 := congrArg Prod.snd hg; simp_all⟩, hw.below⟩
  (try simp only [qd, ne_eq] at h4); simp only [qz]; refine rg_nil (ek_next (wk_cond_t rfl ?_)); refine wk_region [1, 1] rfl Kx ?_; simp only [qy]; apply rg_pure Rx Kx
  case hargs => exact Ax
  case h => exact fun w hw => rOne_any w
  case hz => exact Nz
  simp only [qz]; refine rf_storeR (n := 5) rfl rfl Kx rfl rfl (UpdR.here _ _ _ Nl) Nz ?_; simp only [qz, Nat.reduceAdd]; refine rg_nil (ek_next (wk_seq ?_)); refine wk_region [0, 0, 0, 0, 0, 0, 0] rfl Kx ?_; refine Zm ?_; apply rg_softb
  case hy => (intro w hw; go_simp; (try go_bits); exact Yld.mk _ _)
  intro x h7; cases x
  ·(try simp only [qd, ne_eq] at h7)
   refine Zm ?_; refine rf_loadR (n := 5) rfl rfl rfl Tryz.underlying55 rfl Kx (fun w hw => Kn.hd0 (Kn.tl hw)) rfl rfl ?_; simp only [qz]; refine rf_loadR (n := 5) rfl rfl rfl Tryz.underlying55 rfl Kx (fun w hw => Kn.hd0 hw) rfl rfl ?_; simp only [qz]; refine rfb_neN v Nm.one rfl rfl rfl rfl ?_; intro x h8; cases x
   ·(try simp only [qd, ne_eq] at h8)
    simp only [qz]
    have hnv : decide (v = Nm.one) = true := by simpa using h8
    have hgood : wnum (colS xs N k l N) = (wantN k l, true) := by (rw [hwn.out]; unfold wantN; rw [if_pos Ox, of_decide_eq_true hnv]; congr 1 <;> simpa using h7)
    refine rf_pick rfl rfl rfl ?_; simp only [qz]; refine rg_nil (ek_next (wk_cond_f rfl (wk_skip (ek_block (ek_next ?_))))); refine wk_region [0, 0, 0] rfl Kx ?_; refine Zm ?_; refine rf_add rfl rfl rfl rfl (wrap_ok Ox Ox) ?_; refine Zm ?_; refine rg_nil ?_; refine ek_sub (sk _ (sk _ ((sk _ (sc _ sn)).trans (List.sublist_append_right _ _)))) ?_; refine ek_roundF (N - (l + 1)) Ox Kx ?_
    exact ⟨l + 1, rfl, by rfl, by rfl, Ox, (fun l2 hl2 => by rcases (by omega : l2 < l ∨ l2 = l) with h | rfl; exact he2 l2 h; exact hgood)⟩
   (try simp only [qd, ne_eq] at h8); simp only [qz]
   have hnv : decide (v = Nm.one) = false := by simpa using h8
   refine rf_pick rfl rfl rfl ?_; simp only [qz]; refine rg_nil (ek_next (wk_cond_t rfl (wk_seq ?_))); refine wk_region [0] rfl Kx ?_; refine Zm ?_; refine rg_nil (ek_next (wk_ret (ek_block_ret (ek_then_ret (ek_then_ret (ek_block_ret (ek_block_ret (ek_then_ret (ek_then_ret (ek_block_ret (ek_then_ret ?_))))))))))); refine ek_ret (fun w hw => ⟨rfl, _, res_t _ rfl, ?_⟩); (try simp only [qz])
   exact ⟨false, rfl, ⟨fun h => (by cases h), fun h => by have hg := h k l Ox Ox; rw [hwn.out] at hg; have h2 := congrArg Prod.fst hg; unfold wantN at h2; rw [if_pos Ox] at h2; exact absurd h2 (of_decide_eq_false hnv)⟩, hw.below⟩
  (try simp only [qd, ne_eq] at h7); refine Zm ?_; refine rf_pick rfl rfl rfl ?_; simp only [qz]; refine rg_nil (ek_next (wk_cond_t rfl (wk_seq ?_))); refine wk_region [0] rfl Kx ?_; refine Zm ?_; refine rg_nil (ek_next (wk_ret (ek_block_ret (ek_then_ret (ek_then_ret (ek_block_ret (ek_block_ret (ek_then_ret (ek_then_ret (ek_block_ret (ek_then_ret ?_))))))))))); refine ek_ret (fun w hw => ⟨rfl, _, res_t _ rfl, ?_⟩); (try simp only [qz])
  exact ⟨false, rfl, ⟨fun h => (by cases h), fun h => by have hg := h k l Ox Ox; rw [hwn.out] at hg; have h2 := congrArg Prod.snd hg; simp_all⟩, hw.below⟩
 (try simp only [qd, ne_eq] at h3)
 simp only [qz]
 refine rg_nil (ek_next (wk_cond_t rfl (wk_skip (ek_next (wk_seq (wk_block ?_))))))
 have hyw := colS_W hok hlen.out hN (k := k) (l := l) Ox Ox n Ox
 rw [hy.out] at hyw
 have hxs := ix_small (i := n) (N := N) Ox hN
 have ox := ok_at hok (show n * N + k < xs.length by have := hlen.out; omega)
 have oy := ok_at hok (show n * N + l < xs.length by have := hlen.out; omega)
 have hpw := prod_W ox oy
 obtain ⟨pr, hpr⟩ : ∃ r, (nm xs (n * N + k)).conj.mulR (nm xs (n * N + l)) = r := ⟨_, rfl⟩
 rw [hpr] at hpw
 replace hpr := Lib.hid hpr
 have haw := addR_W hyw.1 hyw.2.1 hyw.2.2 hpw.1 hpw.2.1 hpw.2.2
 have hFl := Fb_le (n := n) Ox
 refine wk_draws_m (hz1 := (List.Sublist.append_left (sk _ (sc _ sn)) _)) [(0, 0), (1, 0), (2, 0), (3, 0), (7, 0), (8, 0), (9, 0), (4, 1), (5, 1), (6, 1), (10, 1), (11, 1), (12, 1), (13, 1), (14, 2)] 14 Kx Kx (fun c d v a w h => by cases d <;> exact h) ?_
 simp only [List.map_cons, List.map_nil, List.getD_cons_zero, List.getD_cons_succ]
 refine rf_loadR (n := 9) rfl rfl rfl Tryz.underlying84 rfl Kx (fun w hw => Kn.hd0 (Kn.tlU hw)) rfl rfl ?_
 simp only [qz]
 refine rf_loadR (n := 2) rfl rfl rfl Tryz.underlying24 rfl Kx (fun w hw => Kn.hd0 (Kn.tl (Kn.tlU hw))) rfl rfl ?_
 refine Zm ?_
 refine rf_loadR (n := 2) rfl rfl rfl Tryz.underlying24 rfl Kx (fun w hw => Kn.hd0 (Kn.tl (Kn.tlU hw))) rfl rfl ?_
 refine Zm ?_
 apply rg_pure Rx Kx
 case hargs => exact Ax
 case h => exact fun w hw => rAt_any N n k xs a c hlen.out hN Ox Ox w (hA.kn0 hw)
 case hz => exact (fun _ h => by cases h; exact (List.Sublist.append_left (sc _ (sc _ sn)) _))
 simp only [qz]
 apply (rg_made (T := fun v u => ∃ s0 s1 s2 s3, v = wdV (nm xs (n * N + k)) s0 s1 s2 s3 ∧ SU4 u (nm xs (n * N + k)) s0 s1 s2 s3)) Rx Kx
 case hargs => exact Ax
 case h => exact fun w hw => wideOf_any (nm xs (n * N + k)) (Nm.fit_mono ox.fit (by decide)) w
 case hz => exact (fun _ h => by cases h; exact (List.Sublist.append_left (sc _ (sc _ sn)) _))
 rintro _ u5 ⟨t0, t1, t2, t3, rfl, hS5⟩
 obtain ⟨⟨ta5_0, tc5_0, rfl⟩, -⟩ := id hS5.a
 obtain ⟨⟨ta5_1, tc5_1, rfl⟩, -⟩ := id hS5.b
 obtain ⟨⟨ta5_2, tc5_2, rfl⟩, -⟩ := id hS5.c
 obtain ⟨⟨ta5_3, tc5_3, rfl⟩, -⟩ := id hS5.d
 simp only [qz]
 apply rg_pure Rx Kx
 case hargs => exact Ax
 case h => exact fun w hw => wconj_any (nm xs (n * N + k)) _ _ _ _ (fit382 ox.fit) w (hS5.at hw (List.sublist_append_left _ _))
 case hz => exact (fun _ h => by cases h; exact ((List.Sublist.append_left (sc _ (sc _ sn)) _).trans (List.sublist_append_right _ _)))
 simp only [qz]
 apply rg_pure Rx Kx
 case hargs => exact Ax
 case h => exact fun w hw => rAt_any N n l xs a c hlen.out hN Ox Ox w (hA.kn0 hw)
 case hz => exact (fun _ h => by cases h; exact ((List.Sublist.append_left (sc _ (sc _ sn)) _).trans (List.sublist_append_right _ _)))
 simp only [qz]
 apply (rg_made (T := fun v u => ∃ s0 s1 s2 s3, v = wdV (nm xs (n * N + l)) s0 s1 s2 s3 ∧ SU4 u (nm xs (n * N + l)) s0 s1 s2 s3)) Rx Kx
 case hargs => exact Ax
 case h => exact fun w hw => wideOf_any (nm xs (n * N + l)) (Nm.fit_mono oy.fit (by decide)) w
 case hz => exact (fun _ h => by cases h; exact ((List.Sublist.append_left (sc _ (sc _ sn)) _).trans (List.sublist_append_right _ _)))
 rintro _ u6 ⟨t0, t1, t2, t3, rfl, hS6⟩
 obtain ⟨⟨ta6_0, tc6_0, rfl⟩, -⟩ := id hS6.a
 obtain ⟨⟨ta6_1, tc6_1, rfl⟩, -⟩ := id hS6.b
 obtain ⟨⟨ta6_2, tc6_2, rfl⟩, -⟩ := id hS6.c
 obtain ⟨⟨ta6_3, tc6_3, rfl⟩, -⟩ := id hS6.d
 simp only [qz]
 apply (rg_made (T := fun v u => ∃ s0 s1 s2 s3, v = wdV (pr) s0 s1 s2 s3 ∧ SU4 u (pr) s0 s1 s2 s3)) Rx Kx
 case hargs => exact Ax
 case h => exact fun w hw => by have := wtimes_any (nm xs (n * N + k)).conj (nm xs (n * N + l)) _ _ _ _ _ _ _ _ (fit382 (conj_ok ox).fit) (fit382 oy.fit) (prodB_ok (conj_ok ox).fit oy.fit) ox.k0 (by have := ox.k1; simp only [Nm.conj]; omega) oy.k0 (by have := oy.k1; omega) w (hS5.at hw ((List.sublist_append_left _ _).trans (List.sublist_append_right _ _))).conj (hS6.at hw (List.sublist_append_left _ _)); rw [hpr.out] at this; exact this
 case hz => exact (fun _ h => by cases h; exact (((List.Sublist.append_left (sc _ (sc _ sn)) _).trans (List.sublist_append_right _ _)).trans (List.sublist_append_right _ _)))
 rintro _ u7 ⟨t0, t1, t2, t3, rfl, hS7⟩
 obtain ⟨⟨ta7_0, tc7_0, rfl⟩, -⟩ := id hS7.a
 obtain ⟨⟨ta7_1, tc7_1, rfl⟩, -⟩ := id hS7.b
 obtain ⟨⟨ta7_2, tc7_2, rfl⟩, -⟩ := id hS7.c
 obtain ⟨⟨ta7_3, tc7_3, rfl⟩, -⟩ := id hS7.d
 simp only [qz]
 apply (rg_made (T := fun v u => ∃ s0 s1 s2 s3, v = wdV (y.addR pr) s0 s1 s2 s3 ∧ SU4 u (y.addR pr) s0 s1 s2 s3)) Rx Kx
 case hargs => exact Ax
 case h => exact fun w hw => wplus_any y pr _ _ _ _ _ _ _ _ (Nm.fit_mono haw.1 hFl) (Nm.fit_mono haw.2.1 hFl) hyw.2.1 Ox hpw.2.1 Ox w (hsk.at hw ((((List.sublist_append_left _ _).trans (List.sublist_append_right _ _)).trans (List.sublist_append_right _ _)).trans (List.sublist_append_right _ _))) (hS7.at hw (List.sublist_append_left _ _))
 case hz => exact (fun _ h => by cases h; exact ((((List.Sublist.append_left (sc _ (sc _ sn)) _).trans (List.sublist_append_right _ _)).trans (List.sublist_append_right _ _)).trans (List.sublist_append_right _ _)))
 rintro _ u8 ⟨t0, t1, t2, t3, rfl, hS8⟩
 obtain ⟨⟨ta8_0, tc8_0, rfl⟩, -⟩ := id hS8.a
 obtain ⟨⟨ta8_1, tc8_1, rfl⟩, -⟩ := id hS8.b
 obtain ⟨⟨ta8_2, tc8_2, rfl⟩, -⟩ := id hS8.c
 obtain ⟨⟨ta8_3, tc8_3, rfl⟩, -⟩ := id hS8.d
 simp only [qz]
 refine rf_storeRM (n := 9) rfl rfl Kx rfl rfl (UpdR.app _ (UpdR.app _ (UpdR.app _ (UpdR.app _ (UpdR.app _ (UpdR.here _ _ _ Nl)))))) (((((List.Sublist.append_left (sk _ (sc _ sn)) _).trans (List.sublist_append_right _ _)).trans (List.sublist_append_right _ _)).trans (List.sublist_append_right _ _)).trans (List.sublist_append_right _ _)) ?_
 simp only [qz, Nat.reduceAdd]
 refine rg_nil (ek_block (ek_next ?_))
 refine wk_region [0, 0, 0] rfl Kx ?_
 refine Zm ?_
 refine rf_add rfl rfl rfl rfl (wrap_ok Ox Ox) ?_
 refine Zm ?_
 refine rg_nil ?_
 refine ek_sub (List.Sublist.append_left (((((sc _ (sc _ sn)).trans (List.sublist_append_right _ _)).trans (List.sublist_append_right _ _)).trans (List.sublist_append_right _ _)).trans (List.sublist_append_right _ _)) _) ?_
 refine ek_roundF (N - (n + 1)) Ox Kx ?_
 exact ⟨n + 1, y.addR pr, ta8_0, ta8_1, ta8_2, ta8_3, tc8_0, tc8_1, tc8_2, tc8_3, u8, rfl, by rfl, by rfl, Ox, (Lib.hid (by rw [colS, hy.out, hpr.out])), (SK4.own hS8)⟩
def mapM (F : Nat → List Nm → Nat → Nat → NR) (n : Int) (xs : List Nm) : LR := if validB n xs then madeR n.toNat (F n.toNat xs) else .error 20
theorem amConj_ok (z : Nm) (hz : z.Ok) (w : World) : Calls Tryz.prog 35 #[nmV z] w fun e w' => e = .returned (.tuple #[nmV z.conj, .int .i64 0]) ∧ Below w.heap.size w w' := by
 go_enter Tryz.func35, Tryz.ntmps35
 refine wk_start ?_
 refine wk_seq ?_
 refine wk_region [1, 1, 0] rfl Kx ?_
 simp only [qy]
 refine Rgn fun g1 => ?_
 simp only [qz]
 refine Rgn fun g2 => ?_
 refine Zm ?_
 refine rg_nil (ek_next (wk_seq ?_))
 refine wk_region [0, 1, 0, 0, 1, 0] rfl Kx ?_
 simp only [qy]
 refine rf_loadR (n := 5) rfl rfl rfl Tryz.underlying55 rfl Kx (fun w hw => Kn.hd0 (Kn.tl hw)) rfl rfl ?_
 simp only [qz]
 apply rg_pure Rx Kx
 case hargs => exact Ax
 case h => exact fun w hw => amchanged_ok z z.conj hz 71 #[] Kx w (fun w' _ => amconj_any z (Nm.fit_mono hz.fit Ox) w')
 case hz => exact Nz
 simp only [qz]
 refine rf_extract rfl rfl rfl rfl ?_
 simp only [qz]
 refine rf_extract rfl rfl rfl rfl ?_
 simp only [qz]
 refine rf_storeR (n := 5) rfl rfl Kx rfl rfl (UpdR.here _ _ _ Nl) Nz ?_
 simp only [qz, Nat.reduceAdd]
 refine Zm ?_
 refine rg_nil (ek_next (wk_ret ?_))
 refine ek_ret (fun w hw => ⟨rfl, _, run_results2 rfl rfl (Kn.hd0 hw) Tryz.underlying55 rfl Kx, ?_⟩)
 (try simp only [qz])
 first | exact ⟨rfl, hw.below⟩ | exact ⟨trivial, hw.below⟩ | exact hw.below
def dagF (N : Nat) (xs : List Nm) (i k : Nat) : NR := .ok (nm xs (k * N + i)).conj
theorem dag1_any (xs : List Nm) (a : Option Addr) (c : Nat) (N : Nat) (hN : N ≤ 6) (hlx : Hid (xs.length = N * N)) (hox : allOk xs = true) (i k gx : Nat) (hi : i < N) (hk : k < N) (w : World) (hA : AS w a (nms xs)) (hX : Hd w gx 69 #[.int .i64 N, .slice a xs.length c]) : Calls Tryz.prog 34 #[.int .i64 (i : Int), .int .i64 (k : Int), .pointer (some ⟨gx, 0, none⟩)] w fun e w' => e = .returned (numV (dagF N xs i k)) ∧ Below w.heap.size w w' := by
 go_enter Tryz.func34, Tryz.ntmps34
 refine wk_start ?_
 refine wk_seq ?_
 refine wk_region [1, 0] rfl Kx ?_
 simp only [qy]
 refine Rgn fun g1 => ?_
 refine Zm ?_
 refine rg_nil (ek_next (wk_seq ?_))
 refine wk_region [0, 0, 0, 1, 1, 0, 0, 1, 0] rfl Kx ?_
 simp only [qy]
 refine rf_loadC (n := 2) (vs := [.int .i64 N, .slice a xs.length c]) rfl rfl rfl Tryz.underlying69 rfl Kx rfl (fun w hw => cells_range (Kn.hdB hw hX (by simp)) 0 2) ?_
 refine Zm ?_
 apply rg_pure Rx Kx
 case hargs => exact Ax
 case h => exact fun w hw => at_any N k i xs a c hlx.out hN hk hi w (hA.kn0 hw)
 case hz => exact Nz
 simp only [qz]
 apply rg_pure Rx Kx
 case hargs => exact Ax
 case h => exact fun w hw => amConj_ok (nm xs (k * N + i)) (elemOk hox hlx.out hk hi) w
 case hz => exact Nz
 simp only [qz]
 refine rf_extract rfl rfl rfl rfl ?_
 simp only [qz]
 refine rf_extract rfl rfl rfl rfl ?_
 simp only [qz]
 refine rf_storeR (n := 5) rfl rfl Kx rfl rfl (UpdR.here _ _ _ Nl) Nz ?_
 simp only [qz, Nat.reduceAdd]
 refine Zm ?_
 refine rg_nil (ek_next (wk_ret ?_))
 refine ek_ret (fun w hw => ⟨rfl, _, run_results2 rfl rfl (Kn.hd0 hw) Tryz.underlying55 rfl Kx, ?_⟩)
 (try simp only [qz])
 exact ⟨rfl, hw.below⟩
theorem mdagger_any (n : Int) (xs : List Nm) (a : Option Addr) (c : Nat) (hl : xs.length ≤ 1000000) (w : World) (hA : AS w a (nms xs)) : Calls Tryz.prog 18 #[.agg #[.int .i64 n, .slice a xs.length c]] w fun e w' => RetM w (rN n.toNat (mapM dagF n xs)) (rL (mapM dagF n xs)) (rC (mapM dagF n xs)) e w' := by
 go_enter Tryz.func18, Tryz.ntmps18
 refine wk_start ?_
 refine wk_seq ?_
 refine wk_region [1, 1, 0] rfl Kx ?_
 simp only [qy]
 refine Rgn fun g1 => ?_
 simp only [qz]
 refine Rgn fun g2 => ?_
 refine Zm ?_
 refine rg_nil (ek_next (wk_seq (wk_seq ?_)))
 refine wk_region [0, 1, 0] rfl Kx ?_
 simp only [qy]
 refine rf_loadR (n := 2) rfl rfl rfl Tryz.underlying24 rfl Kx (fun w hw => Kn.hd0 (Kn.tl hw)) rfl rfl ?_
 simp only [qz]
 apply rg_pureb Rx Kx
 case hargs => exact Ax
 case h => exact fun w hw => mvalid_any n xs a c hl w (hA.kn0 hw)
 case hz => exact Nz
 intro x h1
 cases x
 ·(try simp only [qd, ne_eq] at h1)
  simp only [qz]; refine rf_not rfl rfl rfl ?_; simp only [qz]; refine rg_nil (ek_next (wk_cond_t rfl (wk_seq ?_))); refine wk_region [0, 1, 0] rfl Kx ?_; simp only [qy]; refine rf_build (cs := fun a => #[.int .i64 0, .slice none 0 0]) rfl rfl Kx ?_; simp only [qz]; refine rf_storeR (n := 2) rfl rfl Kx rfl rfl (UpdR.here _ _ _ Nl) Nz ?_; simp only [qz, Nat.reduceAdd]; refine Zm ?_; refine rg_nil (ek_next (wk_ret (ek_then_ret ?_)))
  refine ek_ret (fun w hw => ⟨rfl, _, run_results2 rfl rfl (Kn.hd0 hw) Tryz.underlying24 rfl Kx, ?_⟩); (try simp only [qz])
  exact retM_err (c := 20) (by unfold mapM; rw [h1]; rfl) hw.below
 (try simp only [qd, ne_eq] at h1)
 simp only [qz]
 have hv := h1
 obtain ⟨N, rfl, hN1, hN, hlx, hlx36, hox⟩ := validB_N' hv
 replace hlx := Lib.hid hlx
 have hcp : mapM dagF (N : Int) xs = madeR N (dagF N xs) := by (unfold mapM; rw [hv, if_pos rfl, Int.toNat_natCast])
 replace hcp := Lib.hid hcp
 refine rf_not rfl rfl rfl ?_
 simp only [qz]
 refine rg_nil (ek_next (wk_cond_f rfl (wk_skip (ek_next (wk_seq ?_)))))
 refine wk_region [0, 0, 1, 1] rfl Kx ?_
 simp only [qy]
 refine rf_loadR (n := 2) rfl rfl rfl Tryz.underlying24 rfl Kx (fun w hw => Kn.hd0 (Kn.tl hw)) rfl rfl ?_
 simp only [qz]
 refine rf_build (cs := fun a => #[cellAt (a.eval (.tmp 9)) 0, cellAt (a.eval (.tmp 9)) 1]) rfl rfl Kx ?_
 simp only [qz]
 refine Rgn fun g3 => ?_
 simp only [qz]
 refine rf_storeR (n := 2) rfl rfl Kx rfl rfl (UpdR.here _ _ _ Nl) Nz ?_
 simp only [qz, Nat.reduceAdd]
 refine rg_nil (ek_next (wk_seq ?_))
 refine wk_region [0, 0, 0, 1, 0, 0, 1, 0] rfl Kx ?_
 simp only [qy]
 refine rf_field (n := 0) (j := 0) rfl rfl rfl Tryz.underlying24 rfl Kx rfl ?_
 simp only [qz]
 refine rf_load rfl rfl rfl Tryz.underlying3 rfl (fun w hw => (Kn.hd0 (Kn.tl (Kn.tl hw))).at rfl) ?_
 simp only [qz]
 refine Zk ?_
 apply rg_retM Rx Kx
 case hargs => exact Ax
 case h => exact fun w hw => made_any N hN (dagF N xs) _ (fun i k c hi hk h => by cases h) w ⟨_, _, _, rfl, by kernel_rfl, fun w' hb vs r ⟨i, k, hi, hk, hv, hr⟩ => by
   subst hv hr
   have h := dag1_any xs a c N hN hlx hox i k g3 hi hk w' ((hA.kn0 hw).below hb) ((Kn.hd0 hw).belowS hb)
   simpa using h⟩
 case hz => exact Nz
 intro va5 vc5 u5 hO5
 simp only [qz]
 refine rf_extract rfl rfl rfl rfl ?_
 simp only [qz]
 refine rf_extract rfl rfl rfl rfl ?_
 simp only [qz]
 refine rf_storeR (n := 2) rfl rfl Kx rfl rfl (UpdR.app _ (UpdR.there _ (UpdR.here _ _ _ Nl))) Nz ?_
 simp only [qz, Nat.reduceAdd]
 refine Zm ?_
 refine rg_nil (ek_next (wk_ret ?_))
 refine ek_ret (fun w hw => ⟨rfl, _, run_results2 rfl rfl (Kn.hd0 (Kn.tl (Kn.tlU hw))) Tryz.underlying24 rfl Kx, ?_⟩)
 (try simp only [qz])
 exact ⟨.slice va5 _ vc5, u5, by rw [hcp.out]; rfl, by rw [hcp.out]; exact hO5, hw.made (List.sublist_append_left _ _)⟩
section
variable {P : Program} {ops : Array Oper} {Q : Exit → Act → World → Prop} {md : Region.Mode}
def Cl (md : Region.Mode) (ops : Array Oper) (listed : Array Bool) : Prop := ∀ k ok, ops[k]? = some ok → listed.getD k false = true → ∀ e ∈ ok.after, Region.binds md e = true → listed.getD e.on false = true
theorem Cl.step {listed : Array Bool} {j : Nat} (h : Cl md ops listed) (hj : j ∈ Region.ready md ops listed) : Cl md ops (listed.setIfInBounds j true) := fun k ok hk hl e he hb => by
  by_cases e1 : j = k
  · subst e1
    obtain ⟨-, o, ho, hall⟩ := mem_ready.1 hj
    rw [hk] at ho
    cases ho
    exact getD_set_true (hall e he hb)
  · rw [getD_set_ne false e1] at hl
    exact getD_set_true (h k ok hk hl e he hb)
def reachT (md : Region.Mode) (ops : Array Oper) : Nat → Nat → Nat → Bool
  | 0, _, _ => false
  | f + 1, m, i => match ops[m]? with
    | some o => o.after.any fun e => Region.binds md e && (e.on == i || reachT md ops f e.on i)
    | none => false
theorem reach_listed {listed : Array Bool} {i : Nat} (h : Cl md ops listed) : ∀ (f d : Nat), listed.getD d false = true → reachT md ops f d i = true → listed.getD i false = true
  | 0, _, _, hr => by cases hr
  | f + 1, d, hd, hr => by
    unfold reachT at hr
    cases ho : ops[d]? with
    | none => rw [ho] at hr; cases hr
    | some o =>
      rw [ho] at hr; simp only [Array.any_eq_true, Bool.and_eq_true, Bool.or_eq_true, beq_iff_eq] at hr
      obtain ⟨n, hn, hb, hor⟩ := hr
      have hl := h d o ho hd _ (Array.getElem_mem hn) hb
      rcases hor with e | e
      · rw [← e]; exact hl
      · exact reach_listed h f _ hl e
theorem reach_ready {listed : Array Bool} {m i f : Nat} (h : Cl md ops listed) (hm : m ∈ Region.ready md ops listed) (hr : reachT md ops f m i = true) : listed.getD i false = true := by
  cases f with
  | zero => cases hr
  | succ f =>
    unfold reachT at hr
    obtain ⟨-, o, ho, hall⟩ := mem_ready.1 hm
    rw [ho] at hr; simp only [Array.any_eq_true, Bool.and_eq_true, Bool.or_eq_true, beq_iff_eq] at hr
    obtain ⟨n, hn, hb, hor⟩ := hr
    have hl := hall _ (Array.getElem_mem hn) hb
    rcases hor with e | e
    · rw [← e]; exact hl
    · exact reach_listed h f _ hl e
theorem wpAnyF_firstT {S : Array Bool → World → Prop} {T : World → Prop} {i : Nat} {oi : Oper} {v : Value} (hi : ops[i]? = some oi) (hsel : ∀ (j : Nat) (o : Oper) cs b, ops[j]? = some o → o.op ≠ .select cs b)
    (hQ : ∀ c a w, Q (.panic c) (a.put oi.dst v) w → Q (.panic c) a w)
    (hSi : ∀ listed w, S (listed.setIfInBounds i true) w ↔ S listed w)
    (hSj : ∀ j listed, Cl md ops listed → j ∈ Region.ready md ops listed → listed.getD i true = false → (∀ w, S listed w → T w) → ∀ w, S (listed.setIfInBounds j true) w → T w) :
    ∀ (fuel : Nat) (listed : Array Bool) (a : Act) (w : World), Cl md ops listed → (∀ w, S listed w → T w) →
      (∀ j oj, ops[j]? = some oj → j ≠ i → listed.getD j true = false → (∀ e ∈ oj.after, Region.binds md e = true → e.on ≠ i) → oi.apart ops oj = true) →
      i ∈ Region.ready md ops listed → YieldsIf P ops T oi v a → S listed w →
      wpAnyF P md ops Q S fuel (listed.setIfInBounds i true) (a.put oi.dst v) w → wpAnyF P md ops Q S (fuel + 1) listed a w := by
  intro fuel
  induction fuel with
  | zero =>
    intro listed a w hC hT _ hr hy hS H; refine ⟨fun h => (by rw [h] at hr; cases hr), fun j hj => ?_⟩
    by_cases hji : j = i
    · subst hji; exact hy.wpOp hi (hT w hS) ⟨(hSi _ _).2 hS, H⟩
    · have := ready_mono hj hji
      rw [H.1] at this
      cases this
  | succ fuel ih =>
    intro listed a w hC hT hfree hr hy hS H; refine ⟨fun h => (by rw [h] at hr; cases hr), fun j hj => ?_⟩
    by_cases hji : j = i
    · subst hji; exact hy.wpOp hi (hT w hS) ⟨(hSi _ _).2 hS, H⟩
    · have h1 := H.2 j (ready_mono hj hji)
      obtain ⟨hjun, oj, hoj, hall⟩ := mem_ready.1 hj
      have hnot : ∀ e ∈ oj.after, Region.binds md e = true → e.on ≠ i := fun e he hb heq => by
        have h1 := hall e he hb
        have h0 := (mem_ready.1 hr).1
        rw [heq] at h1
        rcases Nat.lt_or_ge i listed.size with h' | h'
        · simp [h'] at h0 h1; rw [h0] at h1; cases h1
        · simp [Array.getElem?_eq_none h'] at h1
      have h2 := wpOp_putIf hoj (hfree j oj hoj hji hjun hnot) (fun cs b => hsel i oi cs b hi) (fun cs b => hsel j oj cs b hoj) hQ hy h1
      have hfree' : ∀ k ok, ops[k]? = some ok → k ≠ i → (listed.setIfInBounds j true).getD k true = false →
          (∀ e ∈ ok.after, Region.binds md e = true → e.on ≠ i) → oi.apart ops ok = true := fun k ok hk hki hun hno => by
        refine hfree k ok hk hki ?_ hno
        by_cases hjk : j = k
        · subst hjk; exact hjun
        · rw [getD_set_ne true hjk] at hun; exact hun
      have hSjj := hSj j listed hC hj (mem_ready.1 hr).1 hT
      refine wpOp_mono (fun a' w' h3 => ?_) h2
      have hS3 : S (listed.setIfInBounds j true) w' := by
        have := h3.2.1
        rw [Array.setIfInBounds_comm _ _ (Ne.symm hji)] at this
        exact (hSi _ _).1 this
      refine ⟨hS3, ih (listed.setIfInBounds j true) a' w' (hC.step hj) hSjj hfree' (ready_mono hr (Ne.symm hji)) h3.1 hS3 ?_⟩; rw [Array.setIfInBounds_comm _ _ hji]
      exact h3.2.2
def eagT (md : Region.Mode) (ops : Array Oper) : List (Nat × Nat) → List Nat → Array Bool → Bool
  | [], ms, listed => (Region.ready md ops listed).isEmpty
  | (i, 0) :: l, ms, listed => (Region.ready md ops listed).contains i && (Region.free md ops listed i &&
      ((ms.all fun m => m != i && reachT md ops 20 m i) && eagT md ops l ms (listed.setIfInBounds i true)))
  | (i, 1) :: l, ms, listed => decide (Region.ready md ops listed = [i]) && (!ms.contains i && eagT md ops l ms (listed.setIfInBounds i true))
  | (i, 2) :: l, ms, listed => match ms with
    | [] => false
    | m :: r => decide (Region.ready md ops listed = [i]) && (m == i && (decide (i < listed.size) && (!r.contains i && eagT md ops l r (listed.setIfInBounds i true))))
  | (i, _ + 3) :: l, ms, listed => (Region.ready md ops listed).contains i && (Region.free md ops listed i && (!ms.contains i && eagT md ops l ms (listed.setIfInBounds i true)))
theorem wpAnyF_of_eagT {c : World → Prop} (hs : Region.noSelect ops = true) (hQ : ∀ c d v a w, Q (.panic c) (Act.put a d v) w → Q (.panic c) a w) :
    ∀ (l : List (Nat × Nat)) (m : List (Nat × (World → Prop))) (b : World → Prop) (listed : Array Bool) (a : Act) (w : World), Cl md ops listed → (∀ x ∈ m, listed.getD x.1 false = false) →
      (∀ w, b w → c w) → (∀ x ∈ m, ∀ w, x.2 w → c w) → eagT md ops l (m.map (·.1)) listed = true → b w → wpEagF P ops Q c l m b a w → wpAnyF P md ops Q (sOf m b) l.length listed a w
  | [], m, b, listed, a, w, _, hm, _, _, hB, _, h => ⟨by simpa [eagT] using hB, h⟩
  | (i, 0) :: l, m, b, listed, a, w, hC, hm, hc, hcm, hB, hb, h => by
    simp only [eagT, Bool.and_eq_true] at hB
    obtain ⟨hr, hf, hms, hB'⟩ := hB
    obtain ⟨o, v, ho, hy, hrest⟩ := h
    have hbase : ∀ listed' : Array Bool, (∀ x ∈ m, listed'.getD x.1 false = false) → sOf m b listed' = b := by
      intro listed' h'
      cases m with
      | nil => rfl
      | cons x r => simp only [sOf]; rw [if_neg (by rw [h' x (by simp)]; simp)]
    have hmi : ∀ x ∈ m, x.1 ≠ i := fun x hx e => by
      have := List.all_eq_true.1 hms x.1 (List.mem_map.2 ⟨x, hx, rfl⟩)
      simp [e] at this
    have hmr : ∀ x ∈ m, reachT md ops 20 x.1 i = true := fun x hx => by
      have := List.all_eq_true.1 hms x.1 (List.mem_map.2 ⟨x, hx, rfl⟩)
      rw [Bool.and_eq_true] at this
      exact this.2
    have hir : i ∈ Region.ready md ops listed := by simpa using hr
    refine wpAnyF_firstT (T := b) ho (Region.noSelect_spec hs) (fun c a w => hQ c _ _ a w) (fun listed w => by rw [sOf_other m b listed hmi]) (fun j listed hCl hj hun h w hw => h w (by
        rw [sOf_other m b listed (fun x hx e => by
          have h1 := reach_ready hCl (e ▸ hj) (hmr x hx)
          rcases Nat.lt_or_ge i listed.size with h' | h'
          · simp [h'] at h1 hun; rw [hun] at h1; cases h1
          · simp [Array.getElem?_eq_none h'] at h1)] at hw
        exact hw))
      l.length listed a w hC (by rw [hbase listed hm]; exact fun _ h => h) (Region.free_spec ho hf) hir hy (by rw [hbase listed hm]; exact hb) ?_
    exact wpAnyF_of_eagT hs hQ l m b _ _ _ (hC.step (by simpa using hr)) (fun x hx => by rw [getD_set_ne false (Ne.symm (hmi x hx))]; exact hm x hx) hc hcm hB' hb hrest
  | (i, n + 3) :: l, m, b, listed, a, w, hC, hm, hc, hcm, hB, hb, h => by
    simp only [eagT, Bool.and_eq_true, Bool.not_eq_true'] at hB
    obtain ⟨hr, hf, hni, hB'⟩ := hB
    obtain ⟨o, v, ho, hy, hrest⟩ := h
    have hmi : ∀ x ∈ m, x.1 ≠ i := fun x hx e => by
      have : (m.map (·.1)).contains i = true := by simp only [List.contains_iff_mem]; exact List.mem_map.2 ⟨x, hx, e⟩
      rw [this] at hni; cases hni
    have hbase : ∀ listed' : Array Bool, (∀ x ∈ m, listed'.getD x.1 false = false) → sOf m b listed' = b := by
      intro listed' h'
      cases m with
      | nil => rfl
      | cons x r => simp only [sOf]; rw [if_neg (by rw [h' x (by simp)]; simp)]
    refine wpAnyF_firstT (T := c) ho (Region.noSelect_spec hs) (fun c a w => hQ c _ _ a w) (fun listed w => by rw [sOf_other m b listed hmi]) (fun _ _ _ _ _ _ => sOf_c m b _ hc hcm)
      l.length listed a w hC (sOf_c m b _ hc hcm) (Region.free_spec ho hf) (by simpa using hr) hy (by rw [hbase listed hm]; exact hb) ?_
    exact wpAnyF_of_eagT hs hQ l m b _ _ _ (hC.step (by simpa using hr)) (fun x hx => by rw [getD_set_ne false (Ne.symm (hmi x hx))]; exact hm x hx) hc hcm hB' hb hrest
  | (i, 1) :: l, m, b, listed, a, w, hC, hm, hc, hcm, hB, hb, h => by
    simp only [eagT, Bool.and_eq_true, decide_eq_true_eq, Bool.not_eq_true'] at hB
    obtain ⟨hr, hni, hB'⟩ := hB
    have hmi : ∀ x ∈ m, x.1 ≠ i := fun x hx e => by
      have : (m.map (·.1)).contains i = true := by simp only [List.contains_iff_mem]; exact List.mem_map.2 ⟨x, hx, e⟩
      rw [this] at hni; cases hni
    have hm' : ∀ x ∈ m, (listed.setIfInBounds i true).getD x.1 false = false := fun x hx => by rw [getD_set_ne false (Ne.symm (hmi x hx))]; exact hm x hx
    have hbase : sOf m b (listed.setIfInBounds i true) = b := by
      cases m with
      | nil => rfl
      | cons x r => simp only [sOf]; rw [if_neg (by rw [hm' x (by simp)]; simp)]
    refine ⟨fun h0 => (by rw [h0] at hr; cases hr), fun j hj => ?_⟩; rw [hr] at hj
    have hji : j = i := by simpa using hj
    subst hji
    refine wpOp_mono (fun a' w' h' => ⟨by rw [hbase]; exact h'.1, wpAnyF_of_eagT hs hQ l m b _ _ _ (hC.step (by rw [hr]; simp)) hm' hc hcm hB' h'.1 h'.2⟩) h
  | (i, 2) :: l, [], b, listed, a, w, hC, hm, hc, hcm, hB, hb, h => by simp [eagT] at hB
  | (i, 2) :: l, (m, p) :: r, b, listed, a, w, hC, hm, hc, hcm, hB, hb, h => by
    simp only [eagT, List.map_cons, Bool.and_eq_true, decide_eq_true_eq, beq_iff_eq, Bool.not_eq_true'] at hB
    obtain ⟨hr, hmi, hlt, hni, hB'⟩ := hB
    subst hmi
    have hri : ∀ x ∈ r, x.1 ≠ m := fun x hx e => by
      have : (r.map (·.1)).contains m = true := by simp only [List.contains_iff_mem]; exact List.mem_map.2 ⟨x, hx, e⟩
      rw [this] at hni; cases hni
    have hm' : ∀ x ∈ r, (listed.setIfInBounds m true).getD x.1 false = false := fun x hx => by rw [getD_set_ne false (Ne.symm (hri x hx))]; exact hm x (by simp [hx])
    have hset : ∀ (listed' : Array Bool), listed'.getD m false = true → sOf ((m, p) :: r) b listed' = sOf r p listed' := fun listed' h' => by simp only [sOf]; rw [if_pos h']
    have hgot : (listed.setIfInBounds m true).getD m false = true := by simp [Array.getD_eq_getD_getElem?, hlt]
    have hbase : sOf r p (listed.setIfInBounds m true) = p := by
      cases r with
      | nil => rfl
      | cons x r => simp only [sOf]; rw [if_neg (by rw [hm' x (by simp)]; simp)]
    refine ⟨fun h0 => (by rw [h0] at hr; cases hr), fun j hj => ?_⟩; rw [hr] at hj
    have hji : j = m := by simpa using hj
    subst hji
    have h : wpOp P ops Q j (fun a' w' => p w' ∧ wpEagF P ops Q c l r p a' w') a w := by simpa only [wpEagF] using h
    refine wpOp_mono (fun a' w' h' => ⟨by rw [hset _ hgot, hbase]; exact h'.1, ?_⟩) h; refine wpAnyF_congr (S := sOf r p) (fun listed' => listed'.getD j false = true) ?_ (fun listed' h' => (hset listed' h').symm) _ _ _ _ hgot (wpAnyF_of_eagT hs hQ l r p _ _ _ (hC.step (by rw [hr]; simp)) hm' (hcm (j, p) (by simp)) (fun x hx => hcm x (by simp [hx])) hB' h'.1 h'.2); intro listed' k hk
    by_cases hkj : k = j
    · subst hkj
      rcases Nat.lt_or_ge k listed'.size with h' | h'
      · simp [Array.getD_eq_getD_getElem?, h']
      · rw [show listed'.setIfInBounds k true = listed' from by simp [Array.setIfInBounds, Nat.not_lt.2 h']]; exact hk
    · rw [getD_set_ne false hkj]; exact hk
theorem wp_region_eagT {id : Nat} {a : Act} {w : World} {l : List Oper} {c : World → Prop} (m : List (Nat × (World → Prop))) (b : World → Prop) (ord : List (Nat × Nat)) (hm : P.follows .mixedOrders = true)
    (hB : (Region.noSelect l.toArray && (decide (ord.length = l.length) && eagT .any l.toArray ord (m.map (·.1)) (Array.replicate l.length false))) = true)
    (hQ : ∀ c d v a w, Q (.panic c) (Act.put a d v) w → Q (.panic c) a w) (hb : b w.drew) (hc : ∀ w, b w → c w) (hcm : ∀ x ∈ m, ∀ w, x.2 w → c w)
    (h : wpEagF P l.toArray Q c ord m b a w.drew) : (Code.region id l.toArray true).wp P Q a w := by
  simp only [Bool.and_eq_true, decide_eq_true_eq] at hB
  obtain ⟨hs, hl, hB⟩ := hB
  refine wp_region_any hm ?_
  have hx : ∀ x ∈ m, (Array.replicate l.length false).getD x.1 false = false := fun x _ => by
    rw [Array.getD_eq_getD_getElem?]
    rcases Nat.lt_or_ge x.1 l.length with h' | h' <;> simp [h', Array.getElem?_replicate]
  have := wpAnyF_of_eagT (md := .any) hs hQ ord m b _ a w.drew (fun k ok hk h => by
    rw [Array.getD_eq_getD_getElem?] at h
    rcases Nat.lt_or_ge k l.length with h' | h' <;> simp [h', Array.getElem?_replicate] at h) hx hc hcm hB hb h
  rw [hl] at this
  exact wpAny_of_F _ _ _ _ (by simpa using this)
end
section
variable {R : Option Nat} {P : Program} {ops : Array Oper} {Q : Exit → Act → World → Prop} {B : World} {F : List Nat} {s0 : Option (List Blk × List Blk)}
theorem wk_drawsT {id : Nat} {a : Act} {s : List Blk} {l : List Oper} (z z1 : List Blk) (ord : List (Nat × Nat)) (mk : List Nat) (hm : P.follows .mixedOrders = true)
    (hB : ((Region.noSelect l.toArray && (decide (ord.length = l.length) && eagT .any l.toArray ord mk (Array.replicate l.length false))) &&
      ((ord.all fun p => decide (p.1 < l.length)) && (decide (mk.length ≤ 1) && decide ((ord.map (·.2)).filter (· == 2) = mk.map fun _ => 2)))) = true)
    (hQ : ∀ c d v a w, Q (.panic c) (Act.put a d v) w → Q (.panic c) a w) (hz : z.Sublist s) (hzz : mk = [] → z = z1)
    (h : Rg none P l.toArray Q B F (some (z, z1)) (ord.map fun p => (l.getD p.1 default, p.2)) a s) (hy : z1.Sublist z := by exact List.Sublist.refl _) : Wk none P B F Q a s (Code.region id l.toArray true) := fun w K => by
  simp only [Bool.and_eq_true, decide_eq_true_eq, List.all_eq_true] at hB
  obtain ⟨hB1, h1, h3, h4⟩ := hB
  refine wpIn_wide.2 ?_
  match mk, h3, h4, hB1, hzz with
  | [], _, h4, hB1, hzz =>
    refine wp_region_eagT [] (Kn B F z) ord hm (by simp only [Bool.and_eq_true, decide_eq_true_eq]; exact hB1) hQ (K.drew.sub hz) (fun w K => K.sub hy) (fun x hx => nomatch hx) ?_; refine rg_eag l rfl 0 ord (z, z1) a s [] (.inr ⟨rfl, hzz rfl, fun p hp e => ?_⟩) (by rw [if_pos rfl]; exact h4) (by simpa [List.all_eq_true] using h1) h w.drew K.drew
    have : p.2 ∈ (ord.map (·.2)).filter (· == 2) := List.mem_filter.2 ⟨List.mem_map.2 ⟨p, hp, rfl⟩, by simp [e]⟩
    rw [h4] at this; cases this
  | [x], _, h4, hB1, _ =>
    refine wp_region_eagT [(x, Kn B F z1)] (Kn B F z) ord hm (by simp only [Bool.and_eq_true, decide_eq_true_eq]; exact hB1) hQ (K.drew.sub hz) (fun w K => K.sub hy) (fun x hx w K => by simp only [List.mem_singleton] at hx; subst hx; exact K) ?_
    exact rg_eag l rfl x ord (z, z1) a s [(x, Kn B F z1)] (.inl rfl) (by rw [if_neg (by simp)]; exact h4) (by simpa [List.all_eq_true] using h1) h w.drew K.drew
  | _ :: _ :: _, h3, _, _, _ => simp at h3
theorem wk_drawsT_m {id : Nat} {a : Act} {s z1 : List Blk} (hz1 : z1.Sublist s) {l : List Oper} (ord : List (Nat × Nat)) (mk : Nat) (hm : P.follows .mixedOrders = true)
    (hB : ((Region.noSelect l.toArray && (decide (ord.length = l.length) && eagT .any l.toArray ord [mk] (Array.replicate l.length false))) &&
      ((ord.all fun p => decide (p.1 < l.length)) && (decide ([mk].length ≤ 1) && decide ((ord.map (·.2)).filter (· == 2) = [mk].map fun _ => 2)))) = true)
    (hQ : ∀ c d v a w, Q (.panic c) (Act.put a d v) w → Q (.panic c) a w)
    (h : Rg none P l.toArray Q B F (some (s, z1)) (ord.map fun p => (l.getD p.1 default, p.2)) a s) : Wk none P B F Q a s (Code.region id l.toArray true) :=
  wk_drawsT s z1 ord [mk] hm hB hQ (List.Sublist.refl _) (fun e => nomatch e) h hz1
end
def PairR (N col : Nat) (K : Int) (z : Zt) (L : List It) (z' : Zt) (L' : List It) : Prop :=
  (z' = z ∧ L' = L ∧ ∀ i j, col ≤ i → i < j → j < N → kindN (z i col) K ≠ 0 → kindN (z j col) K ≠ kindN (z i col) K) ∨
  ∃ a b : Nat, col ≤ a ∧ a < b ∧ b < N ∧ kindN (z a col) K ≠ 0 ∧ kindN (z b col) K = kindN (z a col) K ∧ z' = cpZ a (phZ (a + 1) ((matchN (z a col) ((bsZ b z (b - (a + 1))) (a + 1) col) + 6) % 8) (bsZ b z (b - (a + 1)))) ∧ L' = (if ((matchN (z a col) ((bsZ b z (b - (a + 1))) (a + 1) col) + 6) % 8) = 0 then (L ++ bsL b (b - (a + 1))) else (L ++ bsL b (b - (a + 1))) ++ [phsI (((a + 1 : Nat) : Int) + 1) (((matchN (z a col) ((bsZ b z (b - (a + 1))) (a + 1) col) + 6) % 8) : Nat)]) ++ [cplI ((a : Int) + 1)]
theorem wpair_any (N col gw : Nat) (K : Int) (z : Zt) (L : List It) (s : List Blk) (hS : WS N gw z L s) (hN : N ≤ 6) (hL : L.length + 20 ≤ 100000) (hc : col < N) (w : World) (hK : Kn w (s.map (·.1)) s w) : Calls Tryz.prog 39 #[.pointer (some ⟨gw, 0, none⟩), .int .i64 (col : Int), .int .i64 K] w fun e w' => e = .returned (.tuple #[]) ∧ ∃ s', Kn w (s.map (·.1)) s' w' ∧ ∃ z' L', WS N gw z' L' s' ∧ PairR N col K z L z' L' := by
 obtain ⟨go, oc, ro, rs, ia, ic, u, hse, hrl, hoc, hlen, hval, hO, hok⟩ := hS.open_
 go_enter Tryz.func39, Tryz.ntmps39
 refine wk_startF (Kn.to hse hK.nil') ?_
 refine wk_seq ?_
 refine wk_region [0, 0] rfl Kx ?_
 refine Zm ?_
 refine rg_nil (ek_next (wk_block ?_))
 refine wk_loopF [6, 7, 8, 10, 11, 12, 13, 14, 15, 16, 17, 18, 19, 20, 21, 22, 23, 24, 25, 26, 27, 28, 29, 30, 31, 32, 33, 34, 35, 36, 37, 38, 39, 40, 41, 42, 43, 44, 45, 46, 47, 48, 49, 50, 51, 52, 53, 54, 55, 56, 57, 58, 59, 60, 61, 62, 63, 64, 65, 66, 67, 68, 69, 70, 71, 72, 73, 74, 75, 76, 77, 78, 79, 80, 81, 82, 83, 84, 85] (fun mz f s => ∃ (a : Nat), f 6 = .int .i64 a ∧ s = ((gw, .cells #[.slice (some ⟨go, 0, none⟩) N oc, .slice ia L.length ic] 49) :: ((go, .cells (rwV N (rs) ++ ro).toArray 22) :: (rwB rs ++ (u ++ [])))) ∧ mz = N - a ∧ col ≤ a ∧ a ≤ N ∧ (∀ i j, col ≤ i → i < a → i < j → j < N → kindN (z i col) K ≠ 0 → kindN (z j col) K ≠ kindN (z i col) K)) ((fun (a : Nat) => N - a) (col)) ?_ Kx ?_
 ·exact ⟨col, rfl, rfl, rfl, by omega, by omega, (fun i j h1 h2 => absurd h2 Ox)⟩
 rintro mz f1 s ⟨a, hs1_6, rfl, hn, hd1, hd2, hd3⟩
 simp only [Act.putF, List.foldl_cons, List.foldl_nil, hs1_6, Act.put, Act.eval, q1, q2, q3, q4, q5, q6, q7, q8, q9, q10, q11, q12, q13, q14, q15, q16, q17, q18, Nat.reduceAdd, Bool.not_true, Bool.not_false]
 clear hs1_6
 have ho := hd3
 clear hd3
 refine wk_seq (wk_seq ?_)
 refine wk_region [0, 0, 0, 0, 0, 0, 0] rfl Kx ?_
 refine Zm ?_
 refine Zk ?_
 refine rf_field (n := 0) (j := 0) rfl rfl rfl Tryz.underlying49 rfl Kx rfl ?_
 simp only [qz]
 refine rf_load rfl rfl rfl Tryz.underlying47 rfl (fun w hw => (Kn.hd0 hw).at rfl) ?_
 simp only [qz]
 refine rf_len rfl rfl rfl Tryz.underlying47 ?_
 simp only [qz]
 refine rfb_lss rfl rfl rfl rfl ?_
 intro x h1
 cases x
 ·(try simp only [qd, ne_eq] at h1)
  simp only [qz]; refine rg_nil (ek_next (wk_cond_f rfl (wk_exit (ek_then_exit (ek_then_exit (ek_block_exit ?_)))))); refine ek_norm (fun w hw => ⟨rfl, _, res_0 rfl, ?_⟩); (try simp only [qz])
  obtain rfl : a = N := by omega
  exact ⟨(by first | rfl | trivial), _, Kn.of_nil (hw.to hse.symm), _, _, hS, .inl ⟨rfl, rfl, fun i j h1 h2 h3 h4 => ho i j h1 Ox h2 h3 h4⟩⟩
 (try simp only [qd, ne_eq] at h1)
 simp only [qz]
 refine rg_nil (ek_next (wk_cond_t rfl (wk_skip (ek_next (wk_seq (wk_block (wk_seq ?_)))))))
 obtain ⟨⟨b1, c1, l1, r1⟩, hx1⟩ : ∃ x, rs[a]? = some x := ⟨rs[a]'Ox, List.getElem?_eq_getElem Ox⟩
 have hl1 : l1.length = N := hlen ⟨b1, c1, l1, r1⟩ (List.mem_of_getElem? hx1)
 have hz1 : nm l1 col = z (a) col := hval _ _ hx1 col hc
 refine wk_region [0, 0, 0, 0, 0, 0, 0, 0, 0, 0, 1, 1] rfl Kx ?_
 refine Zm ?_
 refine Zk ?_
 refine rf_field (n := 0) (j := 0) rfl rfl rfl Tryz.underlying49 rfl Kx rfl ?_
 simp only [qz]
 refine rf_load rfl rfl rfl Tryz.underlying47 rfl (fun w hw => (Kn.hd0 hw).at rfl) ?_
 refine Zm ?_
 refine rf_indexS (n := a) (sz := 1) (j := a) rfl rfl rfl rfl Tryz.underlying47 Kx Ox Ox Ox ?_
 simp only [qz]
 refine rf_load (v := .slice (some ⟨b1, 0, none⟩) N c1) rfl rfl rfl Tryz.underlying22 rfl (fun w hw => Kn.outer (Kn.tl hw) (hx1)) ?_
 refine Zm ?_
 refine rf_indexS (n := col) (sz := 5) (j := 0 + col * 5) rfl rfl rfl rfl Tryz.underlying22 Kx Ox Ox rfl ?_
 simp only [qz]
 refine rf_loadC (n := 5) (vs := [.int .i64 (z a col).a, .int .i64 (z a col).b, .int .i64 (z a col).c, .int .i64 (z a col).d, .int .i64 (z a col).k]) rfl rfl rfl Tryz.underlying55 rfl Kx rfl (fun w hw => atN_range (by have := Kn.row (Kn.tl (Kn.tl hw)) hx1 (k := col) (by rw [hl1]; exact hc); rw [hz1] at this; exact this)) ?_
 simp only [qz]
 refine Rgn fun g1 => ?_
 simp only [qz]
 refine rf_storeR (n := 5) rfl rfl Kx rfl rfl (UpdR.here _ _ _ Nl) Nz ?_
 simp only [qz, Nat.reduceAdd]
 refine rg_nil (ek_next (wk_seq (wk_seq ?_)))
 refine wk_region [0, 0, 1, 0] rfl Kx ?_
 simp only [qy]
 refine rf_loadR (n := 5) rfl rfl rfl Tryz.underlying55 rfl Kx (fun w hw => Kn.hd0 hw) rfl rfl ?_
 refine Zm ?_
 apply rg_pure Rx Kx
 case hargs => exact Ax
 case h => exact fun w hw => kind_any (z a col) K w
 case hz => exact Nz
 simp only [qz]
 refine rfb_eql rfl rfl rfl rfl ?_
 intro x h2
 cases x
 ·(try simp only [qd, ne_eq] at h2)
  simp only [qz]; refine rg_nil (ek_next (wk_cond_f rfl (wk_skip (ek_next (wk_seq ?_))))); refine wk_region [0, 0, 0] rfl Kx ?_; refine Zm ?_; refine rf_add rfl rfl rfl rfl (wrap_ok Ox Ox) ?_; refine Zm ?_; refine rg_nil (ek_next (wk_block ?_)); refine wk_loopF [8, 35, 36, 37, 38, 39, 40, 41, 42, 43, 44, 45, 46, 47, 48, 49, 50, 51, 52, 53, 54, 55, 56, 57, 58, 59, 60, 61, 62, 63, 64, 65, 66, 67, 68, 69, 70, 71, 72, 73, 74, 75, 76, 77, 78, 79, 80, 81, 82, 83, 84, 85] (fun mz f s => ∃ (b : Nat), f 8 = .int .i64 b ∧ s = ((g1, .cells #[.int .i64 (z a col).a, .int .i64 (z a col).b, .int .i64 (z a col).c, .int .i64 (z a col).d, .int .i64 (z a col).k] 55) :: ((gw, .cells #[.slice (some ⟨go, 0, none⟩) N oc, .slice ia L.length ic] 49) :: ((go, .cells (rwV N (rs) ++ ro).toArray 22) :: (rwB rs ++ (u ++ []))))) ∧ mz = N - b ∧ a < b ∧ b ≤ N ∧ (∀ j, a < j → j < b → kindN (z j col) K ≠ kindN (z a col) K)) ((fun (b : Nat) => N - b) (a + 1)) ?_ Kx ?_
  ·exact ⟨a + 1, rfl, rfl, rfl, by omega, by omega, (fun j h1 h2 => absurd h2 Ox)⟩
  rintro mz f2 s ⟨b, hs2_8, rfl, hn, he1, he2, he3⟩
  simp only [Act.putF, List.foldl_cons, List.foldl_nil, hs2_8, Act.put, Act.eval, q1, q2, q3, q4, q5, q6, q7, q8, q9, q10, q11, q12, q13, q14, q15, q16, q17, q18, Nat.reduceAdd, Bool.not_true, Bool.not_false]; clear hs2_8; refine wk_seq (wk_seq ?_); refine wk_region [0, 0, 0, 0, 0, 0, 0] rfl Kx ?_; refine Zm ?_; refine Zk ?_; refine rf_field (n := 0) (j := 0) rfl rfl rfl Tryz.underlying49 rfl Kx rfl ?_; simp only [qz]
  refine rf_load rfl rfl rfl Tryz.underlying47 rfl (fun w hw => (Kn.hd0 (Kn.tl hw)).at rfl) ?_; simp only [qz]; refine rf_len rfl rfl rfl Tryz.underlying47 ?_; simp only [qz]; refine rfb_lss rfl rfl rfl rfl ?_; intro x h3; cases x
  ·(try simp only [qd, ne_eq] at h3)
   simp only [qz]; refine rg_nil (ek_next (wk_cond_f rfl (wk_exit (ek_then_exit (ek_then_exit (ek_block_exit (ek_block (ek_next ?_)))))))); refine wk_region [0, 0, 0] rfl Kx ?_; refine Zm ?_; refine rf_add rfl rfl rfl rfl (wrap_ok Ox Ox) ?_; refine Zm ?_; refine rg_nil ?_; refine ek_sub (sk _ (sc _ (sc _ (List.Sublist.append_left (List.Sublist.append_left sn _) _)))) ?_; refine ek_roundF (N - (a + 1)) Ox Kx ?_
   exact ⟨a + 1, rfl, by rfl, by rfl, by omega, by omega, (fun i j y1 y2 y3 y4 y5 => if e : i = a then (by subst e; exact he3 j y3 Ox) else ho i j y1 Ox y3 y4 y5)⟩
  (try simp only [qd, ne_eq] at h3); simp only [qz]; refine rg_nil (ek_next (wk_cond_t rfl (wk_skip (ek_next (wk_seq (wk_block (wk_seq (wk_seq ?_))))))))
  obtain ⟨⟨b2, c2, l2, r2⟩, hx2⟩ : ∃ x, rs[b]? = some x := ⟨rs[b]'Ox, List.getElem?_eq_getElem Ox⟩
  have hl2 : l2.length = N := hlen ⟨b2, c2, l2, r2⟩ (List.mem_of_getElem? hx2)
  have hz2 : nm l2 col = z (b) col := hval _ _ hx2 col hc
  refine wk_draws _ _ [(0, 0), (1, 0), (2, 0), (3, 0), (4, 0), (5, 0), (6, 0), (7, 0), (8, 0), (9, 0), (10, 0), (12, 0), (13, 0), (11, 1), (14, 1), (15, 0)] [] Kx Kx (fun c d v a w h => by cases d <;> exact h) ((sc _ (sc _ (sc _ (List.Sublist.append_left (List.Sublist.append_left sn _) _))))) (fun e => by first | exact absurd e (by decide) | rfl) ?_; simp only [List.map_cons, List.map_nil, List.getD_cons_zero, List.getD_cons_succ]
  refine Zm ?_; refine Zk ?_; refine rf_field (n := 0) (j := 0) rfl rfl rfl Tryz.underlying49 rfl Kx rfl ?_; simp only [qz]; refine rf_load rfl rfl rfl Tryz.underlying47 rfl (fun w hw => (Kn.hd0 (Kn.tl hw)).at rfl) ?_; refine Zm ?_; refine rf_indexS (n := b) (sz := 1) (j := b) rfl rfl rfl rfl Tryz.underlying47 Kx Ox Ox Ox ?_; simp only [qz]; refine rf_load (v := .slice (some ⟨b2, 0, none⟩) N c2) rfl rfl rfl Tryz.underlying22 rfl (fun w hw => Kn.outer (Kn.tl (Kn.tl hw)) (hx2)) ?_
  refine Zm ?_; refine rf_indexS (n := col) (sz := 5) (j := 0 + col * 5) rfl rfl rfl rfl Tryz.underlying22 Kx Ox Ox rfl ?_; simp only [qz]; refine rf_loadC (n := 5) (vs := [.int .i64 (z b col).a, .int .i64 (z b col).b, .int .i64 (z b col).c, .int .i64 (z b col).d, .int .i64 (z b col).k]) rfl rfl rfl Tryz.underlying55 rfl Kx rfl (fun w hw => atN_range (by have := Kn.row (Kn.tl (Kn.tl (Kn.tl hw))) hx2 (k := col) (by rw [hl2]; exact hc); rw [hz2] at this; exact this)) ?_
  refine Zm ?_; refine rf_loadR (n := 5) rfl rfl rfl Tryz.underlying55 rfl Kx (fun w hw => Kn.hd0 hw) rfl rfl ?_; refine Zm ?_; apply rg_pure Rx Kx
  case hargs => exact Ax
  case h => exact fun w hw => kind_any (z b col) K w
  case hz => exact (fun _ h => by cases h; exact (sc _ (sc _ (sc _ (List.Sublist.append_left (List.Sublist.append_left sn _) _)))))
  simp only [qz]; apply rg_pure Rx Kx
  case hargs => exact Ax
  case h => exact fun w hw => kind_any (z a col) K w
  case hz => exact (fun _ h => by cases h; exact (sc _ (sc _ (sc _ (List.Sublist.append_left (List.Sublist.append_left sn _) _)))))
  simp only [qz]; refine rfb_neq rfl rfl rfl rfl ?_; intro x h4; cases x
  ·(try simp only [qd, ne_eq] at h4)
   simp only [qz]; refine rg_nil (ek_next (wk_cond_f rfl (wk_skip (ek_next (wk_seq ?_))))); rw [← hse]; refine wk_region [0, 0, 0, 0, 1] rfl Kx ?_; refine Zm ?_; refine rf_add (r := ((a + 1 : Nat) : Int)) rfl rfl rfl rfl (wrap_eqB Ox Ox Ox) ?_; simp only [qz]; refine rg_eff (T := fun uV => WS N gw (bsZ b z (b - (a + 1))) (L ++ bsL b (b - (a + 1))) uV) (vb := s) (rest := [(g1, .cells #[.int .i64 (z a col).a, .int .i64 (z a col).b, .int .i64 (z a col).c, .int .i64 (z a col).d, .int .i64 (z a col).k] 55)]) Rx Kx (by simp only [qm, qs, Act.eval]; try rfl) (perm_atU (l := [_]) (u := s) (List.Perm.refl _)) (fun w hw => wbeside_any N b (a + 1) gw z L s hS hN Ox Ox Ox w hw) (fun uV hTuV => ?_)
   simp only [qz]; refine rg_nil (ek_next (wk_seq ?_))
   obtain ⟨go2, oc2, ro2, rs2, ia2, ic2, u2, hse2, hrl2, hoc2, hlen2, hval2, hO2, hok2⟩ := hTuV.open_
   refine wk_perm ((((List.Perm.refl _).append_left _).trans (List.perm_middle (l₁ := uV))).trans ((List.Perm.refl _).cons _)) ?_; rw [hse2]
   obtain ⟨⟨b3, c3, l3, r3⟩, hx3⟩ : ∃ x, rs2[a + 1]? = some x := ⟨rs2[a + 1]'Ox, List.getElem?_eq_getElem Ox⟩
   have hl3 : l3.length = N := hlen2 ⟨b3, c3, l3, r3⟩ (List.mem_of_getElem? hx3)
   have hz3 : nm l3 col = (bsZ b z (b - (a + 1))) (a + 1) col := hval2 _ _ hx3 col hc
   have hmt := match_lt (z a col) ((bsZ b z (b - (a + 1))) (a + 1) col)
   have hy2 := hok2 (a + 1) col Ox hc
   refine wk_drawsT_m (hz1 := (sc _ (sk _ (sk _ ((sn.trans (List.sublist_append_right _ _)).trans (List.sublist_append_right _ _)))))) [(0, 0), (1, 0), (2, 0), (3, 0), (4, 0), (5, 0), (6, 0), (7, 0), (8, 0), (9, 0), (10, 0), (11, 0), (12, 0), (13, 0), (14, 0), (15, 1), (16, 0), (17, 2)] 17 Kx Kx (fun c d v a w h => by cases d <;> exact h) ?_; simp only [List.map_cons, List.map_nil, List.getD_cons_zero, List.getD_cons_succ]
   refine Zm ?_; refine rf_add (r := ((a + 1 : Nat) : Int)) rfl rfl rfl rfl (wrap_eqB Ox Ox Ox) ?_; simp only [qz]; refine rf_loadR (n := 5) rfl rfl rfl Tryz.underlying55 rfl Kx (fun w hw => Kn.hd0 hw) rfl rfl ?_; refine Zm ?_; refine Zk ?_; refine rf_field (n := 0) (j := 0) rfl rfl rfl Tryz.underlying49 rfl Kx rfl ?_; simp only [qz]; refine rf_load rfl rfl rfl Tryz.underlying47 rfl (fun w hw => (Kn.hd0 (Kn.tl hw)).at rfl) ?_
   refine Zm ?_; refine rf_add rfl rfl rfl rfl (wrap_ok Ox Ox) ?_; simp only [qz]; refine rf_indexS (n := a + 1) (sz := 1) (j := a + 1) rfl rfl rfl rfl Tryz.underlying47 Kx Ox Ox Ox ?_; simp only [qz]; refine rf_load (v := .slice (some ⟨b3, 0, none⟩) N c3) rfl rfl rfl Tryz.underlying22 rfl (fun w hw => Kn.outer (Kn.tl (Kn.tl hw)) (hx3)) ?_; refine Zm ?_; refine rf_indexS (n := col) (sz := 5) (j := 0 + col * 5) rfl rfl rfl rfl Tryz.underlying22 Kx Ox Ox rfl ?_
   simp only [qz]; refine rf_loadC (n := 5) (vs := [.int .i64 ((bsZ b z (b - (a + 1))) (a + 1) col).a, .int .i64 ((bsZ b z (b - (a + 1))) (a + 1) col).b, .int .i64 ((bsZ b z (b - (a + 1))) (a + 1) col).c, .int .i64 ((bsZ b z (b - (a + 1))) (a + 1) col).d, .int .i64 ((bsZ b z (b - (a + 1))) (a + 1) col).k]) rfl rfl rfl Tryz.underlying55 rfl Kx rfl (fun w hw => atN_range (by have := Kn.row (Kn.tl (Kn.tl (Kn.tl hw))) hx3 (k := col) (by rw [hl3]; exact hc); rw [hz3] at this; exact this)) ?_
   simp only [qz]; apply rg_pure Rx Kx
   case hargs => exact Ax
   case h => exact fun w hw => match_any (z a col) ((bsZ b z (b - (a + 1))) (a + 1) col) hy2 w
   case hz => exact (fun _ h => by cases h; exact (sc _ (sc _ (sc _ (List.Sublist.append_left (List.Sublist.append_left sn _) _)))))
   simp only [qz]; refine rf_sub rfl rfl rfl rfl (wrap_ok Ox Ox) ?_; simp only [qz]; refine rg_effM (T := fun uW => WS N gw (phZ (a + 1) ((matchN (z a col) ((bsZ b z (b - (a + 1))) (a + 1) col) + 6) % 8) (bsZ b z (b - (a + 1)))) (if ((matchN (z a col) ((bsZ b z (b - (a + 1))) (a + 1) col) + 6) % 8) = 0 then (L ++ bsL b (b - (a + 1))) else (L ++ bsL b (b - (a + 1))) ++ [phsI (((a + 1 : Nat) : Int) + 1) (((matchN (z a col) ((bsZ b z (b - (a + 1))) (a + 1) col) + 6) % 8) : Nat)]) uW) (vb := uV) (rest := [(g1, .cells #[.int .i64 (z a col).a, .int .i64 (z a col).b, .int .i64 (z a col).c, .int .i64 (z a col).d, .int .i64 (z a col).k] 55)]) Rx Kx (by simp only [qm, qs, Act.eval]; try rfl) (by rw [← hse2]; exact (perm_atU (l := [_]) (u := uV) (List.Perm.refl _))) (sc _ sn) (fun w hw => wphase_any N (a + 1) gw (bsZ b z (b - (a + 1))) (L ++ bsL b (b - (a + 1))) uV hTuV hN (by rw [List.length_append, bsL_len]; omega) Ox _ ((matchN (z a col) ((bsZ b z (b - (a + 1))) (a + 1) col) + 6) % 8) Ox w hw) (fun uW hTuW => ?_)
   simp only [qz]; refine rg_nil (ek_next (wk_seq ?_)); refine wk_region [0, 0, 1] rfl Kx ?_; refine Zm ?_; refine rg_eff (T := fun uX => WS N gw (cpZ a (phZ (a + 1) ((matchN (z a col) ((bsZ b z (b - (a + 1))) (a + 1) col) + 6) % 8) (bsZ b z (b - (a + 1))))) ((if ((matchN (z a col) ((bsZ b z (b - (a + 1))) (a + 1) col) + 6) % 8) = 0 then (L ++ bsL b (b - (a + 1))) else (L ++ bsL b (b - (a + 1))) ++ [phsI (((a + 1 : Nat) : Int) + 1) (((matchN (z a col) ((bsZ b z (b - (a + 1))) (a + 1) col) + 6) % 8) : Nat)]) ++ [cplI ((a : Int) + 1)]) uX) (vb := uW) (rest := [(g1, .cells #[.int .i64 (z a col).a, .int .i64 (z a col).b, .int .i64 (z a col).c, .int .i64 (z a col).d, .int .i64 (z a col).k] 55)]) Rx Kx (by simp only [qm, qs, Act.eval]; try rfl) (List.Perm.refl _) (fun w hw => wcouple_any N a gw (phZ (a + 1) ((matchN (z a col) ((bsZ b z (b - (a + 1))) (a + 1) col) + 6) % 8) (bsZ b z (b - (a + 1)))) (if ((matchN (z a col) ((bsZ b z (b - (a + 1))) (a + 1) col) + 6) % 8) = 0 then (L ++ bsL b (b - (a + 1))) else (L ++ bsL b (b - (a + 1))) ++ [phsI (((a + 1 : Nat) : Int) + 1) (((matchN (z a col) ((bsZ b z (b - (a + 1))) (a + 1) col) + 6) % 8) : Nat)]) uW hTuW hN (by split <;> simp only [List.length_append, bsL_len, List.length_cons, List.length_nil] <;> omega) Ox w hw) (fun uX hTuX => ?_)
   simp only [qz]; refine rg_nil (ek_next (wk_ret (ek_block_ret (ek_then_ret (ek_then_ret (ek_block_ret (ek_block_ret (ek_then_ret (ek_then_ret (ek_block_ret ?_)))))))))); refine ek_sub (List.Sublist.append_left (sk _ sn) _) ?_; refine ek_ret (fun w hw => ⟨rfl, _, res_0 rfl, ?_⟩); (try simp only [qz])
   exact ⟨(by first | rfl | trivial), _, hw.of_nil, _, _, hTuX, .inr ⟨a, b, by omega, by omega, by omega, h2, by omega, rfl, rfl⟩⟩
  (try simp only [qd, ne_eq] at h4); simp only [qz]; refine rg_nil (ek_next (wk_cond_t rfl (wk_exit (ek_then_exit (ek_block_exit (ek_next ?_)))))); refine wk_region [0, 0, 0] rfl Kx ?_; refine Zm ?_; refine rf_add rfl rfl rfl rfl (wrap_ok Ox Ox) ?_; refine Zm ?_; refine rg_nil ?_; refine ek_roundF (N - (b + 1)) Ox Kx ?_
  exact ⟨b + 1, rfl, by rfl, by rfl, by omega, by omega, (fun j y1 y2 => if e : j = b then e ▸ h4 else he3 j y1 Ox)⟩
 (try simp only [qd, ne_eq] at h2)
 simp only [qz]
 refine rg_nil (ek_next (wk_cond_t rfl (wk_exit (ek_then_exit (ek_block_exit (ek_next ?_))))))
 refine wk_region [0, 0, 0] rfl Kx ?_
 refine Zm ?_
 refine rf_add rfl rfl rfl rfl (wrap_ok Ox Ox) ?_
 refine Zm ?_
 refine rg_nil ?_
 refine ek_sub (sk _ (sc _ (sc _ (List.Sublist.append_left (List.Sublist.append_left sn _) _)))) ?_
 refine ek_roundF (N - (a + 1)) Ox Kx ?_
 exact ⟨a + 1, rfl, by rfl, by rfl, by omega, by omega, (fun i j y1 y2 y3 y4 y5 => if e : i = a then absurd h2 (e ▸ y5) else ho i j y1 Ox y3 y4 y5)⟩
section
variable {R : Option Nat} {P : Program} {ops : Array Oper} {Q : Exit → Act → World → Prop} {B : World} {F : List Nat} {fuel : Nat} {listed : Array Bool} {a : Act} {s : List Blk}
theorem oper_out {K : Act → World → Prop} {o : Oper} {w : World} (h : o.wpIn (FR R) 0 P a w K (Exit.then K Q)) : o.wpIn (FR R) 0 P a w K Q := by
  unfold Oper.wpIn at *
  refine ⟨h.1, ?_⟩
  have h := h.2
  generalize (o.semAt (FR R).round a.eval).run P w = r at *
  cases r with
  | ok n w' =>
    cases n <;> simp only [Oper.uponIn] at h ⊢ <;>
      first
        | exact h
        | exact ⟨h.1, CallsIn.mono h.2 (fun e w'' he => by cases e <;> first | exact he | (obtain ⟨a₀, w₀, h₀⟩ := he; exact ⟨a₀, w₀, h₀⟩))⟩
        | exact ⟨h.1, RoundIn.mono h.2 (fun e w'' he => by cases e <;> first | exact he | (obtain ⟨a₀, w₀, h₀⟩ := he; exact ⟨a₀, w₀, h₀⟩))⟩
  | halt x w' => cases x <;> simp only [Oper.uponIn] at h ⊢ <;> exact h
theorem op_one {i : Nat} {o : Oper} {K : Act → World → Prop} {w : World} (ho : ops[i]? = some o) (h : wpListIn (FR R) 0 P ops (Exit.then K Q) [o] a w) : wpOpIn (FR R) 0 P ops Q i K a w := by
  unfold wpOpIn
  simp only [ho]
  unfold wpListIn at h
  split
  · next hw =>
    rw [if_pos hw] at h
    exact oper_out h
  · next hw =>
    rw [if_neg hw] at h
    exact h
end
def noOut (Q : Exit → Act → World → Prop) (e : Exit) (a : Act) (w : World) : Prop := match e with
  | .outgrown => False
  | e => Q e a w
theorem ek_out {Q : Exit → Act → World → Prop} {B : World} {F : List Nat} {a : Act} {s : List Blk} (h : Ek B F Q .normal a s) : Ek B F (noOut Q) .normal a s := h
theorem noOut_imp {Q : Exit → Act → World → Prop} {e : Exit} {a : Act} {w : World} (h : noOut Q e a w) : Q e a w := by
  cases e <;> first | exact h | exact h.elim
section
variable {R : Option Nat} {P : Program} {ops : Array Oper} {Q : Exit → Act → World → Prop} {md : Region.Mode}
theorem hop_post {Q' : Exit → Act → World → Prop} {K : Act → World → Prop} {o : Oper} {a : Act} {w : World} (hq : ∀ e a w, Q e a w → Q' e a w) (h : hop P ops Q K o a w) : hop P ops Q' K o a w := by
  unfold hop at *
  split
  · rename_i hw
    rw [if_pos hw] at h
    unfold Oper.wp at *
    generalize (execOp a.eval o).run P w = r at *
    cases r with
    | ok n w' =>
      cases n <;> simp only [Oper.upon] at h ⊢ <;>
        first
          | exact h
          | exact Calls.mono h (fun e w'' he => by cases e <;> first | exact he | exact hq _ _ _ he | (obtain ⟨a₀, w₀, h₀⟩ := he; exact ⟨a₀, w₀, hq _ _ _ h₀⟩))
    | halt x w' => cases x <;> simp only [Oper.upon] at h ⊢ <;> first | exact hq _ _ _ h | exact h
  · rename_i hw; rw [if_neg hw] at h; exact h
theorem op_in {i : Nat} {K K' : Act → World → Prop} {a : Act} {w : World} (hd : ∀ (i : Nat) (o : Oper), ops[i]? = some o → noDefer [o] = true) (hk : ∀ a w, K a w → K' a w) (h : wpOp P ops (noOut Q) i K a w) : wpOpIn (FR R) 0 P ops Q i K' a w := by
  unfold wpOp at h
  cases ho : ops[i]? with
  | none => rw [ho] at h; unfold wpOpIn; simp only [ho]; exact hk _ _ h
  | some o =>
    rw [ho] at h
    simp only at h
    have hh : hop P ops Q K' o a w := by
      refine hop_mono hk (hop_post (fun e a w h => noOut_imp h) (?_ : hop P ops (noOut Q) K o a w))
      unfold hop
      split at h
      · rename_i hw
        rw [if_pos hw]
        rcases h with h | ⟨-, a₀, w₀, h₀⟩
        · exact h
        · exact h₀.elim
      · rename_i hw
        rw [if_neg hw]; exact h
    refine op_one ho ?_
    have h2 : hop P ops (Exit.then K' Q) K' o a w := by
      unfold hop at hh ⊢
      split
      · rename_i hw
        rw [if_pos hw] at hh
        unfold Oper.wp at *
        generalize (execOp a.eval o).run P w = r at *
        cases r with
        | ok n w' =>
          cases n <;> simp only [Oper.upon] at hh ⊢ <;>
            first
              | exact hh
              | exact Calls.mono hh (fun e w'' he => by cases e <;> first | exact he | (obtain ⟨a₀, w₀, h₀⟩ := he; exact ⟨a₀, w₀, h₀⟩))
        | halt x w' => cases x <;> simp only [Oper.upon] at hh ⊢ <;> exact hh
      · rename_i hw; rw [if_neg hw] at hh; exact hh
    exact hop_in (hd i o ho) h2 (fun a w hk => by unfold wpListIn; exact hk)
theorem any_in (hd : ∀ (i : Nat) (o : Oper), ops[i]? = some o → noDefer [o] = true) : ∀ (fuel : Nat) (listed : Array Bool) (a : Act) (w : World), wpAny P md ops (noOut Q) fuel listed a w → wpAnyIn (FR R) 0 P md ops Q fuel listed a w
  | 0, _, _, _, h => h
  | fuel + 1, _, _, _, h => ⟨h.1, fun i hi => op_in hd (fun a' w' h' => any_in hd fuel _ a' w' h') (h.2 i hi)⟩
theorem any_eagT {a : Act} {w : World} {l : List Oper} {c : World → Prop} (m : List (Nat × (World → Prop))) (b : World → Prop) (ord : List (Nat × Nat)) 
    (hB : (Region.noSelect l.toArray && (decide (ord.length = l.length) && eagT .any l.toArray ord (m.map (·.1)) (Array.replicate l.length false))) = true)
    (hQ : ∀ c d v a w, Q (.panic c) (Act.put a d v) w → Q (.panic c) a w) (hb : b w.drew) (hc : ∀ w, b w → c w) (hcm : ∀ x ∈ m, ∀ w, x.2 w → c w)
    (h : wpEagF P l.toArray Q c ord m b a w.drew) : wpAny P .any l.toArray Q l.length (Array.replicate l.length false) a w.drew := by
  simp only [Bool.and_eq_true, decide_eq_true_eq] at hB
  obtain ⟨hs, hl, hB⟩ := hB
  have hx : ∀ x ∈ m, (Array.replicate l.length false).getD x.1 false = false := fun x _ => by
    rw [Array.getD_eq_getD_getElem?]
    rcases Nat.lt_or_ge x.1 l.length with h' | h' <;> simp [h', Array.getElem?_replicate]
  have := wpAnyF_of_eagT (md := .any) hs hQ ord m b _ a w.drew (fun k ok hk h => by
    rw [Array.getD_eq_getD_getElem?] at h
    rcases Nat.lt_or_ge k l.length with h' | h' <;> simp [h', Array.getElem?_replicate] at h) hx hc hcm hB hb h
  rw [hl] at this
  exact wpAny_of_F _ _ _ _ (by simpa using this)
end
section
variable {R : Option Nat} {P : Program} {ops : Array Oper} {Q : Exit → Act → World → Prop} {B : World} {F : List Nat} {s0 : Option (List Blk × List Blk)}
theorem wk_drawsR {id : Nat} {a : Act} {s : List Blk} {l : List Oper} (z z1 : List Blk) (ord : List (Nat × Nat)) (mk : List Nat) (hm : P.follows .mixedOrders = true)
    (hB : ((Region.noSelect l.toArray && (decide (ord.length = l.length) && eagT .any l.toArray ord mk (Array.replicate l.length false))) &&
      ((ord.all fun p => decide (p.1 < l.length)) && (decide (mk.length ≤ 1) && decide ((ord.map (·.2)).filter (· == 2) = mk.map fun _ => 2)))) = true)
    (hQ : ∀ c d v a w, Q (.panic c) (Act.put a d v) w → Q (.panic c) a w) (hz : z.Sublist s) (hzz : mk = [] → z = z1)
    (hdf : (l.all fun o => noDefer [o]) = true)
    (h : Rg none P l.toArray (noOut Q) B F (some (z, z1)) (ord.map fun p => (l.getD p.1 default, p.2)) a s) (hy : z1.Sublist z := by exact List.Sublist.refl _) : Wk R P B F Q a s (Code.region id l.toArray true) := fun w K => by
  simp only [Bool.and_eq_true, decide_eq_true_eq, List.all_eq_true] at hB
  obtain ⟨hB1, h1, h3, h4⟩ := hB
  have hd : ∀ (i : Nat) (o : Oper), l.toArray[i]? = some o → noDefer [o] = true := fun i o ho => by
    rw [List.getElem?_toArray] at ho
    exact List.all_eq_true.1 hdf o (List.mem_of_getElem? ho)
  refine wpIn_region_any hm ?_
  have hsz : l.toArray.size = l.length := by simp
  rw [hsz]; refine any_in hd _ _ _ _ ?_
  have hQ' : ∀ c d v a w, noOut Q (.panic c) (Act.put a d v) w → noOut Q (.panic c) a w := hQ
  match mk, h3, h4, hB1, hzz with
  | [], _, h4, hB1, hzz =>
    refine any_eagT [] (Kn B F z) ord (by simp only [Bool.and_eq_true, decide_eq_true_eq]; exact hB1) hQ' (K.drew.sub hz) (fun w K => K.sub hy) (fun x hx => nomatch hx) ?_; refine rg_eag l rfl 0 ord (z, z1) a s [] (.inr ⟨rfl, hzz rfl, fun p hp e => ?_⟩) (by rw [if_pos rfl]; exact h4) (by simpa [List.all_eq_true] using h1) h w.drew K.drew
    have : p.2 ∈ (ord.map (·.2)).filter (· == 2) := List.mem_filter.2 ⟨List.mem_map.2 ⟨p, hp, rfl⟩, by simp [e]⟩
    rw [h4] at this; cases this
  | [x], _, h4, hB1, _ =>
    refine any_eagT [(x, Kn B F z1)] (Kn B F z) ord (by simp only [Bool.and_eq_true, decide_eq_true_eq]; exact hB1) hQ' (K.drew.sub hz) (fun w K => K.sub hy) (fun x hx w K => by simp only [List.mem_singleton] at hx; subst hx; exact K) ?_
    exact rg_eag l rfl x ord (z, z1) a s [(x, Kn B F z1)] (.inl rfl) (by rw [if_neg (by simp)]; exact h4) (by simpa [List.all_eq_true] using h1) h w.drew K.drew
  | _ :: _ :: _, h3, _, _, _ => simp at h3
end
theorem rSameM_eq (n : Int) (xs : List Nm) (a a' : Option Addr) (c c' : Nat) (hl : xs.length ≤ 1000000) (w : World) (hA : AS w a (nms xs)) (hB : AS w a' (nms xs)) : Calls Tryz.prog 11 #[.agg #[.int .i64 n, .slice a xs.length c], .agg #[.int .i64 n, .slice a' xs.length c']] w fun e w' => e = .returned (.bool true) ∧ Below w.heap.size w w' := by
 go_enter Tryz.func11, Tryz.ntmps11
 refine wk_start ?_
 refine wk_seq ?_
 refine wk_region [1, 1, 0] rfl Kx ?_
 simp only [qy]
 refine Rgn fun g1 => ?_
 simp only [qz]
 refine Rgn fun g2 => ?_
 refine Zm ?_
 refine rg_nil (ek_next (wk_seq (wk_seq ?_)))
 refine wk_region [0, 0, 0, 0, 0, 0, 0, 0, 0, 0, 0, 0, 0, 0] rfl Kx ?_
 simp only [qy]
 refine rf_field (n := 0) (j := 0) rfl rfl rfl Tryz.underlying24 rfl Kx rfl ?_
 simp only [qz]
 refine rf_load rfl rfl rfl Tryz.underlying3 rfl (fun w hw => (Kn.hd0 (Kn.tl hw)).at rfl) ?_
 simp only [qz]
 refine rf_field (n := 0) (j := 0) rfl rfl rfl Tryz.underlying24 rfl Kx rfl ?_
 simp only [qz]
 refine rf_load rfl rfl rfl Tryz.underlying3 rfl (fun w hw => (Kn.hd0 hw).at rfl) ?_
 simp only [qz]
 refine rfb_neq rfl rfl rfl rfl ?_
 intro x h1
 obtain rfl : x = false := by (refine h1.symm.trans ?_; exact decide_eq_false Ox)
 clear h1
 refine Zm ?_
 refine rf_field (n := 0) (j := 1) rfl rfl rfl Tryz.underlying24 rfl Kx rfl ?_
 simp only [qz]
 refine rf_load rfl rfl rfl Tryz.underlying22 rfl (fun w hw => (Kn.hd0 (Kn.tl hw)).at rfl) ?_
 simp only [qz]
 refine rf_len rfl rfl rfl Tryz.underlying22 ?_
 simp only [qz]
 refine rf_field (n := 0) (j := 1) rfl rfl rfl Tryz.underlying24 rfl Kx rfl ?_
 simp only [qz]
 refine rf_load rfl rfl rfl Tryz.underlying22 rfl (fun w hw => (Kn.hd0 hw).at rfl) ?_
 simp only [qz]
 refine rf_len rfl rfl rfl Tryz.underlying22 ?_
 simp only [qz]
 refine rfb_neq rfl rfl rfl rfl ?_
 intro x h2
 obtain rfl : x = false := by (refine h2.symm.trans ?_; exact decide_eq_false Ox)
 clear h2
 simp only [qz]
 refine rf_pick rfl rfl rfl ?_
 simp only [qz]
 refine rg_nil (ek_next (wk_cond_f rfl (wk_skip (ek_next (wk_seq (wk_seq ?_))))))
 refine wk_region [0] rfl Kx ?_
 refine Zm ?_
 refine rg_nil (ek_next (wk_block ?_))
 refine wk_loopF [4, 5, 20, 21, 22, 23, 24, 25, 26, 27, 28, 29, 30, 31, 32, 33, 34, 35, 36, 37] (fun mz f s => ∃ (i : Nat), f 5 = .int .i64 i ∧ s = ((g2, .cells #[.int .i64 n, .slice a' xs.length c'] 24) :: ((g1, .cells #[.int .i64 n, .slice a xs.length c] 24) :: [])) ∧ mz = xs.length - i ∧ i ≤ xs.length) ((fun (i : Nat) => xs.length - i) (0)) ?_ Kx ?_
 ·exact ⟨0, rfl, rfl, rfl, by omega⟩
 rintro mz f1 s ⟨i, hs1_5, rfl, hn, hd1⟩
 simp only [Act.putF, List.foldl_cons, List.foldl_nil, hs1_5, Act.put, Act.eval, q1, q2, q3, q4, q5, q6, q7, q8, q9, q10, q11, q12, q13, q14, q15, q16, q17, q18, Nat.reduceAdd, Bool.not_true, Bool.not_false]
 clear hs1_5
 refine wk_seq (wk_seq ?_)
 refine wk_region [0, 0, 0, 0, 0] rfl Kx ?_
 refine Zm ?_
 refine rf_field (n := 0) (j := 1) rfl rfl rfl Tryz.underlying24 rfl Kx rfl ?_
 simp only [qz]
 refine rf_load rfl rfl rfl Tryz.underlying22 rfl (fun w hw => (Kn.hd0 (Kn.tl hw)).at rfl) ?_
 simp only [qz]
 refine rf_len rfl rfl rfl Tryz.underlying22 ?_
 simp only [qz]
 refine rfb_lss rfl rfl rfl rfl ?_
 intro x h3
 cases x
 ·(try simp only [qd, ne_eq] at h3)
  simp only [qz]; refine rg_nil (ek_next (wk_cond_f rfl (wk_exit (ek_then_exit (ek_then_exit (ek_block_exit (ek_next (wk_seq ?_)))))))); refine wk_region [0] rfl Kx ?_; refine Zm ?_; refine rg_nil (ek_next (wk_ret ?_)); refine ek_ret (fun w hw => ⟨rfl, _, res_t _ rfl, ?_⟩); (try simp only [qz])
  first | exact ⟨rfl, hw.below⟩ | exact ⟨trivial, hw.below⟩ | exact hw.below
 (try simp only [qd, ne_eq] at h3)
 simp only [qz]
 refine rg_nil (ek_next (wk_cond_t rfl (wk_skip (ek_next (wk_seq (wk_block (wk_seq ?_)))))))
 obtain ⟨b, off, ha, hlt, hcell⟩ := AS.openN hA Ox
 obtain ⟨b', off', ha', hlt', hcell'⟩ := AS.openN hB Ox
 subst ha ha'
 refine wk_draws _ _ [(0, 0), (1, 0), (2, 0), (3, 0), (4, 0), (5, 0), (6, 0), (7, 0), (8, 0), (9, 0), (10, 0)] [] Kx Kx (fun c d v a w h => by cases d <;> exact h) ((sc _ (sc _ sn))) (fun e => by first | exact absurd e (by decide) | rfl) ?_
 simp only [List.map_cons, List.map_nil, List.getD_cons_zero, List.getD_cons_succ]
 refine rf_field (n := 0) (j := 1) rfl rfl rfl Tryz.underlying24 rfl Kx rfl ?_
 simp only [qz]
 refine rf_load rfl rfl rfl Tryz.underlying22 rfl (fun w hw => (Kn.hd0 (Kn.tl hw)).at rfl) ?_
 refine Zm ?_
 refine rf_indexS (n := i) (sz := 5) (j := off + i * 5) rfl rfl rfl rfl Tryz.underlying22 Kx Ox Ox rfl ?_
 simp only [qz]
 refine rf_loadC (n := 5) (vs := [.int .i64 (nm xs i).a, .int .i64 (nm xs i).b, .int .i64 (nm xs i).c, .int .i64 (nm xs i).d, .int .i64 (nm xs i).k]) rfl rfl rfl Tryz.underlying55 rfl Kx rfl (fun w hw => atN_range ((hcell i Ox).kn hw hlt (by simp))) ?_
 simp only [qz]
 refine rf_field (n := 0) (j := 1) rfl rfl rfl Tryz.underlying24 rfl Kx rfl ?_
 simp only [qz]
 refine rf_load rfl rfl rfl Tryz.underlying22 rfl (fun w hw => (Kn.hd0 hw).at rfl) ?_
 refine Zm ?_
 refine rf_indexS (n := i) (sz := 5) (j := off' + i * 5) rfl rfl rfl rfl Tryz.underlying22 Kx Ox Ox rfl ?_
 simp only [qz]
 refine rf_loadC (n := 5) (vs := [.int .i64 (nm xs i).a, .int .i64 (nm xs i).b, .int .i64 (nm xs i).c, .int .i64 (nm xs i).d, .int .i64 (nm xs i).k]) rfl rfl rfl Tryz.underlying55 rfl Kx rfl (fun w hw => atN_range ((hcell' i Ox).kn hw hlt' (by simp))) ?_
 simp only [qz]
 refine rfb_neN (nm xs i) (nm xs i) rfl rfl rfl rfl ?_
 intro x h4
 cases x
 ·(try simp only [qd, ne_eq] at h4)
  simp only [qz]; refine rg_nil (ek_next (wk_cond_f rfl (wk_skip (ek_block (ek_next ?_))))); refine wk_region [0, 0, 0] rfl Kx ?_; refine Zm ?_; refine rf_add rfl rfl rfl rfl (wrap_ok Ox Ox) ?_; refine Zm ?_; refine rg_nil ?_; refine ek_roundF (xs.length - (i + 1)) Ox Kx ?_
  exact ⟨i + 1, rfl, by rfl, by rfl, Ox⟩
 (try simp only [qd, ne_eq] at h4)
 simp only [qz]
 simp at h4
end Go.Proofs.YtccbinnlnkpplaaGreat
namespace Go.Proofs.YtccbinnlnkpplaaGreat
set_option linter.all false
set_option maxRecDepth 100000
set_option maxHeartbeats 1000000
open Go.ChangeShapes Go.WideShapes Go.ChangeAt Go.RowKit
theorem nms_of_each {Q : Nat → Nm → Prop} : ∀ n : Nat, (∀ i, i < n → ∃ x, Q i x) → ∃ xs : List Nm, xs.length = n ∧ ∀ i, i < n → Q i (nm xs i)
  | 0, _ => ⟨[], rfl, fun i hi => by omega⟩
  | n + 1, h => by
    obtain ⟨xs, hl, hx⟩ := nms_of_each n fun i hi => h i Ox
    obtain ⟨x, hq⟩ := h n Ox
    refine ⟨xs ++ [x], by simp [hl], fun i hi => ?_⟩
    by_cases e : i = n
    · subst e
      have : nm (xs ++ [x]) i = x := by unfold nm El.at; rw [List.getD_eq_getElem?_getD, ← hl]; simp
      rw [this]; exact hq
    · have : nm (xs ++ [x]) i = nm xs i := by unfold nm El.at; rw [List.getD_eq_getElem?_getD, List.getD_eq_getElem?_getD, List.getElem?_append_left Ox]
      rw [this]; exact hx i Ox
theorem cellsNm : Tryz.prog.cellsOf 55 = 5 := by kernel_rfl
theorem cellsIntM : Tryz.prog.cellsOf 3 = 1 := by kernel_rfl
theorem cellsArr : Tryz.prog.cellsOf 53 = 4 := by kernel_rfl
theorem cellsSl : Tryz.prog.cellsOf 22 = 1 := by kernel_rfl
theorem cellsMx : Tryz.prog.cellsOf 24 = 2 := by kernel_rfl
theorem open_asM {H : Type} {enc : TypeId × Value → H} {W : World} {base : Nat} {v : Value} {d : DataW H} {p : List MemPlace}
    (hval : Value.okWide Tryz.prog W .any base 24 v) (h : DataW.Trod enc Tryz.prog W 0 (fun _ => true) true 24 v d p) (hlt : ∀ x ∈ p, x.block < W.heap.size) :
    ∃ (n : Int) (xs : List Nm) (a : Option Addr) (c : Nat), v = .agg #[.int .i64 n, .slice a xs.length c] ∧ AS W a (nms xs) ∧ xs.length ≤ maxLen := by
  obtain ⟨cs, rfl, hsz⟩ := okWide_struct Tryz.underlying24 hval
  rw [cellsMx] at hsz
  obtain ⟨fuel, hf⟩ := h
  obtain ⟨ys, m, _, hx, hl, hlen, hfi⟩ := DataW.trod_struct Tryz.underlying24 hf
  match cs, hsz with
  | ⟨[v0, v1]⟩, _ =>
  match ys, hlen with
  | [y0, y1], _ =>
  have t0 := hfi 0 _ rfl
  have t1 := hfi 1 _ rfl
  simp [Value.cells, cellsIntM, cellsSl] at t0 t1
  simp only [Prod.mk.injEq] at hx
  obtain ⟨rfl, rfl⟩ := hx
  obtain ⟨n0, e0, -, w0⟩ := DataW.trod_int Tryz.underlying3 t0
  simp only [List.cons.injEq, and_true] at e0
  subst e0
  rcases Go.Deep.open_slice Tryz.underlying22 t1 with ⟨hcs, hx⟩ | ⟨a, len, cap', m, n, D, Pl, hcs, _, hl, hm, hmm, hx, hel⟩
  · simp only [List.cons.injEq, and_true] at hcs
    subst hcs
    exact ⟨n0, [], none, 0, rfl, AS.nil, by simp⟩
  · simp only [List.cons.injEq, and_true] at hcs
    subst hcs
    simp only [if_true] at hmm
    subst hmm
    have each : ∀ i, i < len → ∃ x : Nm, (∀ r, r < 5 → W.cell? ((a.add (i * 5)).add r) = (nmC x)[r]?) := by
      intro i hi
      obtain ⟨cs', h1, h2⟩ := hel i Ox
      rw [cellsNm] at h1
      obtain ⟨_, hlen, hcell⟩ := World.cells?_some h1
      obtain ⟨zs, k, _, _, _, hzl, hz⟩ := DataW.trod_struct Tryz.underlying55 h2
      match cs', hlen, zs, hzl with
      | [v0, v1, v2, v3, v4], _, [zA, z4], _ =>
        have tA := hz 0 _ rfl
        have t4 := hz 1 _ rfl
        simp [cellsArr, cellsIntM] at tA t4
        obtain ⟨qs, k2, _, _, _, hql, hq⟩ := DataW.trod_array Tryz.underlying53 tA
        match qs, hql with
        | [z0, z1, z2, z3], _ =>
        have t0 := hq 0 Ox
        have t1 := hq 1 Ox
        have t2 := hq 2 Ox
        have t3 := hq 3 Ox
        simp [cellsIntM] at t0 t1 t2 t3
        obtain ⟨n0, e0, -, w0⟩ := DataW.trod_int Tryz.underlying3 t0
        obtain ⟨n1, e1, -, w1⟩ := DataW.trod_int Tryz.underlying3 t1
        obtain ⟨n2, e2, -, w2⟩ := DataW.trod_int Tryz.underlying3 t2
        obtain ⟨n3, e3, -, w3⟩ := DataW.trod_int Tryz.underlying3 t3
        obtain ⟨n4, e4, -, w4⟩ := DataW.trod_int Tryz.underlying3 t4
        simp only [List.cons.injEq, and_true] at e0 e1 e2 e3 e4
        subst e0 e1 e2 e3 e4
        exact ⟨⟨n0, n1, n2, n3, n4⟩, fun r hr => hcell r hr⟩
    obtain ⟨xs, hxl, hxx⟩ := nms_of_each len each
    subst hxl
    refine ⟨n0, xs, some a, _, rfl, fun hne => ?_, by omega⟩
    have h0 : 0 < xs.length := by
      rcases Nat.eq_zero_or_pos xs.length with h0 | h0
      · have := List.eq_nil_of_length_eq_zero h0; subst this; exact absurd rfl hne
      · exact h0
    obtain ⟨b, off, spot⟩ := a
    have hspot : spot = none := by
      have h1 := (hxx 0 h0) 0 Ox
      have h2 : W.cell? (((⟨b, off, spot⟩ : Addr).add (0 * 5)).add 0) = some (.int .i64 (nm xs 0).a) := h1
      simpa [Addr.add] using World.cell?_spot h2
    subst hspot
    refine ⟨b, off, rfl, hlt (.cell b off) ?_, fun j hj => ?_⟩
    · refine List.mem_flatMap.2 ⟨y1, by simp, ?_⟩
      have hy : y1.2 = _ := congrArg Prod.snd hx
      rw [hy]
      exact List.mem_append_left _ (MemPlace.mem_row.2 ⟨0, by rw [cellsNm]; omega, by simp⟩)
    · have hj2 : j < xs.length * 5 := by rw [NmE.flat_len] at hj; exact hj
      have h1 := (hxx (j / 5) Ox) (j % 5) (Nat.mod_lt _ Ox)
      have h2 := NmE.get xs (j / 5) (j % 5) Ox (Nat.mod_lt _ (by show 0 < 5; omega))
      have e : j / 5 * 5 + j % 5 = j := by omega
      have h3 : (nms xs)[j / 5 * 5 + j % 5]? = (nmC (nm xs (j / 5)))[j % 5]? := h2
      rw [e] at h3; rw [h3, ← h1]
      have e2 : ((⟨b, off, none⟩ : Addr).add (j / 5 * 5)).add (j % 5) = ⟨b, off + j, none⟩ := by
        have ap : ∀ o i : Nat, (⟨b, o, none⟩ : Addr).add i = ⟨b, o + i, none⟩ := fun o i => by simp [Addr.add]
        rw [ap, ap, show off + j / 5 * 5 + j % 5 = off + j by omega]
      rw [e2]
end Go.Proofs.YtccbinnlnkpplaaGreat
namespace Go.Proofs.YtccbinnlnkpplaaGreat
set_option linter.all false
set_option maxRecDepth 100000
set_option maxHeartbeats 1000000
open Go.RowKit
namespace Mul64
theorem maskN (a : Nat) (ha : a < 18446744073709551616) : bits .and .u64 (a : Int) 4294967295 = ((a % 4294967296 : Nat) : Int) := by
  have h := bits_and_u64_nat a 4294967295 ha Ox
  have e : a &&& 4294967295 = a % 4294967296 := Nat.and_two_pow_sub_one_eq_mod a 32
  rw [e] at h
  exact h
theorem divN (a : Nat) : (a : Int) / 4294967296 = ((a / 4294967296 : Nat) : Int) := by omega
theorem mulN (a b : Nat) : (a : Int) * (b : Int) = ((a * b : Nat) : Int) := (Int.natCast_mul a b).symm
theorem addN (a b : Nat) : (a : Int) + (b : Int) = ((a + b : Nat) : Int) := (Int.natCast_add a b).symm
theorem wrapN (a : Nat) (ha : a < 18446744073709551616) : IntKind.u64.wrap (a : Int) = (a : Int) := by rw [IntKind.wrap_u64]; omega
theorem wrapM (a : Nat) : IntKind.u64.wrap (a : Int) = ((a % 18446744073709551616 : Nat) : Int) := by rw [IntKind.wrap_u64]; omega
end Mul64
theorem mul64_nat (x y : Nat) (hx : x < 18446744073709551616) (hy : y < 18446744073709551616) (w : World) :
    Calls Tryz.prog 110 #[.int .u64 x, .int .u64 y] w fun e w' => e = .returned (.tuple #[.int .u64 ((x * y / 18446744073709551616 : Nat) : Int), .int .u64 ((x * y % 18446744073709551616 : Nat) : Int)]) ∧ w = w' := by
  obtain ⟨bd, bt, bw, hhi⟩ := Lib.mul64_hi x y hx hy
  have ba := Lib.half_mul_le (a := x / 4294967296) (b := y / 4294967296) Ox Ox
  have bb := Lib.half_mul_le (a := x / 4294967296) (b := y % 4294967296) Ox Ox
  have bc := Lib.half_mul_le (a := x % 4294967296) (b := y / 4294967296) Ox Ox
  have ba' : x / 4294967296 * (y / 4294967296) < 18446744073709551616 := by omega
  have bb' : x / 4294967296 * (y % 4294967296) < 18446744073709551616 := by omega
  have bc' : x % 4294967296 * (y / 4294967296) < 18446744073709551616 := by omega
  have bh1 : x / 4294967296 * (y / 4294967296) + (x / 4294967296 * (y % 4294967296) + x % 4294967296 * (y % 4294967296) / 4294967296) / 4294967296 < 18446744073709551616 := by omega
  have bh : x / 4294967296 * (y / 4294967296) + (x / 4294967296 * (y % 4294967296) + x % 4294967296 * (y % 4294967296) / 4294967296) / 4294967296 + ((x / 4294967296 * (y % 4294967296) + x % 4294967296 * (y % 4294967296) / 4294967296) % 4294967296 + x % 4294967296 * (y / 4294967296)) / 4294967296 < 18446744073709551616 := by omega
  go_enter Tryz.func110, Tryz.ntmps110
  go_wp2
  simp only [Mul64.maskN x hx, Mul64.maskN y hy, Mul64.divN, Mul64.mulN, Mul64.addN, Mul64.wrapN _ bd, Mul64.wrapN _ bb', Mul64.wrapN _ bt, Mul64.maskN _ bt, Mul64.wrapN _ bc', Mul64.wrapN _ bw, Mul64.wrapN _ ba', Mul64.wrapN _ bh1, Mul64.wrapN _ bh, Mul64.wrapM (x * y)]; rw [hhi]
  go_ret2
  exact ⟨rfl, rfl⟩
theorem mul64_any (x y : Int) (hx0 : 0 ≤ x) (hx : x ≤ 18446744073709551615) (hy0 : 0 ≤ y) (hy : y ≤ 18446744073709551615) (w : World) :
    Calls Tryz.prog 110 #[.int .u64 x, .int .u64 y] w fun e w' => e = .returned (.tuple #[.int .u64 (x * y / 18446744073709551616), .int .u64 (x * y % 18446744073709551616)]) ∧ w = w' := by
  obtain ⟨a, rfl⟩ := Int.eq_ofNat_of_zero_le hx0
  obtain ⟨b, rfl⟩ := Int.eq_ofNat_of_zero_le hy0
  refine (mul64_nat a b Ox Ox w).mono fun e w' ⟨he, hw⟩ => ⟨?_, hw⟩
  rw [he]
  simp
end Go.Proofs.YtccbinnlnkpplaaGreat
