/- Several texts in one. -/
import Derived.Test.YtjeijnjaleldkaaSq
import Derived.Test.YtjeijnjaleldkaaAm5
import Derived.Test.YtjeijnjaleldkaaCallV
import Derived.Test.YtjeijnjaleldkaaMt2a
import Derived.Test.YtjeijnjaleldkaaMgD
import Derived.Test.YtjeijnjaleldkaaRo
import Derived.Test.YtjeijnjaleldkaaMx1
import Derived.Test.YtjeijnjaleldkaaPt0
import Derived.Test.YtjeijnjaleldkaaMt1
import Derived.Test.YtjeijnjaleldkaaMgC
import Derived.Test.YtjeijnjaleldkaaEq
namespace Go.Proofs.Ytjeijnjaleldkaa
set_option linter.all false
open Go.RowKit

theorem and7 (x : Int) : bits .and .i64 x 7 = x % 8 := by
  show IntKind.i64.wrap ((BitVec.ofInt 64 x &&& BitVec.ofInt 64 7).toNat : Int) = _
  have h1 : (BitVec.ofInt 64 (7 : Int)).toNat = 2 ^ 3 - 1 := by decide
  rw [BitVec.toNat_and, h1, Nat.and_two_pow_sub_one_eq_mod, BitVec.toNat_ofInt, IntKind.wrap_i64]
  omega
/-- So many eighths of a turn. -/
def Nm.turn : Nat → Nm → Nm
  | 0, z => z
  | n + 1, z => (Nm.turn n z).rot
theorem turn_ok {z : Nm} (h : z.Ok) : ∀ n, (Nm.turn n z).Ok
  | 0 => h
  | n + 1 => rot_ok (turn_ok h n)
set_option maxRecDepth 100000 in
set_option maxHeartbeats 1000000 in
theorem amchanged_ok (z r : Nm) (hz : z.Ok) (f : Nat) (caps : Array Value) (hgo : isGo Try.prog f = true) (w : World) (hf : ∀ w', Below w.heap.size w w' → Calls Try.prog f (#[nmV z] ++ caps) w' fun e w'' => e = .returned (nmV r) ∧ Below w'.heap.size w' w'') : Calls Try.prog 122 #[nmV z, .func (.func f) #[] caps] w fun e w' => e = .returned (.tuple #[nmV r, .int .i64 0]) ∧ Below w.heap.size w w' := by
  go_enter Try.func122, Try.ntmps122
  refine wk_start ?_
  refine wk_seq ?_
  refine wk_region [1, 1, 0] rfl Kx ?_
  simp only [qy]
  refine Rgn fun g1 => ?_
  simp only [qz]
  refine Rgn fun g2 => ?_
  simp only [qz]
  refine rg_assign ?_
  simp only [qz]
  refine rg_nil (ek_next (wk_seq (wk_seq ?_)))
  refine wk_region [0, 1, 0] rfl Kx ?_
  simp only [qy]
  refine rf_loadR (n := 5) rfl rfl rfl Try.underlying29 rfl Kx (fun w hw => Kn.hd0 (Kn.tl hw)) rfl rfl ?_
  simp only [qz]
  apply rg_pure Rx Kx
  case hargs => exact Ax
  case h => exact fun w hw => by have := amvalid_any z w; rw [okB_yes hz] at this; exact this
  case hz => exact Nz
  simp only [qz]
  refine rf_not rfl rfl rfl ?_
  simp only [qz]
  refine rg_nil (ek_next (wk_cond_f rfl (wk_skip (ek_next (wk_seq ?_)))))
  refine wk_region [0, 0, 1, 1, 0] rfl Kx ?_
  simp only [qy]
  refine rg_move ?_
  simp only [qz]
  refine rf_loadR (n := 5) rfl rfl rfl Try.underlying29 rfl Kx (fun w hw => Kn.hd0 (Kn.tl hw)) rfl rfl ?_
  simp only [qz]
  refine CV.rg_callV (caps := caps) (vs := #[nmV z]) (v := nmV r) Rx rfl hgo (by simp only [qm, qs, Act.eval]) (fun w hw => hf w hw.below) Nz ?_
  simp only [qz]
  refine rf_storeR (n := 5) rfl rfl Kx rfl rfl (UpdR.here _ _ _ Nl) Nz ?_
  simp only [qz, Nat.reduceAdd]
  refine rg_assign ?_
  simp only [qz]
  refine rg_nil (ek_next (wk_ret ?_))
  refine ek_ret (fun w hw => ⟨rfl, _, run_results2 rfl rfl (Kn.hd0 hw) Try.underlying29 rfl Kx, ?_⟩)
  (try simp only [qz])
  first | exact ⟨rfl, hw.below⟩ | exact ⟨trivial, hw.below⟩ | exact hw.below

end Go.Proofs.Ytjeijnjaleldkaa
namespace Go.Proofs.Ytjeijnjaleldkaa
set_option linter.all false
open Go.RowKit

set_option maxRecDepth 100000 in
set_option maxHeartbeats 1000000 in
theorem amPower_ok (z : Nm) (hz : z.Ok) (w : World) : Calls Try.prog 88 #[nmV z] w fun e w' => e = .returned (numV z.power) ∧ Below w.heap.size w w' := by
  go_enter Try.func88, Try.ntmps88
  refine wk_start ?_
  refine wk_seq ?_
  refine wk_region [1, 1, 0] rfl Kx ?_
  simp only [qy]
  refine Rgn fun g1 => ?_
  simp only [qz]
  refine Rgn fun g2 => ?_
  simp only [qz]
  refine rg_assign ?_
  simp only [qz]
  refine rg_nil (ek_next (wk_seq (wk_seq ?_)))
  refine wk_region [0, 1, 0] rfl Kx ?_
  simp only [qy]
  refine rf_loadR (n := 5) rfl rfl rfl Try.underlying29 rfl Kx (fun w hw => Kn.hd0 (Kn.tl hw)) rfl rfl ?_
  simp only [qz]
  apply rg_pure Rx Kx
  case hargs => exact Ax
  case h => exact fun w hw => by have := amvalid_any z w; rw [okB_yes hz] at this; exact this
  case hz => exact Nz
  simp only [qz]
  refine rf_not rfl rfl rfl ?_
  simp only [qz]
  refine rg_nil (ek_next (wk_cond_f rfl (wk_skip (ek_next (wk_seq ?_)))))
  refine wk_draws_m (hz1 := (sk _ (sc _ sn))) [(0, 0), (1, 0), (2, 1), (3, 1), (4, 1), (5, 0), (6, 0), (7, 2), (8, 0)] 7 Kx Kx (fun c d v a w h => by cases d <;> exact h) ?_
  simp only [List.map_cons, List.map_nil, List.getD_cons_zero, List.getD_cons_succ]
  refine rf_loadR (n := 5) rfl rfl rfl Try.underlying29 rfl Kx (fun w hw => Kn.hd0 (Kn.tl hw)) rfl rfl ?_
  simp only [qz]
  refine rf_loadR (n := 5) rfl rfl rfl Try.underlying29 rfl Kx (fun w hw => Kn.hd0 (Kn.tl hw)) rfl rfl ?_
  simp only [qz]
  apply rg_pure Rx Kx
  case hargs => exact Ax
  case h => exact fun w hw => amconj_any z (Nm.fit_mono hz.fit Ox) w
  case hz => exact (fun _ h => by cases h; exact (sc _ (sc _ sn)))
  simp only [qz]
  apply rg_pure Rx Kx
  case hargs => exact Ax
  case h => exact fun w hw => ammul_any z z.conj hz (conj_ok hz) w
  case hz => exact (fun _ h => by cases h; exact (sc _ (sc _ sn)))
  simp only [qz]
  apply rg_num Rx Kx
  case hargs => exact Ax
  case h => exact fun w hw => result_any (z.mulR z.conj) (mulR_fit hz.fit (conj_ok hz).fit) (by have := hz.k1; simp only [Nm.mulR, Nm.conj]; omega) w
  case hz => exact (fun _ h => by cases h; exact (sc _ (sc _ sn)))
  case hc => exact (fun c h => mk_err h)
  · intro hr1
    simp only [qz]
    refine rf_extract rfl rfl rfl rfl ?_
    simp only [qz]
    refine rf_extract rfl rfl rfl rfl ?_
    simp only [qz]
    refine rf_storeRM (n := 5) rfl rfl Kx rfl rfl (UpdR.here _ _ _ Nl) (sk _ (sc _ sn)) ?_
    simp only [qz, Nat.reduceAdd]
    refine rg_assign ?_
    simp only [qz]
    refine rg_nil (ek_next (wk_ret ?_))
    refine ek_ret (fun w hw => ⟨rfl, _, run_results2 rfl rfl (Kn.hd0 hw) Try.underlying29 rfl Kx, ?_⟩)
    (try simp only [qz])
    exact ⟨by rw [show z.power = _ from hr1]; rfl, hw.below⟩
  intro z1 hr1
  simp only [qz]
  refine rf_extract rfl rfl rfl rfl ?_
  simp only [qz]
  refine rf_extract rfl rfl rfl rfl ?_
  simp only [qz]
  refine rf_storeRM (n := 5) rfl rfl Kx rfl rfl (UpdR.here _ _ _ Nl) (sk _ (sc _ sn)) ?_
  simp only [qz, Nat.reduceAdd]
  refine rg_assign ?_
  simp only [qz]
  refine rg_nil (ek_next (wk_ret ?_))
  refine ek_ret (fun w hw => ⟨rfl, _, run_results2 rfl rfl (Kn.hd0 hw) Try.underlying29 rfl Kx, ?_⟩)
  (try simp only [qz])
  exact ⟨by rw [show z.power = _ from hr1]; rfl, hw.below⟩

end Go.Proofs.Ytjeijnjaleldkaa
namespace Go.Proofs.Ytjeijnjaleldkaa
set_option linter.all false
open Go.RowKit

set_option maxRecDepth 100000 in
set_option maxHeartbeats 1000000 in
theorem rpower_ok (z : Nm) (hz : z.Ok) (w : World) : Calls Try.prog 89 #[nmV z] w fun e w' => e = .returned (numV z.power) ∧ Below w.heap.size w w' := by
  go_enter Try.func89, Try.ntmps89
  refine wk_start ?_
  refine wk_seq ?_
  refine wk_region [1, 1, 0] rfl Kx ?_
  simp only [qy]
  refine Rgn fun g1 => ?_
  simp only [qz]
  refine Rgn fun g2 => ?_
  simp only [qz]
  refine rg_assign ?_
  simp only [qz]
  refine rg_nil (ek_next (wk_seq ?_))
  refine wk_draws_m (hz1 := (sk _ (sc _ sn))) [(0, 0), (1, 0), (2, 1), (3, 1), (4, 0), (5, 0), (6, 2), (7, 0)] 6 Kx Kx (fun c d v a w h => by cases d <;> exact h) ?_
  simp only [List.map_cons, List.map_nil, List.getD_cons_zero, List.getD_cons_succ]
  refine rf_loadR (n := 5) rfl rfl rfl Try.underlying29 rfl Kx (fun w hw => Kn.hd0 (Kn.tl hw)) rfl rfl ?_
  simp only [qz]
  refine rf_loadR (n := 5) rfl rfl rfl Try.underlying29 rfl Kx (fun w hw => Kn.hd0 (Kn.tl hw)) rfl rfl ?_
  simp only [qz]
  apply rg_pure Rx Kx
  case hargs => exact Ax
  case h => exact fun w hw => rConj_any z (Nm.fit_mono hz.fit (by decide)) w
  case hz => exact (fun _ h => by cases h; exact (sc _ (sc _ sn)))
  simp only [qz]
  apply rg_pure Rx Kx
  case hargs => exact Ax
  case h => exact fun w hw => rTimes_ok z z.conj hz (conj_ok hz) w
  case hz => exact (fun _ h => by cases h; exact (sc _ (sc _ sn)))
  simp only [qz]
  obtain ⟨v, e, hve⟩ := numV_ve2 (z.mul z.conj)
  rw [hve]
  replace hve := Lib.hid hve
  refine rf_extract rfl rfl rfl rfl ?_
  simp only [qz]
  refine rf_extract rfl rfl rfl rfl ?_
  simp only [qz]
  refine rf_storeRM (n := 5) rfl rfl Kx rfl rfl (UpdR.here _ _ _ Nl) (sk _ (sc _ sn)) ?_
  simp only [qz, Nat.reduceAdd]
  refine rg_assign ?_
  simp only [qz]
  refine rg_nil (ek_next (wk_ret ?_))
  refine ek_ret (fun w hw => ⟨rfl, _, run_results2 rfl rfl (Kn.hd0 hw) Try.underlying29 rfl Kx, ?_⟩)
  (try simp only [qz])
  exact ⟨(congrArg Ending.returned hve.out).symm, hw.below⟩

end Go.Proofs.Ytjeijnjaleldkaa
namespace Go.Proofs.Ytjeijnjaleldkaa
set_option linter.all false
open Go.RowKit

/-- What a chance is: the power, by what it is divided, the error. -/
def chV (n : Int) (xs : List Nm) (p r : List Int) : Value := match ampR n xs p r with
  | .error c => .tuple #[nmV Nm.zero, .int .i64 0, .int .i64 c]
  | .ok z => match z.power with
    | .error c => .tuple #[nmV Nm.zero, .int .i64 0, .int .i64 c]
    | .ok q => .tuple #[nmV q, .int .i64 (fT p p.length * fT r r.length), .int .i64 0]
theorem chV_ve (n : Int) (xs : List Nm) (p r : List Int) : ∃ (v : Nm) (m c : Int), chV n xs p r = .tuple #[nmV v, .int .i64 m, .int .i64 c] := by
  unfold chV
  split
  · exact ⟨_, _, _, rfl⟩
  split <;> exact ⟨_, _, _, rfl⟩
set_option maxRecDepth 100000 in
set_option maxHeartbeats 1000000 in
theorem mchance_any (n : Int) (xs : List Nm) (p r : List Int) (a a1 a2 : Option Addr) (c c1 c2 : Nat) (hl : xs.length ≤ 1000000) (hlp : p.length ≤ 1000000) (hlr : r.length ≤ 1000000) (w : World) (hA : AS w a (nms xs)) (hP : AS w a1 (zs p)) (hR : AS w a2 (zs r)) : Calls Try.prog 46 #[.agg #[.int .i64 n, .slice a xs.length c], .slice a1 p.length c1, .slice a2 r.length c2] w fun e w' => e = .returned (chV n xs p r) ∧ Below w.heap.size w w' := by
  go_enter Try.func46, Try.ntmps46
  refine wk_start ?_
  refine wk_seq ?_
  refine wk_region [1, 1, 0, 0] rfl Kx ?_
  simp only [qy]
  refine Rgn fun g1 => ?_
  simp only [qz]
  refine Rgn fun g2 => ?_
  simp only [qz]
  refine rg_assign ?_
  simp only [qz]
  refine rg_assign ?_
  simp only [qz]
  refine rg_nil (ek_next (wk_seq ?_))
  refine wk_region [0, 0, 0, 1, 0, 0, 0, 1, 1, 0] rfl Kx ?_
  simp only [qy]
  refine rf_loadR (n := 2) rfl rfl rfl Try.underlying24 rfl Kx (fun w hw => Kn.hd0 (Kn.tl hw)) rfl rfl ?_
  simp only [qz]
  refine rg_move ?_
  simp only [qz]
  refine rg_move ?_
  simp only [qz]
  apply rg_pure Rx Kx
  case hargs => exact Ax
  case h => exact fun w hw => mamplitude_any n xs p r a a1 a2 c c1 c2 hl hlp hlr w (hA.kn0 hw) (hP.kn0 hw) (hR.kn0 hw)
  case hz => exact Nz
  rcases hra : ampR n xs p r with cz | z
  · rw [show numV (Except.error cz) = .tuple #[nmV Nm.zero, .int .i64 cz] from rfl]
    have hcz := ampR_code hra
    simp only [qz]
    refine rg_move ?_
    simp only [qz]
    refine rf_extract rfl rfl rfl rfl ?_
    simp only [qz]
    refine rf_extract rfl rfl rfl rfl ?_
    simp only [qz]
    refine Rgn fun g3 => ?_
    simp only [qz]
    refine rf_storeR (n := 5) rfl rfl Kx rfl rfl (UpdR.here _ _ _ Nl) Nz ?_
    simp only [qz, Nat.reduceAdd]
    refine rg_assign ?_
    simp only [qz]
    refine rg_nil (ek_next (wk_seq (wk_seq ?_)))
    refine wk_region [0, 0] rfl Kx ?_
    simp only [qy]
    refine rg_move ?_
    simp only [qz]
    refine rfb_neq rfl rfl rfl rfl ?_
    intro x h1
    cases x
    · (try simp only [qd, ne_eq] at h1)
      simp only [qz]
      exact absurd h1 Ox
    (try simp only [qd, ne_eq] at h1)
    simp only [qz]
    refine rg_nil (ek_next (wk_cond_t rfl (wk_seq ?_)))
    refine wk_region [0, 0, 1, 0, 0] rfl Kx ?_
    simp only [qy]
    refine rf_build (cs := fun a => #[.int .i64 0, .int .i64 0, .int .i64 0, .int .i64 0, .int .i64 0]) rfl rfl Kx ?_
    simp only [qz]
    refine rg_move ?_
    simp only [qz]
    refine rf_storeR (n := 5) rfl rfl Kx rfl rfl (UpdR.there _ (UpdR.here _ _ _ Nl)) Nz ?_
    simp only [qz, Nat.reduceAdd]
    refine rg_assign ?_
    simp only [qz]
    refine rg_assign ?_
    simp only [qz]
    refine rg_nil (ek_next (wk_ret (ek_then_ret ?_)))
    refine ek_ret (fun w hw => ⟨rfl, _, run_results3 rfl rfl (Kn.hd0 (Kn.tl hw)) Try.underlying29 rfl Kx, ?_⟩)
    (try simp only [qz])
    exact ⟨by first | (unfold chV; rw [hra]; rfl) | (unfold chV; rw [hra]; dsimp only; rw [hpw]; rfl) | (unfold chV; rw [hra]; dsimp only; rw [hpw]), hw.below⟩
  rw [show numV (Except.ok z) = .tuple #[nmV z, .int .i64 0] from rfl]
  obtain ⟨hz, hbp, hbr⟩ := ampR_yes hra
  simp only [qz]
  refine rg_move ?_
  simp only [qz]
  refine rf_extract rfl rfl rfl rfl ?_
  simp only [qz]
  refine rf_extract rfl rfl rfl rfl ?_
  simp only [qz]
  refine Rgn fun g4 => ?_
  simp only [qz]
  refine rf_storeR (n := 5) rfl rfl Kx rfl rfl (UpdR.here _ _ _ Nl) Nz ?_
  simp only [qz, Nat.reduceAdd]
  refine rg_assign ?_
  simp only [qz]
  refine rg_nil (ek_next (wk_seq (wk_seq ?_)))
  refine wk_region [0, 0] rfl Kx ?_
  simp only [qy]
  refine rg_move ?_
  simp only [qz]
  refine rf_neq (b := false) rfl rfl rfl rfl (by decide) ?_
  simp only [qz]
  refine rg_nil (ek_next (wk_cond_f rfl (wk_skip (ek_next (wk_seq ?_)))))
  refine wk_region [0, 1, 0, 0, 0, 1, 1, 0] rfl Kx ?_
  simp only [qy]
  refine rf_loadR (n := 5) rfl rfl rfl Try.underlying29 rfl Kx (fun w hw => Kn.hd0 hw) rfl rfl ?_
  simp only [qz]
  apply rg_pure Rx Kx
  case hargs => exact Ax
  case h => exact fun w hw => amPower_ok z hz w
  case hz => exact Nz
  rcases hpw : z.power with cy | y
  · rw [show numV (Except.error cy) = .tuple #[nmV Nm.zero, .int .i64 cy] from rfl]
    have hcy := (by have := mk_err hpw; omega : cy ≠ 0)
    simp only [qz]
    refine rg_move ?_
    simp only [qz]
    refine rf_extract rfl rfl rfl rfl ?_
    simp only [qz]
    refine rf_extract rfl rfl rfl rfl ?_
    simp only [qz]
    refine Rgn fun g5 => ?_
    simp only [qz]
    refine rf_storeR (n := 5) rfl rfl Kx rfl rfl (UpdR.here _ _ _ Nl) Nz ?_
    simp only [qz, Nat.reduceAdd]
    refine rg_assign ?_
    simp only [qz]
    refine rg_nil (ek_next (wk_seq (wk_seq ?_)))
    refine wk_region [0, 0] rfl Kx ?_
    simp only [qy]
    refine rg_move ?_
    simp only [qz]
    refine rfb_neq rfl rfl rfl rfl ?_
    intro x h2
    cases x
    · (try simp only [qd, ne_eq] at h2)
      simp only [qz]
      exact absurd h2 Ox
    (try simp only [qd, ne_eq] at h2)
    simp only [qz]
    refine rg_nil (ek_next (wk_cond_t rfl (wk_seq ?_)))
    refine wk_region [0, 0, 1, 0, 0] rfl Kx ?_
    simp only [qy]
    refine rf_build (cs := fun a => #[.int .i64 0, .int .i64 0, .int .i64 0, .int .i64 0, .int .i64 0]) rfl rfl Kx ?_
    simp only [qz]
    refine rg_move ?_
    simp only [qz]
    refine rf_storeR (n := 5) rfl rfl Kx rfl rfl (UpdR.there _ (UpdR.there _ (UpdR.here _ _ _ Nl))) Nz ?_
    simp only [qz, Nat.reduceAdd]
    refine rg_assign ?_
    simp only [qz]
    refine rg_assign ?_
    simp only [qz]
    refine rg_nil (ek_next (wk_ret (ek_then_ret ?_)))
    refine ek_ret (fun w hw => ⟨rfl, _, run_results3 rfl rfl (Kn.hd0 (Kn.tl (Kn.tl hw))) Try.underlying29 rfl Kx, ?_⟩)
    (try simp only [qz])
    exact ⟨by first | (unfold chV; rw [hra]; rfl) | (unfold chV; rw [hra]; dsimp only; rw [hpw]; rfl) | (unfold chV; rw [hra]; dsimp only; rw [hpw]), hw.below⟩
  rw [show numV (Except.ok y) = .tuple #[nmV y, .int .i64 0] from rfl]
  have hmb := mul_le2 (fT_bd (patB_ok hbp).1 (patB_ok hbp).2 (Nat.le_refl _)).1 (fT_bd (patB_ok hbp).1 (patB_ok hbp).2 (Nat.le_refl _)).2 (fT_bd (patB_ok hbr).1 (patB_ok hbr).2 (Nat.le_refl _)).1 (fT_bd (patB_ok hbr).1 (patB_ok hbr).2 (Nat.le_refl _)).2
  simp only [qz]
  refine rg_move ?_
  simp only [qz]
  refine rf_extract rfl rfl rfl rfl ?_
  simp only [qz]
  refine rf_extract rfl rfl rfl rfl ?_
  simp only [qz]
  refine Rgn fun g6 => ?_
  simp only [qz]
  refine rf_storeR (n := 5) rfl rfl Kx rfl rfl (UpdR.here _ _ _ Nl) Nz ?_
  simp only [qz, Nat.reduceAdd]
  refine rg_assign ?_
  simp only [qz]
  refine rg_nil (ek_next (wk_seq (wk_seq ?_)))
  refine wk_region [0, 0] rfl Kx ?_
  simp only [qy]
  refine rg_move ?_
  simp only [qz]
  refine rf_neq (b := false) rfl rfl rfl rfl (by decide) ?_
  simp only [qz]
  refine rg_nil (ek_next (wk_cond_f rfl (wk_skip (ek_next (wk_seq ?_)))))
  refine wk_draws_m (hz1 := (sc _ (sc _ (sk _ (sc _ sn))))) [(0, 0), (1, 3), (3, 3), (2, 1), (4, 1), (5, 3), (6, 2), (7, 0), (8, 0)] 6 Kx Kx (fun c d v a w h => by cases d <;> exact h) ?_
  simp only [List.map_cons, List.map_nil, List.getD_cons_zero, List.getD_cons_succ]
  refine rf_loadR (n := 5) rfl rfl rfl Try.underlying29 rfl Kx (fun w hw => Kn.hd0 hw) rfl rfl ?_
  simp only [qz]
  refine rg_moveP ?_
  simp only [qz]
  refine rg_moveP ?_
  simp only [qz]
  apply rg_pure Rx Kx
  case hargs => exact Ax
  case h => exact fun w hw => mfac_any p a1 c1 hlp (patB_ok hbp).1 (patB_ok hbp).2 w (hP.kn0 hw)
  case hz => exact (fun _ h => by cases h; exact (sc _ (sc _ (sc _ (sc _ sn)))))
  simp only [qz]
  apply rg_pure Rx Kx
  case hargs => exact Ax
  case h => exact fun w hw => mfac_any r a2 c2 hlr (patB_ok hbr).1 (patB_ok hbr).2 w (hR.kn0 hw)
  case hz => exact (fun _ h => by cases h; exact (sc _ (sc _ (sc _ (sc _ sn)))))
  simp only [qz]
  refine rf_mul rfl rfl rfl rfl (wrap_ok Ox Ox) ?_
  simp only [qz]
  refine rf_storeRM (n := 5) rfl rfl Kx rfl rfl (UpdR.there _ (UpdR.there _ (UpdR.here _ _ _ Nl))) (sc _ (sc _ (sk _ (sc _ sn)))) ?_
  simp only [qz, Nat.reduceAdd]
  refine rg_assign ?_
  simp only [qz]
  refine rg_assign ?_
  simp only [qz]
  refine rg_nil (ek_next (wk_ret ?_))
  refine ek_ret (fun w hw => ⟨rfl, _, run_results3 rfl rfl (Kn.hd0 (Kn.tl (Kn.tl hw))) Try.underlying29 rfl Kx, ?_⟩)
  (try simp only [qz])
  exact ⟨by first | (unfold chV; rw [hra]; rfl) | (unfold chV; rw [hra]; dsimp only; rw [hpw]; rfl) | (unfold chV; rw [hra]; dsimp only; rw [hpw]), hw.below⟩

set_option maxRecDepth 100000 in
set_option maxHeartbeats 1000000 in
theorem rchance_any (n : Int) (xs : List Nm) (p r : List Int) (a a1 a2 : Option Addr) (c c1 c2 : Nat) (hl : xs.length ≤ 1000000) (hlp : p.length ≤ 1000000) (hlr : r.length ≤ 1000000) (w : World) (hA : AS w a (nms xs)) (hP : AS w a1 (zs p)) (hR : AS w a2 (zs r)) : Calls Try.prog 47 #[.agg #[.int .i64 n, .slice a xs.length c], .slice a1 p.length c1, .slice a2 r.length c2] w fun e w' => e = .returned (chV n xs p r) ∧ Below w.heap.size w w' := by
  go_enter Try.func47, Try.ntmps47
  refine wk_start ?_
  refine wk_seq ?_
  refine wk_region [1, 1, 0, 0] rfl Kx ?_
  simp only [qy]
  refine Rgn fun g1 => ?_
  simp only [qz]
  refine Rgn fun g2 => ?_
  simp only [qz]
  refine rg_assign ?_
  simp only [qz]
  refine rg_assign ?_
  simp only [qz]
  refine rg_nil (ek_next (wk_seq ?_))
  refine wk_region [0, 0, 0, 1, 0, 0, 0, 1, 1, 0] rfl Kx ?_
  simp only [qy]
  refine rf_loadR (n := 2) rfl rfl rfl Try.underlying24 rfl Kx (fun w hw => Kn.hd0 (Kn.tl hw)) rfl rfl ?_
  simp only [qz]
  refine rg_move ?_
  simp only [qz]
  refine rg_move ?_
  simp only [qz]
  apply rg_pure Rx Kx
  case hargs => exact Ax
  case h => exact fun w hw => ramplitude_any n xs p r a a1 a2 c c1 c2 hl hlp hlr w (hA.kn0 hw) (hP.kn0 hw) (hR.kn0 hw)
  case hz => exact Nz
  rcases hra : ampR n xs p r with cz | z
  · rw [show numV (Except.error cz) = .tuple #[nmV Nm.zero, .int .i64 cz] from rfl]
    have hcz := ampR_code hra
    simp only [qz]
    refine rg_move ?_
    simp only [qz]
    refine rf_extract rfl rfl rfl rfl ?_
    simp only [qz]
    refine rf_extract rfl rfl rfl rfl ?_
    simp only [qz]
    refine Rgn fun g3 => ?_
    simp only [qz]
    refine rf_storeR (n := 5) rfl rfl Kx rfl rfl (UpdR.here _ _ _ Nl) Nz ?_
    simp only [qz, Nat.reduceAdd]
    refine rg_assign ?_
    simp only [qz]
    refine rg_nil (ek_next (wk_seq (wk_seq ?_)))
    refine wk_region [0, 0] rfl Kx ?_
    simp only [qy]
    refine rg_move ?_
    simp only [qz]
    refine rfb_eql rfl rfl rfl rfl ?_
    intro x h1
    cases x
    · (try simp only [qd, ne_eq] at h1)
      simp only [qz]
      refine rg_nil (ek_next (wk_cond_f rfl (wk_skip (ek_next (wk_seq (wk_seq ?_))))))
      refine wk_region [0, 0] rfl Kx ?_
      simp only [qy]
      refine rg_move ?_
      simp only [qz]
      refine rfb_neq rfl rfl rfl rfl ?_
      intro x h2
      cases x
      · (try simp only [qd, ne_eq] at h2)
        simp only [qz]
        exact absurd h2 Ox
      (try simp only [qd, ne_eq] at h2)
      simp only [qz]
      refine rg_nil (ek_next (wk_cond_t rfl (wk_seq ?_)))
      refine wk_region [0, 0, 1, 0, 0] rfl Kx ?_
      simp only [qy]
      refine rf_build (cs := fun a => #[.int .i64 0, .int .i64 0, .int .i64 0, .int .i64 0, .int .i64 0]) rfl rfl Kx ?_
      simp only [qz]
      refine rg_move ?_
      simp only [qz]
      refine rf_storeR (n := 5) rfl rfl Kx rfl rfl (UpdR.there _ (UpdR.here _ _ _ Nl)) Nz ?_
      simp only [qz, Nat.reduceAdd]
      refine rg_assign ?_
      simp only [qz]
      refine rg_assign ?_
      simp only [qz]
      refine rg_nil (ek_next (wk_ret (ek_then_ret ?_)))
      refine ek_ret (fun w hw => ⟨rfl, _, run_results3 rfl rfl (Kn.hd0 (Kn.tl hw)) Try.underlying29 rfl Kx, ?_⟩)
      (try simp only [qz])
      exact ⟨by first | (unfold chV; rw [hra]; rfl) | (unfold chV; rw [hra]; dsimp only; rw [hpw]; rfl) | (unfold chV; rw [hra]; dsimp only; rw [hpw]), hw.below⟩
    (try simp only [qd, ne_eq] at h1)
    simp only [qz]
    exact absurd h1 Ox
  rw [show numV (Except.ok z) = .tuple #[nmV z, .int .i64 0] from rfl]
  obtain ⟨hz, hbp, hbr⟩ := ampR_yes hra
  simp only [qz]
  refine rg_move ?_
  simp only [qz]
  refine rf_extract rfl rfl rfl rfl ?_
  simp only [qz]
  refine rf_extract rfl rfl rfl rfl ?_
  simp only [qz]
  refine Rgn fun g4 => ?_
  simp only [qz]
  refine rf_storeR (n := 5) rfl rfl Kx rfl rfl (UpdR.here _ _ _ Nl) Nz ?_
  simp only [qz, Nat.reduceAdd]
  refine rg_assign ?_
  simp only [qz]
  refine rg_nil (ek_next (wk_seq (wk_seq ?_)))
  refine wk_region [0, 0] rfl Kx ?_
  simp only [qy]
  refine rg_move ?_
  simp only [qz]
  refine rf_eql (b := true) rfl rfl rfl rfl (by decide) ?_
  simp only [qz]
  refine rg_nil (ek_next (wk_cond_t rfl ?_))
  refine wk_region [0, 1, 0, 0, 0, 1, 0] rfl Kx ?_
  simp only [qy]
  refine rf_loadR (n := 5) rfl rfl rfl Try.underlying29 rfl Kx (fun w hw => Kn.hd0 hw) rfl rfl ?_
  simp only [qz]
  apply rg_pure Rx Kx
  case hargs => exact Ax
  case h => exact fun w hw => rpower_ok z hz w
  case hz => exact Nz
  rcases hpw : z.power with cy | y
  · rw [show numV (Except.error cy) = .tuple #[nmV Nm.zero, .int .i64 cy] from rfl]
    have hcy := (by have := mk_err hpw; omega : cy ≠ 0)
    simp only [qz]
    refine rg_move ?_
    simp only [qz]
    refine rf_extract rfl rfl rfl rfl ?_
    simp only [qz]
    refine rf_extract rfl rfl rfl rfl ?_
    simp only [qz]
    refine rf_storeR (n := 5) rfl rfl Kx rfl rfl (UpdR.here _ _ _ Nl) Nz ?_
    simp only [qz, Nat.reduceAdd]
    refine rg_assign ?_
    simp only [qz]
    refine rg_nil (ek_next (wk_seq (wk_seq ?_)))
    refine wk_region [0, 0] rfl Kx ?_
    simp only [qy]
    refine rg_move ?_
    simp only [qz]
    refine rfb_neq rfl rfl rfl rfl ?_
    intro x h3
    cases x
    · (try simp only [qd, ne_eq] at h3)
      simp only [qz]
      exact absurd h3 Ox
    (try simp only [qd, ne_eq] at h3)
    simp only [qz]
    refine rg_nil (ek_next (wk_cond_t rfl (wk_seq ?_)))
    refine wk_region [0, 0, 1, 0, 0] rfl Kx ?_
    simp only [qy]
    refine rf_build (cs := fun a => #[.int .i64 0, .int .i64 0, .int .i64 0, .int .i64 0, .int .i64 0]) rfl rfl Kx ?_
    simp only [qz]
    refine rg_move ?_
    simp only [qz]
    refine rf_storeR (n := 5) rfl rfl Kx rfl rfl (UpdR.there _ (UpdR.here _ _ _ Nl)) Nz ?_
    simp only [qz, Nat.reduceAdd]
    refine rg_assign ?_
    simp only [qz]
    refine rg_assign ?_
    simp only [qz]
    refine rg_nil (ek_next (wk_ret (ek_then_ret ?_)))
    refine ek_ret (fun w hw => ⟨rfl, _, run_results3 rfl rfl (Kn.hd0 (Kn.tl hw)) Try.underlying29 rfl Kx, ?_⟩)
    (try simp only [qz])
    exact ⟨by first | (unfold chV; rw [hra]; rfl) | (unfold chV; rw [hra]; dsimp only; rw [hpw]; rfl) | (unfold chV; rw [hra]; dsimp only; rw [hpw]), hw.below⟩
  rw [show numV (Except.ok y) = .tuple #[nmV y, .int .i64 0] from rfl]
  have hmb := mul_le2 (fT_bd (patB_ok hbp).1 (patB_ok hbp).2 (Nat.le_refl _)).1 (fT_bd (patB_ok hbp).1 (patB_ok hbp).2 (Nat.le_refl _)).2 (fT_bd (patB_ok hbr).1 (patB_ok hbr).2 (Nat.le_refl _)).1 (fT_bd (patB_ok hbr).1 (patB_ok hbr).2 (Nat.le_refl _)).2
  simp only [qz]
  refine rg_move ?_
  simp only [qz]
  refine rf_extract rfl rfl rfl rfl ?_
  simp only [qz]
  refine rf_extract rfl rfl rfl rfl ?_
  simp only [qz]
  refine rf_storeR (n := 5) rfl rfl Kx rfl rfl (UpdR.here _ _ _ Nl) Nz ?_
  simp only [qz, Nat.reduceAdd]
  refine rg_assign ?_
  simp only [qz]
  refine rg_nil (ek_next (wk_seq (wk_seq ?_)))
  refine wk_region [0, 0] rfl Kx ?_
  simp only [qy]
  refine rg_move ?_
  simp only [qz]
  refine rf_neq (b := false) rfl rfl rfl rfl (by decide) ?_
  simp only [qz]
  refine rg_nil (ek_next (wk_cond_f rfl (wk_skip (ek_next (wk_seq ?_)))))
  refine wk_draws_m (hz1 := (sc _ (sk _ (sc _ sn)))) [(0, 0), (1, 3), (3, 3), (2, 1), (4, 1), (5, 3), (6, 2), (7, 0), (8, 0)] 6 Kx Kx (fun c d v a w h => by cases d <;> exact h) ?_
  simp only [List.map_cons, List.map_nil, List.getD_cons_zero, List.getD_cons_succ]
  refine rf_loadR (n := 5) rfl rfl rfl Try.underlying29 rfl Kx (fun w hw => Kn.hd0 hw) rfl rfl ?_
  simp only [qz]
  refine rg_moveP ?_
  simp only [qz]
  refine rg_moveP ?_
  simp only [qz]
  apply rg_pure Rx Kx
  case hargs => exact Ax
  case h => exact fun w hw => rfac_any p a1 c1 hlp (patB_ok hbp).1 (patB_ok hbp).2 w (hP.kn0 hw)
  case hz => exact (fun _ h => by cases h; exact (sc _ (sc _ (sc _ sn))))
  simp only [qz]
  apply rg_pure Rx Kx
  case hargs => exact Ax
  case h => exact fun w hw => rfac_any r a2 c2 hlr (patB_ok hbr).1 (patB_ok hbr).2 w (hR.kn0 hw)
  case hz => exact (fun _ h => by cases h; exact (sc _ (sc _ (sc _ sn))))
  simp only [qz]
  refine rf_mul rfl rfl rfl rfl (wrap_ok Ox Ox) ?_
  simp only [qz]
  refine rf_storeRM (n := 5) rfl rfl Kx rfl rfl (UpdR.there _ (UpdR.here _ _ _ Nl)) (sc _ (sk _ (sc _ sn))) ?_
  simp only [qz, Nat.reduceAdd]
  refine rg_assign ?_
  simp only [qz]
  refine rg_assign ?_
  simp only [qz]
  refine rg_nil (ek_next (wk_ret ?_))
  refine ek_ret (fun w hw => ⟨rfl, _, run_results3 rfl rfl (Kn.hd0 (Kn.tl hw)) Try.underlying29 rfl Kx, ?_⟩)
  (try simp only [qz])
  exact ⟨by first | (unfold chV; rw [hra]; rfl) | (unfold chV; rw [hra]; dsimp only; rw [hpw]; rfl) | (unfold chV; rw [hra]; dsimp only; rw [hpw]), hw.below⟩

end Go.Proofs.Ytjeijnjaleldkaa
namespace Go.Proofs.Ytjeijnjaleldkaa
set_option linter.all false
open Go.RowKit

theorem nm_fl (xs : List Nm) (k : Nat) (y : Nm) (hk : k < xs.length) : setMany (NmE.flat xs ++ []).toArray (0 + k * 5) (nmC y) = (NmE.flat (xs.set k y) ++ []).toArray := fl_set (E := NmE) (rest := []) hk
theorem nm_sz (xs : List Nm) (k : Nat) (y : Nm) (hk : k < xs.length) : 0 + k * 5 + (nmC y).length ≤ (NmE.flat xs ++ []).toArray.size := fl_size (E := NmE) (rest := []) (y := y) hk
theorem fill_set (l : List Nm) (m k : Nat) (z : Nm) (h : l.length = k) : (l ++ List.replicate (m + 1) Nm.zero).set k z = (l ++ [z]) ++ List.replicate m Nm.zero := by
  subst h
  rw [List.set_append_right _ _ (Nat.le_refl _), Nat.sub_self, List.replicate_succ, List.set_cons_zero, List.append_assoc]
  rfl
theorem ownN_fl {g n : Nat} {l : List Nm} (h : l.length = n) (hn : n ≤ 100000) : OwnN [(g, .cells (NmE.flat l ++ []).toArray 29)] (.slice (some ⟨g, 0, none⟩) n n) l := by
  subst h
  have e : (NmE.flat l ++ []).toArray.toList = NmE.flat l := by simp
  have := Own.whole (e := 29) (size := 5) (g := g) (n := l.length) (cur := (NmE.flat l ++ []).toArray) (by simp [El.flat_len]) (by simp only [maxLen]; omega)
  rwa [e] at this
theorem madeN (n : Nat) : madeCells #[.int .i64 0, .int .i64 0, .int .i64 0, .int .i64 0, .int .i64 0] (n * 5) = (NmE.flat (List.replicate n Nm.zero) ++ []).toArray := by
  rw [List.append_nil, ← made_fl (E := NmE) Nm.zero n]
  rfl
set_option maxRecDepth 100000 in
set_option maxHeartbeats 1000000 in
theorem zeros_any (N : Nat) (hN : N ≤ 6) (w : World) : Calls Try.prog 72 #[.int .i64 (N : Int)] w fun e w' => ∃ g, e = .returned (.agg #[.int .i64 N, .slice (some ⟨g, 0, none⟩) (N * N) (N * N)]) ∧ Made w [(g, .cells (NmE.flat (List.replicate (N * N) Nm.zero) ++ []).toArray 29)] w' := by
  have hN2 := Nat.mul_le_mul hN hN
  go_enter Try.func72, Try.ntmps72
  refine wk_start ?_
  refine wk_seq ?_
  refine wk_region [1] rfl Kx ?_
  simp only [qy]
  refine Rgn fun g1 => ?_
  simp only [qz]
  refine rg_nil (ek_next (wk_seq ?_))
  refine wk_region [0, 0, 0, 0, 1, 0, 1] rfl Kx ?_
  simp only [qy]
  refine rg_move ?_
  simp only [qz]
  refine rg_move ?_
  simp only [qz]
  refine rg_move ?_
  simp only [qz]
  refine rf_mul (r := ((N * N : Nat) : Int)) rfl rfl rfl rfl (wrap_eqB (Int.natCast_mul N N).symm Ox Ox) ?_
  simp only [qz]
  obtain ⟨iN, hiN, hzN, hsN, hbN⟩ := info_partsN numInfo
  refine rg_make (n := N * N) (i := iN) Rx Try.underlying22 hiN hzN rfl rfl (by rw [hbN]; omega) Ox Nz (fun gz2 => ?_)
  rw [hsN, show (Value.agg #[.int .i64 0, .int .i64 0, .int .i64 0, .int .i64 0, .int .i64 0]).cells = #[.int .i64 0, .int .i64 0, .int .i64 0, .int .i64 0, .int .i64 0] from rfl, madeN]
  simp only [qz]
  refine rf_build (cs := fun a => #[a.eval (.tmp 3), a.eval (.tmp 7)]) rfl rfl Kx ?_
  simp only [qz]
  refine rf_storeR (n := 2) rfl rfl Kx rfl rfl (UpdR.there _ (UpdR.here _ _ _ Nl)) Nz ?_
  simp only [qz, Nat.reduceAdd]
  refine rg_nil (ek_next (wk_ret ?_))
  refine ek_ret (fun w hw => ⟨rfl, _, run_results1 rfl rfl (Kn.hd0 (Kn.tl hw)) Try.underlying24 rfl Kx, ?_⟩)
  (try simp only [qz])
  exact ⟨_, rfl, hw.made (List.Sublist.cons₂ _ (List.Sublist.cons _ (List.Sublist.refl _)))⟩

end Go.Proofs.Ytjeijnjaleldkaa
namespace Go.Proofs.Ytjeijnjaleldkaa
set_option linter.all false
open Go.RowKit

theorem fold_zip1 {γ : Type} (f : γ → Nat × Value → γ) (t : γ) (p : Nat) (v : Value) : Array.foldl f t (#[p].zip #[v]) = f t (p, v) := by
  have e : (#[p].zip #[v]) = #[(p, v)] := by rw [List.zip_toArray]; rfl
  rw [e]; simp
theorem ex_loop {B w : World} {F : List Nat} {s : List Blk} {l : Nat} {r : Loop} (K : Kn B F ((l, .loop r) :: s) w) : ∃ r', r' = r := ⟨_, rfl⟩
/-- What an iterator over patterns does. -/
def PatC (m : Nat) : Prop := ∀ (p lp gm gp L : Nat) (r : Loop) (C : List (List Int) → List Blk → Prop) (ys : List (List Int)) (s0 : List Blk) (w : World) (F : List Nat), p ≤ 5 → ys.length + (pats m p).length ≤ L → RoundsP L m lp r C → C ys s0 →
  Kn w F (s0 ++ [(gm, .cells #[.int .i64 m] 3), (gp, .cells #[.int .i64 p] 3)]) w →
  Calls Try.prog 118 #[.func (.yield lp) #[] #[], .pointer (some ⟨gm, 0, none⟩), .pointer (some ⟨gp, 0, none⟩)] w fun e w' => e = .returned (.tuple #[]) ∧ ∃ s u, C (ys ++ pats m p) s ∧ Kn w F (s ++ u) w'
set_option maxRecDepth 100000 in
set_option maxHeartbeats 1000000 in
theorem patterns_any (m p : Int) (w : World) : Calls Try.prog 69 #[.int .i64 m, .int .i64 p] w fun e w' => ∃ gm gp, e = .returned (.func (.func 118) #[] #[.pointer (some ⟨gm, 0, none⟩), .pointer (some ⟨gp, 0, none⟩)]) ∧ Made w [(gm, .cells #[.int .i64 m] 3), (gp, .cells #[.int .i64 p] 3)] w' := by
  go_enter Try.func69, Try.ntmps69
  refine wk_start ?_
  refine wk_seq ?_
  refine wk_region [1, 1, 0] rfl Kx ?_
  simp only [qy]
  refine Rgn fun g1 => ?_
  simp only [qz]
  refine Rgn fun g2 => ?_
  simp only [qz]
  refine rg_assign ?_
  simp only [qz]
  refine rg_nil (ek_next (wk_seq ?_))
  refine wk_region [0, 0] rfl Kx ?_
  simp only [qy]
  apply rg_soft
  case hy => (intro w hw; go_simp; (try go_bits); exact Yld.mk _ _)
  simp only [qz]
  refine rg_assign ?_
  simp only [qz]
  refine rg_nil (ek_next (wk_ret ?_))
  refine ek_ret (fun w hw => ⟨rfl, _, res_t _ rfl, ?_⟩)
  (try simp only [qz])
  exact ⟨g1, g2, rfl, (hw.perm (List.Perm.swap _ _ _)).made (List.Sublist.refl _)⟩

set_option maxRecDepth 100000 in
theorem pat_one : PatC 1 := by
  intro p lp gm gp L r C ys s0 w F hp hlim hR hC K
  have hlim' : ys.length < L := by (simp [pats] at hlim; omega)
  revert hC K
  generalize s0 = uC
  intro hC K
  refine calls_marksF K Try.func118 rfl ?_
  simp only [Try.ntmps118, List.size_toArray, List.length_cons, List.length_nil, Nat.reduceAdd, Nat.reduceSub, Array.replicate_succ, Array.replicate_zero, List.push_toArray, List.append_toArray, List.nil_append, List.cons_append]
  refine wk_seq ?_
  refine wk_region [1] rfl Kx ?_
  simp only [qy]
  refine Rgn fun g1 => ?_
  simp only [qz]
  refine rg_nil (ek_next (wk_seq (wk_seq ?_)))
  refine wk_region [0, 0] rfl Kx ?_
  simp only [qy]
  refine rf_load rfl rfl rfl Try.underlying3 rfl (fun w hw => (Kn.hd0 (Kn.tlU (Kn.tl hw))).at rfl) ?_
  simp only [qz]
  refine rfb_eql rfl rfl rfl rfl ?_
  intro x h1
  obtain rfl : x = true := by (refine h1.symm.trans ?_; exact decide_eq_true Ox)
  clear h1
  simp only [qz]
  refine rg_nil (ek_next (wk_cond_t rfl (wk_seq ?_)))
  refine wk_region [0, 0, 1, 1] rfl Kx ?_
  simp only [qy]
  refine rf_load rfl rfl rfl Try.underlying57 rfl (fun w hw => (Kn.hd0 hw).at rfl) ?_
  simp only [qz]
  refine rf_load rfl rfl rfl Try.underlying3 rfl (fun w hw => (Kn.hd0 (Kn.tl (Kn.tlU (Kn.tl hw)))).at rfl) ?_
  simp only [qz]
  refine rg_newS (cs := ?_) (ty := ?_) (n := 1) (c := 1) Rx (fun w => ?_) Nz (fun g2 => ?_); rotate_left 2
  focus (go_simp; rfl)
  simp only [qz]
  refine rg_yieldP (u := [_]) (row := [(p : Int)]) hR hC (by simp) (by simp) Ox (OwnZ.one _) (by exact ((perm_atU (l := [_]) (u := uC) (List.Perm.refl _)).cons _)) Rx rfl (by simp only [qm, qs, Act.eval] <;> rfl) (fun sD hCD => ?_)
  simp only [qz]
  refine rg_nil (ek_next (wk_ret (ek_then_ret ?_)))
  refine ek_retM0 (fun w hw => ⟨_, res_0 rfl, ?_⟩)
  exact ⟨rfl, sD, _, hCD, hw⟩
theorem as6 {α : Type} {x y z a b : α} {u r : List α} : x :: y :: z :: (u ++ (a :: b :: r)) = ((x :: y :: z :: u) ++ [a, b]) ++ r := by simp
theorem wrap_eq' {n r : Int} (h : n = r) (h0 : -9223372036854775808 ≤ r) (h1 : r < 9223372036854775808) : IntKind.i64.wrap n = r := by
  rw [h]; exact wrap_ok Ox Ox
set_option maxRecDepth 100000 in
set_option maxHeartbeats 1000000 in
theorem pat_step {m : Nat} (hm : m + 2 ≤ 6) (IH : PatC (m + 1)) : PatC (m + 2) := by
  intro p lp gm gp L r C ys s0 w F hp hlim hR hC K
  revert hC K
  generalize s0 = uC
  intro hC K
  refine calls_marksF K Try.func118 rfl ?_
  simp only [Try.ntmps118, List.size_toArray, List.length_cons, List.length_nil, Nat.reduceAdd, Nat.reduceSub, Array.replicate_succ, Array.replicate_zero, List.push_toArray, List.append_toArray, List.nil_append, List.cons_append]
  refine wk_seq ?_
  refine wk_region [1] rfl Kx ?_
  simp only [qy]
  refine Rgn fun g1 => ?_
  simp only [qz]
  refine rg_nil (ek_next (wk_seq (wk_seq ?_)))
  refine wk_region [0, 0] rfl Kx ?_
  simp only [qy]
  refine rf_load rfl rfl rfl Try.underlying3 rfl (fun w hw => (Kn.hd0 (Kn.tlU (Kn.tl hw))).at rfl) ?_
  simp only [qz]
  refine rfb_eql rfl rfl rfl rfl ?_
  intro x h1
  obtain rfl : x = false := by (refine h1.symm.trans ?_; exact decide_eq_false Ox)
  clear h1
  simp only [qz]
  refine rg_nil (ek_next (wk_cond_f rfl (wk_skip (ek_next (wk_seq ?_)))))
  refine wk_region [0, 1, 1] rfl Kx ?_
  simp only [qy]
  refine rf_load rfl rfl rfl Try.underlying3 rfl (fun w hw => (Kn.hd0 (Kn.tl (Kn.tlU (Kn.tl hw)))).at rfl) ?_
  simp only [qz]
  refine Rgn fun g2 => ?_
  simp only [qz]
  refine rf_store rfl rfl Kx rfl rfl (UpdR.here _ _ _ Nl) Nz ?_
  simp only [qz]
  refine rg_nil (ek_next (wk_block ?_))
  refine wk_loopD [4, 5, 13, 14, 15, 16, 17, 18, 19, 20, 21, 22, 23, 24, 25, 26, 27, 28, 29, 30, 31] (fun mz f ds s => ∃ (t : Nat) (dl : List Nat) (uC : List Blk) (gF : Nat), f 4 = .pointer (some ⟨gF, 0, none⟩) ∧ ds = collD dl ∧ s = (gF, .cells #[.int .i64 ((p : Int) - ((t : Nat) : Int))] 3) :: (g1, .cells #[.func (.yield lp) #[] #[]] 57) :: (uC ++ ((gm, .cells #[.int .i64 (((m + 2 : Nat) : Int))] 3) :: (gp, .cells #[.int .i64 (p)] 3) :: (marksD dl ++ []))) ∧ mz = p + 1 - t ∧ t ≤ p + 1 ∧ C (ys ++ patsT (m + 1) p t) uC) (p + 1 - 0) ?_ Kx ?_
  · exact ⟨0, [], uC, g2, rfl, rfl, (by rw [show ((p : Int) - ((0 : Nat) : Int)) = p by omega]; rfl), rfl, by omega, (by have h := hC; rwa [show ys = ys ++ patsT (m + 1) p 0 by simp [patsT]] at h)⟩
  clear hC
  rintro mz f1 ds s ⟨t, dl, uC, gF, hs4, rfl, rfl, hn, ht, hC⟩
  simp only [Act.putF, List.foldl_cons, List.foldl_nil, hs4, Act.put, Act.eval, q1, q2, q3, q4, q5, q6, q7, q8, q9, q10, q11, q12, q13, q14, q15, q16, q17, q18, Nat.reduceAdd, Bool.not_true, Bool.not_false]
  clear hs4
  refine wk_seq (wk_seq ?_)
  refine wk_region [0, 0] rfl Kx ?_
  simp only [qy]
  refine rf_load rfl rfl rfl Try.underlying3 rfl (fun w hw => (Kn.hd0 hw).at rfl) ?_
  simp only [qz]
  refine rfb_geq rfl rfl rfl rfl ?_
  intro x h2
  cases x
  · (try simp only [qd, ne_eq] at h2)
    simp only [qz]
    refine rg_nil (ek_next (wk_cond_f rfl (wk_exit (ek_then_exit (ek_then_exit (ek_block_exit ?_))))))
    refine ek_perm ((((((((((((List.Perm.refl _).cons _).trans (List.perm_middle (l₁ := (marksD dl))).symm).cons _).trans (List.perm_middle (l₁ := (marksD dl))).symm).append_left _).trans (List.perm_append_comm_assoc uC (marksD dl) _)).cons _).trans (List.perm_middle (l₁ := (marksD dl))).symm).cons _).trans (List.perm_middle (l₁ := (marksD dl))).symm).trans ((perm_atU (l := [_, _]) (u := uC) (List.Perm.refl _)).append_left _)) ?_
    obtain rfl : t = p + 1 := by omega
    refine ek_normMn dl (fun w hw => ⟨_, res_0 rfl, ?_⟩)
    exact ⟨rfl, uC, _, by rw [pats_T]; exact hC, hw⟩
  (try simp only [qd, ne_eq] at h2)
  simp only [qz]
  refine rg_nil (ek_next (wk_cond_t rfl (wk_skip (ek_next (wk_seq (wk_block (wk_seq ?_)))))))
  refine wk_region [0, 0, 0, 0, 0, 1] rfl Kx ?_
  simp only [qy]
  refine rf_load rfl rfl rfl Try.underlying3 rfl (fun w hw => (Kn.hd0 (Kn.tlU (Kn.tl (Kn.tl hw)))).at rfl) ?_
  simp only [qz]
  refine rf_sub (r := ((m + 1 : Nat) : Int)) rfl rfl rfl rfl (wrap_eq' Ox Ox Ox) ?_
  simp only [qz]
  refine rf_load rfl rfl rfl Try.underlying3 rfl (fun w hw => (Kn.hd0 (Kn.tl (Kn.tlU (Kn.tl (Kn.tl hw))))).at rfl) ?_
  simp only [qz]
  refine rf_load rfl rfl rfl Try.underlying3 rfl (fun w hw => (Kn.hd0 hw).at rfl) ?_
  simp only [qz]
  refine rf_sub (r := (t : Int)) rfl rfl rfl rfl (wrap_eq' Ox Ox Ox) ?_
  simp only [qz]
  apply rg_made (T := fun v u => ∃ gm2 gp2, v = .func (.func 118) #[] #[.pointer (some ⟨gm2, 0, none⟩), .pointer (some ⟨gp2, 0, none⟩)] ∧ u = [(gm2, .cells #[.int .i64 (((m + 1 : Nat) : Int))] 3), (gp2, .cells #[.int .i64 (t)] 3)]) Rx Kx
  case hargs => exact Ax
  case h => exact fun w hw => (patterns_any ((m + 1 : Nat) : Int) t w).mono (fun e w' ⟨gm2, gp2, he, hm⟩ => ⟨_, _, he, ⟨gm2, gp2, rfl, rfl⟩, hm⟩)
  case hz => exact Nz
  rintro _ _ ⟨gm2, gp2, rfl, rfl⟩
  simp only [List.cons_append, List.nil_append]
  simp only [qz]
  refine rg_nil (ek_next (wk_block ?_))
  refine wk_rangeFunc (f := 118) (caps := #[.pointer (some ⟨gm2, 0, none⟩), .pointer (some ⟨gp2, 0, none⟩)]) rfl Kx ?_
  intro fn dd lq w1 K1
  obtain ⟨r2, hr2⟩ := ex_loop K1
  rw [← hr2] at K1
  have K2 := K1.perm ((perm_at (l := [_, _, _, _]) (perm_at (l := [_, _, _]) (perm_atU (l := [_, _, _]) (u := uC) (perm_at (l := [_]) (perm_at (l := [_]) (List.Perm.refl _)))))).cons _)
  rw [as6] at K2
  have K3 := Kn.self (v := (_ :: _ :: _ :: uC) ++ [_, _]) (rest := _) K2
  have hlt := patsT_le (m := m) (p := p) (t := t) Ox
  have hR2 : RoundsP (pats (m + 1) t).length (m + 1) lq r2 (fun zs S => ∃ sC, S = (lq, .loop r2) :: (g1, .cells #[.func (.yield lp) #[] #[]] 57) :: (gF, .cells #[.int .i64 ((p : Int) - ((t : Nat) : Int))] 3) :: sC ∧ C ((ys ++ patsT (m + 1) p t) ++ zs.map (((p - t : Nat) : Int) :: ·)) sC) := by
    subst hr2
    refine ⟨rfl, fun zs S ⟨sC, e, _⟩ => by subst e; simp, ?_⟩
    intro R B F zs row uN v S uR w hl0 hl1 hzl ⟨uD, hS, hCz⟩ hO K
    subst hS
    simp only [List.cons_append] at K
    obtain ⟨av, cv, rfl, hcv⟩ := Own.val hO
    obtain ⟨ad, rfl, hAd⟩ := hO.addr hl0
    refine roundIn_kn (Rep.app _ (Rep.here _)) rfl ?_ K
    simp only [fold_zip1]
    simp only [qz]
    refine wk_region [0] rfl Kx ?_
    simp only [qy]
    refine rg_assign ?_
    simp only [qz]
    refine rg_nil ?_
    refine ek_asg ?_
    refine wk_block (wk_seq ?_)
    refine wk_rr Kx ?_
    refine rr_hard3 (i := 0) (j := 1) (k := 3) (f := 0) (g := 0) (e := 0) Kx rfl rfl rfl rfl rfl rfl ?_ ?_ ?_
    · refine rf_load rfl rfl rfl Try.underlying57 rfl (fun w hw => (Kn.hd0 (Kn.tl (Kn.tlU hw))).at rfl) ?_
      simp only [qz]
      refine rg_nil ?_
      refine ek_rr ?_
      refine rr_hard2 (i := 1) (j := 3) (f := 0) (g := 0) Kx rfl rfl rfl rfl ?_ ?_
      · refine rf_load rfl rfl rfl Try.underlying3 rfl (fun w hw => (Kn.hd0 (Kn.tl (Kn.tl (Kn.tlU hw)))).at rfl) ?_
        simp only [qz]
        refine rg_nil ?_
        refine ek_rr ?_
        refine rr_hard2 (i := 2) (j := 3) (f := 1) (g := 0) Kx rfl rfl rfl rfl ?_ ?_
        · refine rg_newS (cs := ?_) (ty := ?_) (n := 1) (c := 1) Rx (fun w => ?_) Nz (fun g3 => ?_); rotate_left 2
          focus (go_simp; rfl)
          simp only [qz]
          refine rg_nil ?_
          refine ek_rr ?_
          refine rr_hard1 (i := 3) (f := 0) Kx rfl rfl ?_
          refine rg_move ?_
          simp only [qz]
          refine rg_nil ?_
          refine ek_rr ?_
          refine rr_hard1 (i := 4) (f := 1) Kx rfl rfl ?_
          refine rg_consZ (x := (p : Int) - ((t : Nat) : Int)) Rx rfl rfl (fun w hw => hAd hw (List.Sublist.cons _ (List.sublist_append_left _ _))) Ox hl0 (List.Perm.refl _) Nz (fun uP aP cP hOP => ?_)
          simp only [qz]
          refine rg_nil ?_
          refine ek_rr ?_
          refine rr_hard1 (i := 5) (f := 1) Kx rfl rfl ?_
          refine rg_yieldP hR hCz (by simp) (by simp; omega) (by simp only [List.length_append, List.length_map]; omega) hOP (((((((((((List.Perm.refl _).cons _).trans (List.perm_middle (l₁ := uD)).symm).cons _).trans (List.perm_middle (l₁ := uD)).symm).cons _).trans (List.perm_middle (l₁ := uD)).symm).append_left _).trans (List.perm_append_comm_assoc uN uD _)).trans ((List.Perm.refl _).append_left _)).append_left _) Rx rfl (by simp only [qm, qs, Act.eval, List.length_cons] <;> rfl) (fun uE hCE => ?_)
          simp only [qz]
          refine rg_nil ?_
          refine ek_rr ?_
          refine rr_hard1 (i := 6) (f := 0) Kx rfl rfl ?_
          refine rf_not rfl rfl rfl ?_
          simp only [qz]
          refine rg_nil ?_
          refine ek_rr ?_
          refine rr_nil Kx ?_
          refine ek_next (wk_cond_f rfl (wk_skip (ek_block ?_)))
          refine ek_sub (List.Sublist.append_left ((sc _ (sc _ (sc _ (List.Sublist.refl _)))).trans (List.sublist_append_right _ _)) _) ?_
          refine ek_perm ((((List.Perm.refl _).append_left _).trans (List.perm_middle (l₁ := uE))).trans (((((List.Perm.refl _).append_left _).trans (List.perm_middle (l₁ := uE))).trans (((((List.Perm.refl _).append_left _).trans (List.perm_middle (l₁ := uE))).trans ((List.Perm.refl _).cons _)).cons _)).cons _)) ?_
          refine ek_roundEnd (Rep.here _) (fun w hw => ⟨_, rfl, ⟨uE, rfl, ?_⟩, hw⟩)
          have h := hCE
          rw [show (p : Int) - ((t : Nat) : Int) = ((p - t : Nat) : Int) by omega] at h
          simpa [List.append_assoc] using h
        · refine rg_move ?_
          simp only [qz]
          refine rg_nil ?_
          refine ek_rr ?_
          refine rr_hard1 (i := 2) (f := 1) Kx rfl rfl ?_
          refine rg_newS (cs := ?_) (ty := ?_) (n := 1) (c := 1) Rx (fun w => ?_) Nz (fun g4 => ?_); rotate_left 2
          focus (go_simp; rfl)
          simp only [qz]
          refine rg_nil ?_
          refine ek_rr ?_
          refine rr_hard1 (i := 4) (f := 1) Kx rfl rfl ?_
          refine rg_consZ (x := (p : Int) - ((t : Nat) : Int)) Rx rfl rfl (fun w hw => hAd hw (List.Sublist.cons _ (List.sublist_append_left _ _))) Ox hl0 (List.Perm.refl _) Nz (fun uP aP cP hOP => ?_)
          simp only [qz]
          refine rg_nil ?_
          refine ek_rr ?_
          refine rr_hard1 (i := 5) (f := 1) Kx rfl rfl ?_
          refine rg_yieldP hR hCz (by simp) (by simp; omega) (by simp only [List.length_append, List.length_map]; omega) hOP (((((((((((List.Perm.refl _).cons _).trans (List.perm_middle (l₁ := uD)).symm).cons _).trans (List.perm_middle (l₁ := uD)).symm).cons _).trans (List.perm_middle (l₁ := uD)).symm).append_left _).trans (List.perm_append_comm_assoc uN uD _)).trans ((List.Perm.refl _).append_left _)).append_left _) Rx rfl (by simp only [qm, qs, Act.eval, List.length_cons] <;> rfl) (fun uE hCE => ?_)
          simp only [qz]
          refine rg_nil ?_
          refine ek_rr ?_
          refine rr_hard1 (i := 6) (f := 0) Kx rfl rfl ?_
          refine rf_not rfl rfl rfl ?_
          simp only [qz]
          refine rg_nil ?_
          refine ek_rr ?_
          refine rr_nil Kx ?_
          refine ek_next (wk_cond_f rfl (wk_skip (ek_block ?_)))
          refine ek_sub (List.Sublist.append_left ((sc _ (sc _ (sc _ (List.Sublist.refl _)))).trans (List.sublist_append_right _ _)) _) ?_
          refine ek_perm ((((List.Perm.refl _).append_left _).trans (List.perm_middle (l₁ := uE))).trans (((((List.Perm.refl _).append_left _).trans (List.perm_middle (l₁ := uE))).trans (((((List.Perm.refl _).append_left _).trans (List.perm_middle (l₁ := uE))).trans ((List.Perm.refl _).cons _)).cons _)).cons _)) ?_
          refine ek_roundEnd (Rep.here _) (fun w hw => ⟨_, rfl, ⟨uE, rfl, ?_⟩, hw⟩)
          have h := hCE
          rw [show (p : Int) - ((t : Nat) : Int) = ((p - t : Nat) : Int) by omega] at h
          simpa [List.append_assoc] using h
      · refine rg_move ?_
        simp only [qz]
        refine rg_nil ?_
        refine ek_rr ?_
        refine rr_hard1 (i := 1) (f := 0) Kx rfl rfl ?_
        refine rf_load rfl rfl rfl Try.underlying3 rfl (fun w hw => (Kn.hd0 (Kn.tl (Kn.tl (Kn.tlU hw)))).at rfl) ?_
        simp only [qz]
        refine rg_nil ?_
        refine ek_rr ?_
        refine rr_hard1 (i := 2) (f := 1) Kx rfl rfl ?_
        refine rg_newS (cs := ?_) (ty := ?_) (n := 1) (c := 1) Rx (fun w => ?_) Nz (fun g5 => ?_); rotate_left 2
        focus (go_simp; rfl)
        simp only [qz]
        refine rg_nil ?_
        refine ek_rr ?_
        refine rr_hard1 (i := 4) (f := 1) Kx rfl rfl ?_
        refine rg_consZ (x := (p : Int) - ((t : Nat) : Int)) Rx rfl rfl (fun w hw => hAd hw (List.Sublist.cons _ (List.sublist_append_left _ _))) Ox hl0 (List.Perm.refl _) Nz (fun uP aP cP hOP => ?_)
        simp only [qz]
        refine rg_nil ?_
        refine ek_rr ?_
        refine rr_hard1 (i := 5) (f := 1) Kx rfl rfl ?_
        refine rg_yieldP hR hCz (by simp) (by simp; omega) (by simp only [List.length_append, List.length_map]; omega) hOP (((((((((((List.Perm.refl _).cons _).trans (List.perm_middle (l₁ := uD)).symm).cons _).trans (List.perm_middle (l₁ := uD)).symm).cons _).trans (List.perm_middle (l₁ := uD)).symm).append_left _).trans (List.perm_append_comm_assoc uN uD _)).trans ((List.Perm.refl _).append_left _)).append_left _) Rx rfl (by simp only [qm, qs, Act.eval, List.length_cons] <;> rfl) (fun uE hCE => ?_)
        simp only [qz]
        refine rg_nil ?_
        refine ek_rr ?_
        refine rr_hard1 (i := 6) (f := 0) Kx rfl rfl ?_
        refine rf_not rfl rfl rfl ?_
        simp only [qz]
        refine rg_nil ?_
        refine ek_rr ?_
        refine rr_nil Kx ?_
        refine ek_next (wk_cond_f rfl (wk_skip (ek_block ?_)))
        refine ek_sub (List.Sublist.append_left ((sc _ (sc _ (sc _ (List.Sublist.refl _)))).trans (List.sublist_append_right _ _)) _) ?_
        refine ek_perm ((((List.Perm.refl _).append_left _).trans (List.perm_middle (l₁ := uE))).trans (((((List.Perm.refl _).append_left _).trans (List.perm_middle (l₁ := uE))).trans (((((List.Perm.refl _).append_left _).trans (List.perm_middle (l₁ := uE))).trans ((List.Perm.refl _).cons _)).cons _)).cons _)) ?_
        refine ek_roundEnd (Rep.here _) (fun w hw => ⟨_, rfl, ⟨uE, rfl, ?_⟩, hw⟩)
        have h := hCE
        rw [show (p : Int) - ((t : Nat) : Int) = ((p - t : Nat) : Int) by omega] at h
        simpa [List.append_assoc] using h
    · refine rf_load rfl rfl rfl Try.underlying3 rfl (fun w hw => (Kn.hd0 (Kn.tl (Kn.tl (Kn.tlU hw)))).at rfl) ?_
      simp only [qz]
      refine rg_nil ?_
      refine ek_rr ?_
      refine rr_hard3 (i := 0) (j := 2) (k := 3) (f := 0) (g := 1) (e := 0) Kx rfl rfl rfl rfl rfl rfl ?_ ?_ ?_
      · refine rf_load rfl rfl rfl Try.underlying57 rfl (fun w hw => (Kn.hd0 (Kn.tl (Kn.tlU hw))).at rfl) ?_
        simp only [qz]
        refine rg_nil ?_
        refine ek_rr ?_
        refine rr_hard2 (i := 2) (j := 3) (f := 1) (g := 0) Kx rfl rfl rfl rfl ?_ ?_
        · refine rg_newS (cs := ?_) (ty := ?_) (n := 1) (c := 1) Rx (fun w => ?_) Nz (fun g6 => ?_); rotate_left 2
          focus (go_simp; rfl)
          simp only [qz]
          refine rg_nil ?_
          refine ek_rr ?_
          refine rr_hard1 (i := 3) (f := 0) Kx rfl rfl ?_
          refine rg_move ?_
          simp only [qz]
          refine rg_nil ?_
          refine ek_rr ?_
          refine rr_hard1 (i := 4) (f := 1) Kx rfl rfl ?_
          refine rg_consZ (x := (p : Int) - ((t : Nat) : Int)) Rx rfl rfl (fun w hw => hAd hw (List.Sublist.cons _ (List.sublist_append_left _ _))) Ox hl0 (List.Perm.refl _) Nz (fun uP aP cP hOP => ?_)
          simp only [qz]
          refine rg_nil ?_
          refine ek_rr ?_
          refine rr_hard1 (i := 5) (f := 1) Kx rfl rfl ?_
          refine rg_yieldP hR hCz (by simp) (by simp; omega) (by simp only [List.length_append, List.length_map]; omega) hOP (((((((((((List.Perm.refl _).cons _).trans (List.perm_middle (l₁ := uD)).symm).cons _).trans (List.perm_middle (l₁ := uD)).symm).cons _).trans (List.perm_middle (l₁ := uD)).symm).append_left _).trans (List.perm_append_comm_assoc uN uD _)).trans ((List.Perm.refl _).append_left _)).append_left _) Rx rfl (by simp only [qm, qs, Act.eval, List.length_cons] <;> rfl) (fun uE hCE => ?_)
          simp only [qz]
          refine rg_nil ?_
          refine ek_rr ?_
          refine rr_hard1 (i := 6) (f := 0) Kx rfl rfl ?_
          refine rf_not rfl rfl rfl ?_
          simp only [qz]
          refine rg_nil ?_
          refine ek_rr ?_
          refine rr_nil Kx ?_
          refine ek_next (wk_cond_f rfl (wk_skip (ek_block ?_)))
          refine ek_sub (List.Sublist.append_left ((sc _ (sc _ (sc _ (List.Sublist.refl _)))).trans (List.sublist_append_right _ _)) _) ?_
          refine ek_perm ((((List.Perm.refl _).append_left _).trans (List.perm_middle (l₁ := uE))).trans (((((List.Perm.refl _).append_left _).trans (List.perm_middle (l₁ := uE))).trans (((((List.Perm.refl _).append_left _).trans (List.perm_middle (l₁ := uE))).trans ((List.Perm.refl _).cons _)).cons _)).cons _)) ?_
          refine ek_roundEnd (Rep.here _) (fun w hw => ⟨_, rfl, ⟨uE, rfl, ?_⟩, hw⟩)
          have h := hCE
          rw [show (p : Int) - ((t : Nat) : Int) = ((p - t : Nat) : Int) by omega] at h
          simpa [List.append_assoc] using h
        · refine rg_move ?_
          simp only [qz]
          refine rg_nil ?_
          refine ek_rr ?_
          refine rr_hard1 (i := 2) (f := 1) Kx rfl rfl ?_
          refine rg_newS (cs := ?_) (ty := ?_) (n := 1) (c := 1) Rx (fun w => ?_) Nz (fun g7 => ?_); rotate_left 2
          focus (go_simp; rfl)
          simp only [qz]
          refine rg_nil ?_
          refine ek_rr ?_
          refine rr_hard1 (i := 4) (f := 1) Kx rfl rfl ?_
          refine rg_consZ (x := (p : Int) - ((t : Nat) : Int)) Rx rfl rfl (fun w hw => hAd hw (List.Sublist.cons _ (List.sublist_append_left _ _))) Ox hl0 (List.Perm.refl _) Nz (fun uP aP cP hOP => ?_)
          simp only [qz]
          refine rg_nil ?_
          refine ek_rr ?_
          refine rr_hard1 (i := 5) (f := 1) Kx rfl rfl ?_
          refine rg_yieldP hR hCz (by simp) (by simp; omega) (by simp only [List.length_append, List.length_map]; omega) hOP (((((((((((List.Perm.refl _).cons _).trans (List.perm_middle (l₁ := uD)).symm).cons _).trans (List.perm_middle (l₁ := uD)).symm).cons _).trans (List.perm_middle (l₁ := uD)).symm).append_left _).trans (List.perm_append_comm_assoc uN uD _)).trans ((List.Perm.refl _).append_left _)).append_left _) Rx rfl (by simp only [qm, qs, Act.eval, List.length_cons] <;> rfl) (fun uE hCE => ?_)
          simp only [qz]
          refine rg_nil ?_
          refine ek_rr ?_
          refine rr_hard1 (i := 6) (f := 0) Kx rfl rfl ?_
          refine rf_not rfl rfl rfl ?_
          simp only [qz]
          refine rg_nil ?_
          refine ek_rr ?_
          refine rr_nil Kx ?_
          refine ek_next (wk_cond_f rfl (wk_skip (ek_block ?_)))
          refine ek_sub (List.Sublist.append_left ((sc _ (sc _ (sc _ (List.Sublist.refl _)))).trans (List.sublist_append_right _ _)) _) ?_
          refine ek_perm ((((List.Perm.refl _).append_left _).trans (List.perm_middle (l₁ := uE))).trans (((((List.Perm.refl _).append_left _).trans (List.perm_middle (l₁ := uE))).trans (((((List.Perm.refl _).append_left _).trans (List.perm_middle (l₁ := uE))).trans ((List.Perm.refl _).cons _)).cons _)).cons _)) ?_
          refine ek_roundEnd (Rep.here _) (fun w hw => ⟨_, rfl, ⟨uE, rfl, ?_⟩, hw⟩)
          have h := hCE
          rw [show (p : Int) - ((t : Nat) : Int) = ((p - t : Nat) : Int) by omega] at h
          simpa [List.append_assoc] using h
      · refine rg_newS (cs := ?_) (ty := ?_) (n := 1) (c := 1) Rx (fun w => ?_) Nz (fun g8 => ?_); rotate_left 2
        focus (go_simp; rfl)
        simp only [qz]
        refine rg_nil ?_
        refine ek_rr ?_
        refine rr_hard2 (i := 0) (j := 3) (f := 0) (g := 0) Kx rfl rfl rfl rfl ?_ ?_
        · refine rf_load rfl rfl rfl Try.underlying57 rfl (fun w hw => (Kn.hd0 (Kn.tl (Kn.tlU (Kn.tl hw)))).at rfl) ?_
          simp only [qz]
          refine rg_nil ?_
          refine ek_rr ?_
          refine rr_hard1 (i := 3) (f := 0) Kx rfl rfl ?_
          refine rg_move ?_
          simp only [qz]
          refine rg_nil ?_
          refine ek_rr ?_
          refine rr_hard1 (i := 4) (f := 1) Kx rfl rfl ?_
          refine rg_consZ (x := (p : Int) - ((t : Nat) : Int)) Rx rfl rfl (fun w hw => hAd hw (List.Sublist.cons _ (List.sublist_append_left _ _))) Ox hl0 (List.Perm.refl _) Nz (fun uP aP cP hOP => ?_)
          simp only [qz]
          refine rg_nil ?_
          refine ek_rr ?_
          refine rr_hard1 (i := 5) (f := 1) Kx rfl rfl ?_
          refine rg_yieldP hR hCz (by simp) (by simp; omega) (by simp only [List.length_append, List.length_map]; omega) hOP (((((((((((List.Perm.refl _).cons _).trans (List.perm_middle (l₁ := uD)).symm).cons _).trans (List.perm_middle (l₁ := uD)).symm).cons _).trans (List.perm_middle (l₁ := uD)).symm).append_left _).trans (List.perm_append_comm_assoc uN uD _)).trans ((List.Perm.refl _).append_left _)).append_left _) Rx rfl (by simp only [qm, qs, Act.eval, List.length_cons] <;> rfl) (fun uE hCE => ?_)
          simp only [qz]
          refine rg_nil ?_
          refine ek_rr ?_
          refine rr_hard1 (i := 6) (f := 0) Kx rfl rfl ?_
          refine rf_not rfl rfl rfl ?_
          simp only [qz]
          refine rg_nil ?_
          refine ek_rr ?_
          refine rr_nil Kx ?_
          refine ek_next (wk_cond_f rfl (wk_skip (ek_block ?_)))
          refine ek_sub (List.Sublist.append_left ((sc _ (sc _ (sc _ (List.Sublist.refl _)))).trans (List.sublist_append_right _ _)) _) ?_
          refine ek_perm ((((List.Perm.refl _).append_left _).trans (List.perm_middle (l₁ := uE))).trans (((((List.Perm.refl _).append_left _).trans (List.perm_middle (l₁ := uE))).trans (((((List.Perm.refl _).append_left _).trans (List.perm_middle (l₁ := uE))).trans ((List.Perm.refl _).cons _)).cons _)).cons _)) ?_
          refine ek_roundEnd (Rep.here _) (fun w hw => ⟨_, rfl, ⟨uE, rfl, ?_⟩, hw⟩)
          have h := hCE
          rw [show (p : Int) - ((t : Nat) : Int) = ((p - t : Nat) : Int) by omega] at h
          simpa [List.append_assoc] using h
        · refine rg_move ?_
          simp only [qz]
          refine rg_nil ?_
          refine ek_rr ?_
          refine rr_hard2 (i := 0) (j := 4) (f := 0) (g := 1) Kx rfl rfl rfl rfl ?_ ?_
          · refine rf_load rfl rfl rfl Try.underlying57 rfl (fun w hw => (Kn.hd0 (Kn.tl (Kn.tlU (Kn.tl hw)))).at rfl) ?_
            simp only [qz]
            refine rg_nil ?_
            refine ek_rr ?_
            refine rr_hard1 (i := 4) (f := 1) Kx rfl rfl ?_
            refine rg_consZ (x := (p : Int) - ((t : Nat) : Int)) Rx rfl rfl (fun w hw => hAd hw (List.Sublist.cons _ (List.sublist_append_left _ _))) Ox hl0 (List.Perm.refl _) Nz (fun uP aP cP hOP => ?_)
            simp only [qz]
            refine rg_nil ?_
            refine ek_rr ?_
            refine rr_hard1 (i := 5) (f := 1) Kx rfl rfl ?_
            refine rg_yieldP hR hCz (by simp) (by simp; omega) (by simp only [List.length_append, List.length_map]; omega) hOP (((((((((((List.Perm.refl _).cons _).trans (List.perm_middle (l₁ := uD)).symm).cons _).trans (List.perm_middle (l₁ := uD)).symm).cons _).trans (List.perm_middle (l₁ := uD)).symm).append_left _).trans (List.perm_append_comm_assoc uN uD _)).trans ((List.Perm.refl _).append_left _)).append_left _) Rx rfl (by simp only [qm, qs, Act.eval, List.length_cons] <;> rfl) (fun uE hCE => ?_)
            simp only [qz]
            refine rg_nil ?_
            refine ek_rr ?_
            refine rr_hard1 (i := 6) (f := 0) Kx rfl rfl ?_
            refine rf_not rfl rfl rfl ?_
            simp only [qz]
            refine rg_nil ?_
            refine ek_rr ?_
            refine rr_nil Kx ?_
            refine ek_next (wk_cond_f rfl (wk_skip (ek_block ?_)))
            refine ek_sub (List.Sublist.append_left ((sc _ (sc _ (sc _ (List.Sublist.refl _)))).trans (List.sublist_append_right _ _)) _) ?_
            refine ek_perm ((((List.Perm.refl _).append_left _).trans (List.perm_middle (l₁ := uE))).trans (((((List.Perm.refl _).append_left _).trans (List.perm_middle (l₁ := uE))).trans (((((List.Perm.refl _).append_left _).trans (List.perm_middle (l₁ := uE))).trans ((List.Perm.refl _).cons _)).cons _)).cons _)) ?_
            refine ek_roundEnd (Rep.here _) (fun w hw => ⟨_, rfl, ⟨uE, rfl, ?_⟩, hw⟩)
            have h := hCE
            rw [show (p : Int) - ((t : Nat) : Int) = ((p - t : Nat) : Int) by omega] at h
            simpa [List.append_assoc] using h
          · refine rg_consZ (x := (p : Int) - ((t : Nat) : Int)) Rx rfl rfl (fun w hw => hAd hw (List.Sublist.cons _ (List.sublist_append_left _ _))) Ox hl0 (List.Perm.refl _) Nz (fun uP aP cP hOP => ?_)
            simp only [qz]
            refine rg_nil ?_
            refine ek_rr ?_
            refine rr_hard1 (i := 0) (f := 0) Kx rfl rfl ?_
            refine rf_load rfl rfl rfl Try.underlying57 rfl (fun w hw => (Kn.hd0 (Kn.tl (Kn.tlU (Kn.tlU hw)))).at rfl) ?_
            simp only [qz]
            refine rg_nil ?_
            refine ek_rr ?_
            refine rr_hard1 (i := 5) (f := 1) Kx rfl rfl ?_
            refine rg_yieldP hR hCz (by simp) (by simp; omega) (by simp only [List.length_append, List.length_map]; omega) hOP (((((((((((List.Perm.refl _).cons _).trans (List.perm_middle (l₁ := uD)).symm).cons _).trans (List.perm_middle (l₁ := uD)).symm).cons _).trans (List.perm_middle (l₁ := uD)).symm).append_left _).trans (List.perm_append_comm_assoc uN uD _)).trans ((List.Perm.refl _).append_left _)).append_left _) Rx rfl (by simp only [qm, qs, Act.eval, List.length_cons] <;> rfl) (fun uE hCE => ?_)
            simp only [qz]
            refine rg_nil ?_
            refine ek_rr ?_
            refine rr_hard1 (i := 6) (f := 0) Kx rfl rfl ?_
            refine rf_not rfl rfl rfl ?_
            simp only [qz]
            refine rg_nil ?_
            refine ek_rr ?_
            refine rr_nil Kx ?_
            refine ek_next (wk_cond_f rfl (wk_skip (ek_block ?_)))
            refine ek_sub (List.Sublist.append_left ((sc _ (sc _ (sc _ (List.Sublist.refl _)))).trans (List.sublist_append_right _ _)) _) ?_
            refine ek_perm ((((List.Perm.refl _).append_left _).trans (List.perm_middle (l₁ := uE))).trans (((((List.Perm.refl _).append_left _).trans (List.perm_middle (l₁ := uE))).trans (((((List.Perm.refl _).append_left _).trans (List.perm_middle (l₁ := uE))).trans ((List.Perm.refl _).cons _)).cons _)).cons _)) ?_
            refine ek_roundEnd (Rep.here _) (fun w hw => ⟨_, rfl, ⟨uE, rfl, ?_⟩, hw⟩)
            have h := hCE
            rw [show (p : Int) - ((t : Nat) : Int) = ((p - t : Nat) : Int) by omega] at h
            simpa [List.append_assoc] using h
      · refine rg_move ?_
        simp only [qz]
        refine rg_nil ?_
        refine ek_rr ?_
        refine rr_hard2 (i := 0) (j := 2) (f := 0) (g := 1) Kx rfl rfl rfl rfl ?_ ?_
        · refine rf_load rfl rfl rfl Try.underlying57 rfl (fun w hw => (Kn.hd0 (Kn.tl (Kn.tlU hw))).at rfl) ?_
          simp only [qz]
          refine rg_nil ?_
          refine ek_rr ?_
          refine rr_hard1 (i := 2) (f := 1) Kx rfl rfl ?_
          refine rg_newS (cs := ?_) (ty := ?_) (n := 1) (c := 1) Rx (fun w => ?_) Nz (fun g9 => ?_); rotate_left 2
          focus (go_simp; rfl)
          simp only [qz]
          refine rg_nil ?_
          refine ek_rr ?_
          refine rr_hard1 (i := 4) (f := 1) Kx rfl rfl ?_
          refine rg_consZ (x := (p : Int) - ((t : Nat) : Int)) Rx rfl rfl (fun w hw => hAd hw (List.Sublist.cons _ (List.sublist_append_left _ _))) Ox hl0 (List.Perm.refl _) Nz (fun uP aP cP hOP => ?_)
          simp only [qz]
          refine rg_nil ?_
          refine ek_rr ?_
          refine rr_hard1 (i := 5) (f := 1) Kx rfl rfl ?_
          refine rg_yieldP hR hCz (by simp) (by simp; omega) (by simp only [List.length_append, List.length_map]; omega) hOP (((((((((((List.Perm.refl _).cons _).trans (List.perm_middle (l₁ := uD)).symm).cons _).trans (List.perm_middle (l₁ := uD)).symm).cons _).trans (List.perm_middle (l₁ := uD)).symm).append_left _).trans (List.perm_append_comm_assoc uN uD _)).trans ((List.Perm.refl _).append_left _)).append_left _) Rx rfl (by simp only [qm, qs, Act.eval, List.length_cons] <;> rfl) (fun uE hCE => ?_)
          simp only [qz]
          refine rg_nil ?_
          refine ek_rr ?_
          refine rr_hard1 (i := 6) (f := 0) Kx rfl rfl ?_
          refine rf_not rfl rfl rfl ?_
          simp only [qz]
          refine rg_nil ?_
          refine ek_rr ?_
          refine rr_nil Kx ?_
          refine ek_next (wk_cond_f rfl (wk_skip (ek_block ?_)))
          refine ek_sub (List.Sublist.append_left ((sc _ (sc _ (sc _ (List.Sublist.refl _)))).trans (List.sublist_append_right _ _)) _) ?_
          refine ek_perm ((((List.Perm.refl _).append_left _).trans (List.perm_middle (l₁ := uE))).trans (((((List.Perm.refl _).append_left _).trans (List.perm_middle (l₁ := uE))).trans (((((List.Perm.refl _).append_left _).trans (List.perm_middle (l₁ := uE))).trans ((List.Perm.refl _).cons _)).cons _)).cons _)) ?_
          refine ek_roundEnd (Rep.here _) (fun w hw => ⟨_, rfl, ⟨uE, rfl, ?_⟩, hw⟩)
          have h := hCE
          rw [show (p : Int) - ((t : Nat) : Int) = ((p - t : Nat) : Int) by omega] at h
          simpa [List.append_assoc] using h
        · refine rg_newS (cs := ?_) (ty := ?_) (n := 1) (c := 1) Rx (fun w => ?_) Nz (fun g10 => ?_); rotate_left 2
          focus (go_simp; rfl)
          simp only [qz]
          refine rg_nil ?_
          refine ek_rr ?_
          refine rr_hard2 (i := 0) (j := 4) (f := 0) (g := 1) Kx rfl rfl rfl rfl ?_ ?_
          · refine rf_load rfl rfl rfl Try.underlying57 rfl (fun w hw => (Kn.hd0 (Kn.tl (Kn.tlU (Kn.tl hw)))).at rfl) ?_
            simp only [qz]
            refine rg_nil ?_
            refine ek_rr ?_
            refine rr_hard1 (i := 4) (f := 1) Kx rfl rfl ?_
            refine rg_consZ (x := (p : Int) - ((t : Nat) : Int)) Rx rfl rfl (fun w hw => hAd hw (List.Sublist.cons _ (List.sublist_append_left _ _))) Ox hl0 (List.Perm.refl _) Nz (fun uP aP cP hOP => ?_)
            simp only [qz]
            refine rg_nil ?_
            refine ek_rr ?_
            refine rr_hard1 (i := 5) (f := 1) Kx rfl rfl ?_
            refine rg_yieldP hR hCz (by simp) (by simp; omega) (by simp only [List.length_append, List.length_map]; omega) hOP (((((((((((List.Perm.refl _).cons _).trans (List.perm_middle (l₁ := uD)).symm).cons _).trans (List.perm_middle (l₁ := uD)).symm).cons _).trans (List.perm_middle (l₁ := uD)).symm).append_left _).trans (List.perm_append_comm_assoc uN uD _)).trans ((List.Perm.refl _).append_left _)).append_left _) Rx rfl (by simp only [qm, qs, Act.eval, List.length_cons] <;> rfl) (fun uE hCE => ?_)
            simp only [qz]
            refine rg_nil ?_
            refine ek_rr ?_
            refine rr_hard1 (i := 6) (f := 0) Kx rfl rfl ?_
            refine rf_not rfl rfl rfl ?_
            simp only [qz]
            refine rg_nil ?_
            refine ek_rr ?_
            refine rr_nil Kx ?_
            refine ek_next (wk_cond_f rfl (wk_skip (ek_block ?_)))
            refine ek_sub (List.Sublist.append_left ((sc _ (sc _ (sc _ (List.Sublist.refl _)))).trans (List.sublist_append_right _ _)) _) ?_
            refine ek_perm ((((List.Perm.refl _).append_left _).trans (List.perm_middle (l₁ := uE))).trans (((((List.Perm.refl _).append_left _).trans (List.perm_middle (l₁ := uE))).trans (((((List.Perm.refl _).append_left _).trans (List.perm_middle (l₁ := uE))).trans ((List.Perm.refl _).cons _)).cons _)).cons _)) ?_
            refine ek_roundEnd (Rep.here _) (fun w hw => ⟨_, rfl, ⟨uE, rfl, ?_⟩, hw⟩)
            have h := hCE
            rw [show (p : Int) - ((t : Nat) : Int) = ((p - t : Nat) : Int) by omega] at h
            simpa [List.append_assoc] using h
          · refine rg_consZ (x := (p : Int) - ((t : Nat) : Int)) Rx rfl rfl (fun w hw => hAd hw (List.Sublist.cons _ (List.sublist_append_left _ _))) Ox hl0 (List.Perm.refl _) Nz (fun uP aP cP hOP => ?_)
            simp only [qz]
            refine rg_nil ?_
            refine ek_rr ?_
            refine rr_hard1 (i := 0) (f := 0) Kx rfl rfl ?_
            refine rf_load rfl rfl rfl Try.underlying57 rfl (fun w hw => (Kn.hd0 (Kn.tl (Kn.tlU (Kn.tlU hw)))).at rfl) ?_
            simp only [qz]
            refine rg_nil ?_
            refine ek_rr ?_
            refine rr_hard1 (i := 5) (f := 1) Kx rfl rfl ?_
            refine rg_yieldP hR hCz (by simp) (by simp; omega) (by simp only [List.length_append, List.length_map]; omega) hOP (((((((((((List.Perm.refl _).cons _).trans (List.perm_middle (l₁ := uD)).symm).cons _).trans (List.perm_middle (l₁ := uD)).symm).cons _).trans (List.perm_middle (l₁ := uD)).symm).append_left _).trans (List.perm_append_comm_assoc uN uD _)).trans ((List.Perm.refl _).append_left _)).append_left _) Rx rfl (by simp only [qm, qs, Act.eval, List.length_cons] <;> rfl) (fun uE hCE => ?_)
            simp only [qz]
            refine rg_nil ?_
            refine ek_rr ?_
            refine rr_hard1 (i := 6) (f := 0) Kx rfl rfl ?_
            refine rf_not rfl rfl rfl ?_
            simp only [qz]
            refine rg_nil ?_
            refine ek_rr ?_
            refine rr_nil Kx ?_
            refine ek_next (wk_cond_f rfl (wk_skip (ek_block ?_)))
            refine ek_sub (List.Sublist.append_left ((sc _ (sc _ (sc _ (List.Sublist.refl _)))).trans (List.sublist_append_right _ _)) _) ?_
            refine ek_perm ((((List.Perm.refl _).append_left _).trans (List.perm_middle (l₁ := uE))).trans (((((List.Perm.refl _).append_left _).trans (List.perm_middle (l₁ := uE))).trans (((((List.Perm.refl _).append_left _).trans (List.perm_middle (l₁ := uE))).trans ((List.Perm.refl _).cons _)).cons _)).cons _)) ?_
            refine ek_roundEnd (Rep.here _) (fun w hw => ⟨_, rfl, ⟨uE, rfl, ?_⟩, hw⟩)
            have h := hCE
            rw [show (p : Int) - ((t : Nat) : Int) = ((p - t : Nat) : Int) by omega] at h
            simpa [List.append_assoc] using h
    · refine rg_move ?_
      simp only [qz]
      refine rg_nil ?_
      refine ek_rr ?_
      refine rr_hard2 (i := 0) (j := 1) (f := 0) (g := 0) Kx rfl rfl rfl rfl ?_ ?_
      · refine rf_load rfl rfl rfl Try.underlying57 rfl (fun w hw => (Kn.hd0 (Kn.tl (Kn.tlU hw))).at rfl) ?_
        simp only [qz]
        refine rg_nil ?_
        refine ek_rr ?_
        refine rr_hard1 (i := 1) (f := 0) Kx rfl rfl ?_
        refine rf_load rfl rfl rfl Try.underlying3 rfl (fun w hw => (Kn.hd0 (Kn.tl (Kn.tl (Kn.tlU hw)))).at rfl) ?_
        simp only [qz]
        refine rg_nil ?_
        refine ek_rr ?_
        refine rr_hard1 (i := 2) (f := 1) Kx rfl rfl ?_
        refine rg_newS (cs := ?_) (ty := ?_) (n := 1) (c := 1) Rx (fun w => ?_) Nz (fun g11 => ?_); rotate_left 2
        focus (go_simp; rfl)
        simp only [qz]
        refine rg_nil ?_
        refine ek_rr ?_
        refine rr_hard1 (i := 4) (f := 1) Kx rfl rfl ?_
        refine rg_consZ (x := (p : Int) - ((t : Nat) : Int)) Rx rfl rfl (fun w hw => hAd hw (List.Sublist.cons _ (List.sublist_append_left _ _))) Ox hl0 (List.Perm.refl _) Nz (fun uP aP cP hOP => ?_)
        simp only [qz]
        refine rg_nil ?_
        refine ek_rr ?_
        refine rr_hard1 (i := 5) (f := 1) Kx rfl rfl ?_
        refine rg_yieldP hR hCz (by simp) (by simp; omega) (by simp only [List.length_append, List.length_map]; omega) hOP (((((((((((List.Perm.refl _).cons _).trans (List.perm_middle (l₁ := uD)).symm).cons _).trans (List.perm_middle (l₁ := uD)).symm).cons _).trans (List.perm_middle (l₁ := uD)).symm).append_left _).trans (List.perm_append_comm_assoc uN uD _)).trans ((List.Perm.refl _).append_left _)).append_left _) Rx rfl (by simp only [qm, qs, Act.eval, List.length_cons] <;> rfl) (fun uE hCE => ?_)
        simp only [qz]
        refine rg_nil ?_
        refine ek_rr ?_
        refine rr_hard1 (i := 6) (f := 0) Kx rfl rfl ?_
        refine rf_not rfl rfl rfl ?_
        simp only [qz]
        refine rg_nil ?_
        refine ek_rr ?_
        refine rr_nil Kx ?_
        refine ek_next (wk_cond_f rfl (wk_skip (ek_block ?_)))
        refine ek_sub (List.Sublist.append_left ((sc _ (sc _ (sc _ (List.Sublist.refl _)))).trans (List.sublist_append_right _ _)) _) ?_
        refine ek_perm ((((List.Perm.refl _).append_left _).trans (List.perm_middle (l₁ := uE))).trans (((((List.Perm.refl _).append_left _).trans (List.perm_middle (l₁ := uE))).trans (((((List.Perm.refl _).append_left _).trans (List.perm_middle (l₁ := uE))).trans ((List.Perm.refl _).cons _)).cons _)).cons _)) ?_
        refine ek_roundEnd (Rep.here _) (fun w hw => ⟨_, rfl, ⟨uE, rfl, ?_⟩, hw⟩)
        have h := hCE
        rw [show (p : Int) - ((t : Nat) : Int) = ((p - t : Nat) : Int) by omega] at h
        simpa [List.append_assoc] using h
      · refine rf_load rfl rfl rfl Try.underlying3 rfl (fun w hw => (Kn.hd0 (Kn.tl (Kn.tl (Kn.tlU hw)))).at rfl) ?_
        simp only [qz]
        refine rg_nil ?_
        refine ek_rr ?_
        refine rr_hard2 (i := 0) (j := 2) (f := 0) (g := 1) Kx rfl rfl rfl rfl ?_ ?_
        · refine rf_load rfl rfl rfl Try.underlying57 rfl (fun w hw => (Kn.hd0 (Kn.tl (Kn.tlU hw))).at rfl) ?_
          simp only [qz]
          refine rg_nil ?_
          refine ek_rr ?_
          refine rr_hard1 (i := 2) (f := 1) Kx rfl rfl ?_
          refine rg_newS (cs := ?_) (ty := ?_) (n := 1) (c := 1) Rx (fun w => ?_) Nz (fun g12 => ?_); rotate_left 2
          focus (go_simp; rfl)
          simp only [qz]
          refine rg_nil ?_
          refine ek_rr ?_
          refine rr_hard1 (i := 4) (f := 1) Kx rfl rfl ?_
          refine rg_consZ (x := (p : Int) - ((t : Nat) : Int)) Rx rfl rfl (fun w hw => hAd hw (List.Sublist.cons _ (List.sublist_append_left _ _))) Ox hl0 (List.Perm.refl _) Nz (fun uP aP cP hOP => ?_)
          simp only [qz]
          refine rg_nil ?_
          refine ek_rr ?_
          refine rr_hard1 (i := 5) (f := 1) Kx rfl rfl ?_
          refine rg_yieldP hR hCz (by simp) (by simp; omega) (by simp only [List.length_append, List.length_map]; omega) hOP (((((((((((List.Perm.refl _).cons _).trans (List.perm_middle (l₁ := uD)).symm).cons _).trans (List.perm_middle (l₁ := uD)).symm).cons _).trans (List.perm_middle (l₁ := uD)).symm).append_left _).trans (List.perm_append_comm_assoc uN uD _)).trans ((List.Perm.refl _).append_left _)).append_left _) Rx rfl (by simp only [qm, qs, Act.eval, List.length_cons] <;> rfl) (fun uE hCE => ?_)
          simp only [qz]
          refine rg_nil ?_
          refine ek_rr ?_
          refine rr_hard1 (i := 6) (f := 0) Kx rfl rfl ?_
          refine rf_not rfl rfl rfl ?_
          simp only [qz]
          refine rg_nil ?_
          refine ek_rr ?_
          refine rr_nil Kx ?_
          refine ek_next (wk_cond_f rfl (wk_skip (ek_block ?_)))
          refine ek_sub (List.Sublist.append_left ((sc _ (sc _ (sc _ (List.Sublist.refl _)))).trans (List.sublist_append_right _ _)) _) ?_
          refine ek_perm ((((List.Perm.refl _).append_left _).trans (List.perm_middle (l₁ := uE))).trans (((((List.Perm.refl _).append_left _).trans (List.perm_middle (l₁ := uE))).trans (((((List.Perm.refl _).append_left _).trans (List.perm_middle (l₁ := uE))).trans ((List.Perm.refl _).cons _)).cons _)).cons _)) ?_
          refine ek_roundEnd (Rep.here _) (fun w hw => ⟨_, rfl, ⟨uE, rfl, ?_⟩, hw⟩)
          have h := hCE
          rw [show (p : Int) - ((t : Nat) : Int) = ((p - t : Nat) : Int) by omega] at h
          simpa [List.append_assoc] using h
        · refine rg_newS (cs := ?_) (ty := ?_) (n := 1) (c := 1) Rx (fun w => ?_) Nz (fun g13 => ?_); rotate_left 2
          focus (go_simp; rfl)
          simp only [qz]
          refine rg_nil ?_
          refine ek_rr ?_
          refine rr_hard2 (i := 0) (j := 4) (f := 0) (g := 1) Kx rfl rfl rfl rfl ?_ ?_
          · refine rf_load rfl rfl rfl Try.underlying57 rfl (fun w hw => (Kn.hd0 (Kn.tl (Kn.tlU (Kn.tl hw)))).at rfl) ?_
            simp only [qz]
            refine rg_nil ?_
            refine ek_rr ?_
            refine rr_hard1 (i := 4) (f := 1) Kx rfl rfl ?_
            refine rg_consZ (x := (p : Int) - ((t : Nat) : Int)) Rx rfl rfl (fun w hw => hAd hw (List.Sublist.cons _ (List.sublist_append_left _ _))) Ox hl0 (List.Perm.refl _) Nz (fun uP aP cP hOP => ?_)
            simp only [qz]
            refine rg_nil ?_
            refine ek_rr ?_
            refine rr_hard1 (i := 5) (f := 1) Kx rfl rfl ?_
            refine rg_yieldP hR hCz (by simp) (by simp; omega) (by simp only [List.length_append, List.length_map]; omega) hOP (((((((((((List.Perm.refl _).cons _).trans (List.perm_middle (l₁ := uD)).symm).cons _).trans (List.perm_middle (l₁ := uD)).symm).cons _).trans (List.perm_middle (l₁ := uD)).symm).append_left _).trans (List.perm_append_comm_assoc uN uD _)).trans ((List.Perm.refl _).append_left _)).append_left _) Rx rfl (by simp only [qm, qs, Act.eval, List.length_cons] <;> rfl) (fun uE hCE => ?_)
            simp only [qz]
            refine rg_nil ?_
            refine ek_rr ?_
            refine rr_hard1 (i := 6) (f := 0) Kx rfl rfl ?_
            refine rf_not rfl rfl rfl ?_
            simp only [qz]
            refine rg_nil ?_
            refine ek_rr ?_
            refine rr_nil Kx ?_
            refine ek_next (wk_cond_f rfl (wk_skip (ek_block ?_)))
            refine ek_sub (List.Sublist.append_left ((sc _ (sc _ (sc _ (List.Sublist.refl _)))).trans (List.sublist_append_right _ _)) _) ?_
            refine ek_perm ((((List.Perm.refl _).append_left _).trans (List.perm_middle (l₁ := uE))).trans (((((List.Perm.refl _).append_left _).trans (List.perm_middle (l₁ := uE))).trans (((((List.Perm.refl _).append_left _).trans (List.perm_middle (l₁ := uE))).trans ((List.Perm.refl _).cons _)).cons _)).cons _)) ?_
            refine ek_roundEnd (Rep.here _) (fun w hw => ⟨_, rfl, ⟨uE, rfl, ?_⟩, hw⟩)
            have h := hCE
            rw [show (p : Int) - ((t : Nat) : Int) = ((p - t : Nat) : Int) by omega] at h
            simpa [List.append_assoc] using h
          · refine rg_consZ (x := (p : Int) - ((t : Nat) : Int)) Rx rfl rfl (fun w hw => hAd hw (List.Sublist.cons _ (List.sublist_append_left _ _))) Ox hl0 (List.Perm.refl _) Nz (fun uP aP cP hOP => ?_)
            simp only [qz]
            refine rg_nil ?_
            refine ek_rr ?_
            refine rr_hard1 (i := 0) (f := 0) Kx rfl rfl ?_
            refine rf_load rfl rfl rfl Try.underlying57 rfl (fun w hw => (Kn.hd0 (Kn.tl (Kn.tlU (Kn.tlU hw)))).at rfl) ?_
            simp only [qz]
            refine rg_nil ?_
            refine ek_rr ?_
            refine rr_hard1 (i := 5) (f := 1) Kx rfl rfl ?_
            refine rg_yieldP hR hCz (by simp) (by simp; omega) (by simp only [List.length_append, List.length_map]; omega) hOP (((((((((((List.Perm.refl _).cons _).trans (List.perm_middle (l₁ := uD)).symm).cons _).trans (List.perm_middle (l₁ := uD)).symm).cons _).trans (List.perm_middle (l₁ := uD)).symm).append_left _).trans (List.perm_append_comm_assoc uN uD _)).trans ((List.Perm.refl _).append_left _)).append_left _) Rx rfl (by simp only [qm, qs, Act.eval, List.length_cons] <;> rfl) (fun uE hCE => ?_)
            simp only [qz]
            refine rg_nil ?_
            refine ek_rr ?_
            refine rr_hard1 (i := 6) (f := 0) Kx rfl rfl ?_
            refine rf_not rfl rfl rfl ?_
            simp only [qz]
            refine rg_nil ?_
            refine ek_rr ?_
            refine rr_nil Kx ?_
            refine ek_next (wk_cond_f rfl (wk_skip (ek_block ?_)))
            refine ek_sub (List.Sublist.append_left ((sc _ (sc _ (sc _ (List.Sublist.refl _)))).trans (List.sublist_append_right _ _)) _) ?_
            refine ek_perm ((((List.Perm.refl _).append_left _).trans (List.perm_middle (l₁ := uE))).trans (((((List.Perm.refl _).append_left _).trans (List.perm_middle (l₁ := uE))).trans (((((List.Perm.refl _).append_left _).trans (List.perm_middle (l₁ := uE))).trans ((List.Perm.refl _).cons _)).cons _)).cons _)) ?_
            refine ek_roundEnd (Rep.here _) (fun w hw => ⟨_, rfl, ⟨uE, rfl, ?_⟩, hw⟩)
            have h := hCE
            rw [show (p : Int) - ((t : Nat) : Int) = ((p - t : Nat) : Int) by omega] at h
            simpa [List.append_assoc] using h
  have hpend : r2.pending = none := by subst hr2; rfl
  have hst : r2.state ≠ .busy := by (subst hr2; simp)
  clear hr2
  refine (IH t lq gm2 gp2 _ r2 _ [] _ w1 _ Ox (by simp) hR2 ⟨uC, rfl, by simpa using hC⟩ K3).mono ?_
  rintro e w2 ⟨rfl, sS, u2, ⟨uD, rfl, hCD⟩, hK⟩
  have K4 := Kn.effApp (v := (_ :: _ :: _ :: uC) ++ [_, _]) (rest := _) K2 hK
  simp only [List.cons_append, List.append_assoc, List.nil_append] at K4
  refine ⟨_, _, r2, _, rfl, K4, Rep.here _, hst, ?_⟩
  rw [hpend]
  simp only [List.nil_append] at hCD
  refine ek_block (ek_block (ek_next (wk_seq (wk_seq ?_))))
  refine wk_region [0] rfl Kx ?_
  simp only [qy]
  refine rf_load rfl rfl rfl Try.underlying3 rfl (fun w hw => (Kn.hd0 (Kn.tl (Kn.tl hw))).at rfl) ?_
  simp only [qz]
  refine rg_nil (ek_next ?_)
  refine wk_region [1, 1] rfl Kx ?_
  simp only [qy]
  refine Rgn fun g3 => ?_
  simp only [qz]
  refine rf_store rfl rfl Kx rfl rfl (UpdR.here _ _ _ Nl) Nz ?_
  simp only [qz]
  refine rg_nil (ek_next ?_)
  refine wk_region [0, 0, 1] rfl Kx ?_
  simp only [qy]
  refine rf_load rfl rfl rfl Try.underlying3 rfl (fun w hw => (Kn.hd0 hw).at rfl) ?_
  simp only [qz]
  refine rf_sub (r := (p : Int) - ((t + 1 : Nat) : Int)) rfl rfl rfl rfl (wrap_eq' Ox Ox Ox) ?_
  simp only [qz]
  refine rf_store rfl rfl Kx rfl rfl (UpdR.here _ _ _ Nl) Nz ?_
  simp only [qz]
  refine rg_nil ?_
  refine ek_sub (sc _ (sk _ (sc _ (sk _ (List.Sublist.append_left ((sc _ (sc _ (sc _ (List.Sublist.append_left sn _)))).trans (List.sublist_append_right _ _)) _))))) ?_
  refine ek_perm ((((perm_at (l := [_]) (perm_at (l := [_]) (List.Perm.refl _))).append_left _).cons _).cons _) ?_
  refine ek_roundD (p + 1 - (t + 1)) Ox Kx ?_
  exact ⟨t + 1, dd :: dl, uD, g3, rfl, rfl, rfl, rfl, by omega, (by have h := hCD; simpa [patsT, List.append_assoc] using h)⟩
theorem pat_all : ∀ m, m + 1 ≤ 6 → PatC (m + 1)
  | 0, _ => pat_one
  | m + 1, h => pat_step Ox (pat_all m Ox)
end Go.Proofs.Ytjeijnjaleldkaa
namespace Go.Proofs.Ytjeijnjaleldkaa
set_option linter.all false
open Go.RowKit

theorem pats_tab : ((List.range 7).all fun m => (List.range 6).all fun p => decide ((pats m p).length ≤ 1000)) = true := by kernel_rfl
theorem pats_small {m p : Nat} (hm : m ≤ 6) (hp : p ≤ 5) : (pats m p).length ≤ 1000 :=
  of_decide_eq_true (List.all_eq_true.1 (List.all_eq_true.1 pats_tab m (List.mem_range.2 Ox)) p (List.mem_range.2 Ox))
theorem as2 {α : Type} {x y a b : α} {u r : List α} : x :: y :: (u ++ (a :: b :: r)) = ((x :: y :: u) ++ [a, b]) ++ r := by simp
set_option maxRecDepth 100000 in
set_option maxHeartbeats 1000000 in
theorem appendSeq_any (m p : Nat) (hm : m + 1 ≤ 6) (hp : p ≤ 5) (gm gp : Nat) (w : World) (F : List Nat) (K : Kn w F [(gm, .cells #[.int .i64 ((m + 1 : Nat) : Int)] 3), (gp, .cells #[.int .i64 p] 3)] w) : Calls Try.prog 117 #[.slice none 0 0, .func (.func 118) #[] #[.pointer (some ⟨gm, 0, none⟩), .pointer (some ⟨gp, 0, none⟩)]] w fun e w' => ∃ v U, e = .returned v ∧ OwnL U v (pats (m + 1) p) ∧ Kn w F U w' := by
  have hsm := pats_small (m := m + 1) (p := p) Ox hp
  refine calls_marksF K Try.func117 rfl ?_
  simp only [Try.ntmps117, List.size_toArray, List.length_cons, List.length_nil, Nat.reduceAdd, Nat.reduceSub, Array.replicate_succ, Array.replicate_zero, List.push_toArray, List.append_toArray, List.nil_append, List.cons_append]
  refine wk_seq ?_
  refine wk_region [1, 0] rfl Kx ?_
  simp only [qy]
  refine Rgn fun g1 => ?_
  simp only [qz]
  refine rg_assign ?_
  simp only [qz]
  refine rg_nil (ek_next (wk_seq (wk_seq ?_)))
  refine wk_region [0] rfl Kx ?_
  simp only [qy]
  refine rg_move ?_
  simp only [qz]
  refine rg_nil (ek_next (wk_block ?_))
  refine wk_rangeFunc (f := 118) (caps := #[.pointer (some ⟨gm, 0, none⟩), .pointer (some ⟨gp, 0, none⟩)]) rfl Kx ?_
  intro fn dd lq w1 K1
  obtain ⟨r2, hr2⟩ := ex_loop K1
  rw [← hr2] at K1
  have K2 := K1.perm ((perm_at (l := [_]) (perm_at (l := [_]) (perm_at (l := [_]) (List.Perm.refl _)))).cons _)
  have K3 := Kn.self (v := (_ :: _ :: ([] : List Blk)) ++ [_, _]) (rest := [_]) K2
  have hR2 : RoundsP (pats (m + 1) p).length (m + 1) lq r2 (fun ys S => ∃ uT uS hs v, S = (lq, .loop r2) :: (g1, .cells #[v] 33) :: (uT ++ uS) ∧ Own 37 1 uT v ys.length hs ∧ RowsZ uS hs ys) := by
    subst hr2
    refine ⟨rfl, fun ys S ⟨_, _, _, _, e, _⟩ => by subst e; simp, ?_⟩
    intro R B F ys row uN v S uR w hl0 hl1 hyl ⟨uT, uS, hs, vT, hS, hOT, hRS⟩ hO K
    clear hl1
    subst hS
    simp only [List.cons_append, List.append_assoc] at K
    obtain ⟨av, cv, rfl, hcv⟩ := Own.val hO
    obtain ⟨aT, cT, rfl, hcT⟩ := Own.val hOT
    refine roundIn_kn (Rep.app _ (Rep.here _)) rfl ?_ K
    simp only [fold_zip1]
    simp only [qz]
    refine wk_region [0] rfl Kx ?_
    simp only [qy]
    refine rg_assign ?_
    simp only [qz]
    refine rg_nil ?_
    refine ek_asg ?_
    refine wk_block ?_
    refine wk_region [0, 0, 1, 1, 1] rfl Kx ?_
    simp only [qy]
    refine rf_load rfl rfl rfl Try.underlying33 rfl (fun w hw => (Kn.hd0 (Kn.tl (Kn.tlU hw))).at rfl) ?_
    simp only [qz]
    refine rg_move ?_
    simp only [qz]
    refine rg_newS (cs := ?_) (ty := ?_) (n := 1) (c := 1) Rx (fun w => ?_) Nz (fun g2 => ?_); rotate_left 2
    focus (go_simp; rfl)
    simp only [qz]
    refine rg_appL (h := .slice av row.length cv) Rx rfl hOT rfl Ox rfl ((((((((((List.Perm.refl _).cons _).trans (List.perm_middle (l₁ := uT)).symm).cons _).trans (List.perm_middle (l₁ := uT)).symm).append_left _).trans (List.perm_append_comm_assoc uN uT _)).cons _).trans (List.perm_middle (l₁ := uT)).symm).trans ((List.Perm.refl _).append_left _)) (fun w hw => Kn.hd0 hw) Nz (fun uP aP cP hOP => ?_)
    simp only [qz]
    refine rf_store rfl rfl Kx rfl rfl (UpdR.app _ (UpdR.there _ (UpdR.app _ (UpdR.there _ (UpdR.here _ _ _ Nl))))) Nz ?_
    simp only [qz]
    refine rg_nil (ek_block ?_)
    refine ek_sub (List.Sublist.append_left (sk _ (List.Sublist.append_left (sc _ (sc _ (List.Sublist.append_left (List.Sublist.refl _) _))) _)) _) ?_
    refine ek_perm ((((((List.Perm.refl _).append_left _).trans (List.perm_middle (l₁ := uN))).append_left _).trans (List.perm_middle (l₁ := uP))).trans (((((((List.Perm.refl _).append_left _).trans (List.perm_middle (l₁ := uN))).append_left _).trans (List.perm_middle (l₁ := uP))).trans ((List.Perm.refl _).cons _)).cons _)) ?_
    refine ek_roundEnd (Rep.here _) (fun w hw => ⟨_, rfl, ⟨uP, uN ++ uS, _, _, rfl, (by rw [List.length_append]; exact hOP), hRS.snoc hO⟩, ?_⟩)
    simpa [List.append_assoc] using hw
  have hpend : r2.pending = none := by subst hr2; rfl
  have hst : r2.state ≠ .busy := by (subst hr2; simp)
  clear hr2
  refine (pat_all m Ox p lq gm gp _ r2 _ [] _ w1 _ hp (by simp) hR2 ⟨[], [], [], _, rfl, Own.nil _ _, .nil⟩ K3).mono ?_
  rintro e w2 ⟨rfl, sS, u2, ⟨uT, uS, hs, vT, rfl, hOT, hRS⟩, hK⟩
  have K4 := Kn.effApp (v := (_ :: _ :: ([] : List Blk)) ++ [_, _]) (rest := [_]) K2 hK
  simp only [List.cons_append, List.append_assoc, List.nil_append] at K4
  refine ⟨_, _, r2, _, rfl, K4, Rep.here _, hst, ?_⟩
  rw [hpend]
  simp only [List.nil_append] at hOT hRS
  refine ek_block (ek_next (wk_seq ?_))
  refine wk_region [0, 0] rfl Kx ?_
  simp only [qy]
  refine rf_load rfl rfl rfl Try.underlying33 rfl (fun w hw => (Kn.hd0 (Kn.tl hw)).at rfl) ?_
  simp only [qz]
  refine rg_assign ?_
  simp only [qz]
  refine rg_nil (ek_next (wk_ret ?_))
  refine ek_sub (sk _ (sk _ (List.Sublist.append_left (List.Sublist.append_left ((sc _ sn).trans (List.sublist_append_right _ _)) _) _))) ?_
  refine ek_perm ((((((List.Perm.refl _).append_left _).trans (List.perm_middle (l₁ := uS))).append_left _).trans (List.perm_middle (l₁ := uT))).trans ((List.Perm.refl _).cons _)) ?_
  refine ek_retMn [dd] (fun w hw => ⟨_, res_t 4 rfl, ?_⟩)
  (try simp only [qz])
  exact ⟨vT, uT ++ uS, rfl, ⟨uT, uS, hs, rfl, hOT, hRS⟩, by simpa using hw⟩

set_option maxRecDepth 100000 in
set_option maxHeartbeats 1000000 in
theorem collect_any (m p : Nat) (hm : m + 1 ≤ 6) (hp : p ≤ 5) (gm gp : Nat) (w : World) (F : List Nat) (K : Kn w F [(gm, .cells #[.int .i64 ((m + 1 : Nat) : Int)] 3), (gp, .cells #[.int .i64 p] 3)] w) : Calls Try.prog 68 #[.func (.func 118) #[] #[.pointer (some ⟨gm, 0, none⟩), .pointer (some ⟨gp, 0, none⟩)]] w fun e w' => ∃ v U, e = .returned v ∧ OwnL U v (pats (m + 1) p) ∧ Kn w F U w' := by
  go_enter Try.func68, Try.ntmps68
  refine wk_startF K ?_
  refine wk_seq ?_
  refine wk_region [0] rfl Kx ?_
  simp only [qy]
  refine rg_assign ?_
  simp only [qz]
  refine rg_nil (ek_next (wk_seq ?_))
  refine wk_region [0, 1, 0] rfl Kx ?_
  simp only [qy]
  refine rg_move ?_
  simp only [qz]
  apply rg_call Rx Kx
  case hargs => exact Ax
  refine fun w2 hw => (appendSeq_any m p hm hp gm gp w2 [gm, gp] (Kn.self (v := [_, _]) (rest := []) (by simpa using hw))).mono ?_
  rintro e w3 ⟨v, U, rfl, hO, hK⟩
  have K2 := Kn.effApp (v := [_, _]) (rest := []) (by simpa using hw) hK
  refine ⟨v, U, rfl, by simpa using K2, Nz, ?_⟩
  simp only [qz]
  refine rg_assign ?_
  simp only [qz]
  refine rg_nil (ek_next (wk_ret ?_))
  refine ek_ret (fun w hw => ⟨rfl, _, res_t _ rfl, ?_⟩)
  (try simp only [qz])
  exact ⟨v, U, rfl, hO, hw⟩

def patR (m p : Int) : List (List Int) := if 1 ≤ m ∧ m ≤ 6 ∧ 0 ≤ p ∧ p ≤ 5 then pats m.toNat p.toNat else []
def patE (m p : Int) : Int := if 1 ≤ m ∧ m ≤ 6 ∧ 0 ≤ p ∧ p ≤ 5 then 0 else 2
set_option maxRecDepth 100000 in
set_option maxHeartbeats 1000000 in
theorem mpatterns_any (mi pi : Int) (w : World) : Calls Try.prog 19 #[.int .i64 mi, .int .i64 pi] w fun e w' => RetL w (patR mi pi) (patE mi pi) e w' := by
  go_enter Try.func19, Try.ntmps19
  refine wk_start ?_
  refine wk_seq ?_
  refine wk_region [0, 0] rfl Kx ?_
  simp only [qy]
  refine rg_assign ?_
  simp only [qz]
  refine rg_assign ?_
  simp only [qz]
  refine rg_nil (ek_next (wk_seq (wk_seq ?_)))
  refine wk_region [0, 0, 0, 0, 0, 0, 0, 0, 0, 0, 0, 0, 0, 0] rfl Kx ?_
  simp only [qy]
  refine rg_move ?_
  simp only [qz]
  refine rfb_lss rfl rfl rfl rfl ?_
  intro x h1
  cases x
  · (try simp only [qd, ne_eq] at h1)
    simp only [qz]
    refine rg_move ?_
    simp only [qz]
    apply rg_soft_g
    case hg => rfl
    case hy => (intro w hw; go_simp; (try go_bits); exact Yld.mk _ _)
    simp only [qz]
    refine rfb_gtr rfl rfl rfl rfl ?_
    intro x h2
    cases x
    · (try simp only [qd, ne_eq] at h2)
      simp only [qz]
      refine rf_pick rfl rfl rfl ?_
      simp only [qz]
      refine rg_move ?_
      simp only [qz]
      apply rg_soft_g
      case hg => rfl
      case hy => (intro w hw; go_simp; (try go_bits); exact Yld.mk _ _)
      simp only [qz]
      refine rfb_lss rfl rfl rfl rfl ?_
      intro x h3
      cases x
      · (try simp only [qd, ne_eq] at h3)
        simp only [qz]
        refine rf_pick rfl rfl rfl ?_
        simp only [qz]
        refine rg_move ?_
        simp only [qz]
        apply rg_soft_g
        case hg => rfl
        case hy => (intro w hw; go_simp; (try go_bits); exact Yld.mk _ _)
        simp only [qz]
        refine rfb_gtr rfl rfl rfl rfl ?_
        intro x h4
        cases x
        · (try simp only [qd, ne_eq] at h4)
          simp only [qz]
          refine rf_pick rfl rfl rfl ?_
          simp only [qz]
          refine rg_nil (ek_next (wk_cond_f rfl (wk_skip (ek_next (wk_seq ?_)))))
          refine wk_region [0, 0, 1, 1, 0, 0] rfl Kx ?_
          simp only [qy]
          refine rg_move ?_
          simp only [qz]
          refine rg_move ?_
          simp only [qz]
          obtain ⟨m, rfl⟩ : ∃ m : Nat, mi = ((m + 1 : Nat) : Int) := ⟨(mi - 1).toNat, by omega⟩
          obtain ⟨p, rfl⟩ : ∃ p : Nat, pi = p := ⟨pi.toNat, by omega⟩
          apply rg_made (T := fun v u => ∃ gm gp, v = .func (.func 118) #[] #[.pointer (some ⟨gm, 0, none⟩), .pointer (some ⟨gp, 0, none⟩)] ∧ u = [(gm, .cells #[.int .i64 ((m + 1 : Nat) : Int)] 3), (gp, .cells #[.int .i64 p] 3)]) Rx Kx
          case hargs => exact Ax
          case h => exact fun w hw => (patterns_any ((m + 1 : Nat) : Int) p w).mono (fun e w' ⟨gm, gp, he, hm⟩ => ⟨_, _, he, ⟨gm, gp, rfl, rfl⟩, hm⟩)
          case hz => exact Nz
          rintro _ _ ⟨gm, gp, rfl, rfl⟩
          simp only [List.cons_append, List.nil_append]
          simp only [qz]
          apply rg_call Rx Kx
          case hargs => exact Ax
          refine fun w2 hw => (collect_any m p Ox Ox gm gp w2 [gm, gp] (Kn.self (v := [_, _]) (rest := []) (by simpa using hw))).mono ?_
          rintro e w3 ⟨v, U, rfl, hO, hK⟩
          have K2 := Kn.effApp (v := [_, _]) (rest := []) (by simpa using hw) hK
          refine ⟨v, U, rfl, by simpa using K2, Nz, ?_⟩
          simp only [qz]
          refine rg_assign ?_
          simp only [qz]
          refine rg_assign ?_
          simp only [qz]
          refine rg_nil (ek_next (wk_ret ?_))
          refine ek_ret (fun w hw => ⟨rfl, _, res_tt _ _ rfl, ?_⟩)
          (try simp only [qz])
          exact ⟨v, U, by unfold patE; rw [if_pos Ox], (by unfold patR; rw [if_pos Ox]; exact hO), hw.made (List.Sublist.refl _)⟩
        (try simp only [qd, ne_eq] at h4)
        simp only [qz]
        refine rf_pick rfl rfl rfl ?_
        simp only [qz]
        refine rg_nil (ek_next (wk_cond_t rfl (wk_seq ?_)))
        refine wk_region [0, 0] rfl Kx ?_
        simp only [qy]
        refine rg_assign ?_
        simp only [qz]
        refine rg_assign ?_
        simp only [qz]
        refine rg_nil (ek_next (wk_ret (ek_then_ret ?_)))
        refine ek_ret (fun w hw => ⟨rfl, _, res_tt _ _ rfl, ?_⟩)
        (try simp only [qz])
        exact ⟨_, [], by unfold patE; rw [if_neg Ox], (by unfold patR; rw [if_neg Ox]; exact OwnL.nil), .nil hw.below⟩
      (try simp only [qd, ne_eq] at h3)
      simp only [qz]
      refine rf_pick rfl rfl rfl ?_
      simp only [qz]
      refine rg_move ?_
      simp only [qz]
      refine rg_skip Rx ?_
      simp only [qz]
      refine rg_skip Rx ?_
      simp only [qz]
      refine rf_pick rfl rfl rfl ?_
      simp only [qz]
      refine rg_nil (ek_next (wk_cond_t rfl (wk_seq ?_)))
      refine wk_region [0, 0] rfl Kx ?_
      simp only [qy]
      refine rg_assign ?_
      simp only [qz]
      refine rg_assign ?_
      simp only [qz]
      refine rg_nil (ek_next (wk_ret (ek_then_ret ?_)))
      refine ek_ret (fun w hw => ⟨rfl, _, res_tt _ _ rfl, ?_⟩)
      (try simp only [qz])
      exact ⟨_, [], by unfold patE; rw [if_neg Ox], (by unfold patR; rw [if_neg Ox]; exact OwnL.nil), .nil hw.below⟩
    (try simp only [qd, ne_eq] at h2)
    simp only [qz]
    refine rf_pick rfl rfl rfl ?_
    simp only [qz]
    refine rg_move ?_
    simp only [qz]
    refine rg_skip Rx ?_
    simp only [qz]
    refine rg_skip Rx ?_
    simp only [qz]
    refine rf_pick rfl rfl rfl ?_
    simp only [qz]
    refine rg_move ?_
    simp only [qz]
    refine rg_skip Rx ?_
    simp only [qz]
    refine rg_skip Rx ?_
    simp only [qz]
    refine rf_pick rfl rfl rfl ?_
    simp only [qz]
    refine rg_nil (ek_next (wk_cond_t rfl (wk_seq ?_)))
    refine wk_region [0, 0] rfl Kx ?_
    simp only [qy]
    refine rg_assign ?_
    simp only [qz]
    refine rg_assign ?_
    simp only [qz]
    refine rg_nil (ek_next (wk_ret (ek_then_ret ?_)))
    refine ek_ret (fun w hw => ⟨rfl, _, res_tt _ _ rfl, ?_⟩)
    (try simp only [qz])
    exact ⟨_, [], by unfold patE; rw [if_neg Ox], (by unfold patR; rw [if_neg Ox]; exact OwnL.nil), .nil hw.below⟩
  (try simp only [qd, ne_eq] at h1)
  simp only [qz]
  refine rg_move ?_
  simp only [qz]
  refine rg_skip Rx ?_
  simp only [qz]
  refine rg_skip Rx ?_
  simp only [qz]
  refine rf_pick rfl rfl rfl ?_
  simp only [qz]
  refine rg_move ?_
  simp only [qz]
  refine rg_skip Rx ?_
  simp only [qz]
  refine rg_skip Rx ?_
  simp only [qz]
  refine rf_pick rfl rfl rfl ?_
  simp only [qz]
  refine rg_move ?_
  simp only [qz]
  refine rg_skip Rx ?_
  simp only [qz]
  refine rg_skip Rx ?_
  simp only [qz]
  refine rf_pick rfl rfl rfl ?_
  simp only [qz]
  refine rg_nil (ek_next (wk_cond_t rfl (wk_seq ?_)))
  refine wk_region [0, 0] rfl Kx ?_
  simp only [qy]
  refine rg_assign ?_
  simp only [qz]
  refine rg_assign ?_
  simp only [qz]
  refine rg_nil (ek_next (wk_ret (ek_then_ret ?_)))
  refine ek_ret (fun w hw => ⟨rfl, _, res_tt _ _ rfl, ?_⟩)
  (try simp only [qz])
  exact ⟨_, [], by unfold patE; rw [if_neg Ox], (by unfold patR; rw [if_neg Ox]; exact OwnL.nil), .nil hw.below⟩

end Go.Proofs.Ytjeijnjaleldkaa
namespace Go.Proofs.Ytjeijnjaleldkaa
set_option linter.all false
open Go.RowKit

theorem ident2_any (w : World) : Calls Try.prog 22 #[.int .i64 2] w (RetM w 2 [Nm.one, Nm.zero, Nm.zero, Nm.one] 0) := by
  have h := identity_any 2 w
  rw [show identR 2 = .ok [Nm.one, Nm.zero, Nm.zero, Nm.one] from rfl] at h
  exact h
theorem per2 : perR 2 [Nm.one, Nm.zero, Nm.zero, Nm.one] = .ok Nm.one := by kernel_rfl
theorem per2_any (a : Option Addr) (c : Nat) (w : World) (hA : AS w a (nms [Nm.one, Nm.zero, Nm.zero, Nm.one])) : Calls Try.prog 17 #[.agg #[.int .i64 2, .slice a 4 c]] w fun e w' => e = .returned (.tuple #[nmV Nm.one, .int .i64 0]) ∧ Below w.heap.size w w' := by
  have h := mpermanent_any 2 [Nm.one, Nm.zero, Nm.zero, Nm.one] a c (by decide) w hA
  rw [per2] at h
  exact h
theorem pat2_any (w : World) : Calls Try.prog 19 #[.int .i64 2, .int .i64 2] w (RetL w [[2, 0], [1, 1], [0, 2]] 0) := by
  have h := mpatterns_any 2 2 w
  rw [show patR 2 2 = [[2, 0], [1, 1], [0, 2]] from rfl, show patE 2 2 = 0 from rfl] at h
  exact h
set_option maxRecDepth 100000 in
set_option maxHeartbeats 1000000 in
theorem sane2_any  (w : World) : Calls Try.prog 16 #[] w fun e w' => e = .returned (.bool true) ∧ Below w.heap.size w w' := by
  go_enter Try.func16, Try.ntmps16
  refine wk_start ?_
  refine wk_seq ?_
  refine wk_region [0] rfl Kx ?_
  simp only [qy]
  refine rg_assign ?_
  simp only [qz]
  refine rg_nil (ek_next (wk_seq ?_))
  refine wk_region [1, 0, 0, 0, 1, 1, 0] rfl Kx ?_
  simp only [qy]
  apply rg_retM Rx Kx
  case hargs => exact Ax
  case h => exact fun w hw => ident2_any w
  case hz => exact Nz
  intro va1 vc1 u1 hO1
  simp only [qz]
  refine rg_move ?_
  simp only [qz]
  refine rf_extract rfl rfl rfl rfl ?_
  simp only [qz]
  refine rf_extract rfl rfl rfl rfl ?_
  simp only [qz]
  refine Rgn fun g2 => ?_
  simp only [qz]
  refine rf_storeR (n := 2) rfl rfl Kx rfl rfl (UpdR.here _ _ _ Nl) Nz ?_
  simp only [qz, Nat.reduceAdd]
  refine rg_assign ?_
  simp only [qz]
  refine rg_nil (ek_next (wk_seq ?_))
  refine wk_region [0, 1, 0, 0, 0, 1, 1, 0] rfl Kx ?_
  simp only [qy]
  refine rf_loadR (n := 2) rfl rfl rfl Try.underlying24 rfl Kx (fun w hw => Kn.hd0 hw) rfl rfl ?_
  simp only [qz]
  apply rg_pure Rx Kx
  case hargs => exact Ax
  case h => exact fun w hw => per2_any va1 vc1 w (OwnN.asN hO1 (hw.perm (perm_atU (l := [_]) (u := u1) (List.Perm.refl _))))
  case hz => exact Nz
  simp only [qz]
  refine rg_move ?_
  simp only [qz]
  refine rf_extract rfl rfl rfl rfl ?_
  simp only [qz]
  refine rf_extract rfl rfl rfl rfl ?_
  simp only [qz]
  refine Rgn fun g3 => ?_
  simp only [qz]
  refine rf_storeR (n := 5) rfl rfl Kx rfl rfl (UpdR.here _ _ _ Nl) Nz ?_
  simp only [qz, Nat.reduceAdd]
  refine rg_assign ?_
  simp only [qz]
  refine rg_nil (ek_next (wk_seq ?_))
  refine wk_region [1, 0, 0, 0, 0, 0] rfl Kx ?_
  simp only [qy]
  apply rg_retL Rx Kx
  case hargs => exact Ax
  case h => exact fun w hw => pat2_any w
  case hz => exact Nz
  intro va4 vc4 u4 hO4
  simp only [qz]
  refine rg_move ?_
  simp only [qz]
  refine rf_extract rfl rfl rfl rfl ?_
  simp only [qz]
  refine rf_extract rfl rfl rfl rfl ?_
  simp only [qz]
  refine rg_assign ?_
  simp only [qz]
  refine rg_assign ?_
  simp only [qz]
  refine rg_nil (ek_next (wk_seq ?_))
  refine wk_draws _ _ [(0, 0), (1, 0), (2, 0), (3, 0), (4, 0), (5, 0), (6, 0), (7, 0), (8, 0), (9, 0), (10, 0), (11, 0), (12, 1), (13, 0), (14, 0), (15, 0), (16, 0), (17, 0), (18, 0), (19, 0), (20, 0)] [] Kx Kx (fun c d v a w h => by cases d <;> exact h) ((List.Sublist.append_left (sc _ (sc _ (List.Sublist.append_left sn _))) _)) (fun e => by first | exact absurd e (by decide) | rfl) ?_
  simp only [List.map_cons, List.map_nil, List.getD_cons_zero, List.getD_cons_succ]
  refine rg_move ?_
  simp only [qz]
  refine rfb_eql rfl rfl rfl rfl ?_
  intro x h1
  obtain rfl : x = true := by (refine h1.symm.trans ?_; exact decide_eq_true Ox)
  clear h1
  simp only [qz]
  refine rg_move ?_
  simp only [qz]
  apply rg_soft_g
  case hg => rfl
  case hy => (intro w hw; go_simp; (try go_bits); exact Yld.mk _ _)
  simp only [qz]
  refine rfb_eql rfl rfl rfl rfl ?_
  intro x h2
  obtain rfl : x = true := by (refine h2.symm.trans ?_; exact decide_eq_true Ox)
  clear h2
  simp only [qz]
  refine rf_pick rfl rfl rfl ?_
  simp only [qz]
  refine rg_move ?_
  simp only [qz]
  apply rg_soft_g
  case hg => rfl
  case hy => (intro w hw; go_simp; (try go_bits); exact Yld.mk _ _)
  simp only [qz]
  refine rfb_eql rfl rfl rfl rfl ?_
  intro x h3
  obtain rfl : x = true := by (refine h3.symm.trans ?_; exact decide_eq_true Ox)
  clear h3
  simp only [qz]
  refine rf_pick rfl rfl rfl ?_
  simp only [qz]
  refine rg_move ?_
  simp only [qz]
  refine rf_loadR (n := 5) rfl rfl rfl Try.underlying29 rfl Kx (fun w hw => Kn.hd0 (Kn.tlU hw)) rfl rfl ?_
  simp only [qz]
  apply rg_pure Rx Kx
  case hargs => exact Ax
  case h => exact fun w hw => rOne_any w
  case hz => exact (fun _ h => by cases h; exact (List.Sublist.append_left (sc _ (sc _ (List.Sublist.append_left sn _))) _))
  simp only [qz]
  refine rfb_eqN _ _ rfl rfl rfl rfl ?_
  intro x h4
  cases x
  · (try simp only [qd, ne_eq] at h4)
    simp only [qz]
    exact absurd trivial h4
  (try simp only [qd, ne_eq] at h4)
  simp only [qz]
  refine rf_pick rfl rfl rfl ?_
  simp only [qz]
  refine rg_move ?_
  simp only [qz]
  apply rg_soft_g
  case hg => rfl
  case hy => (intro w hw; go_simp; (try go_bits); exact Yld.mk _ _)
  simp only [qz]
  refine rf_len rfl rfl rfl Try.underlying33 ?_
  simp only [qz]
  refine rfb_eql rfl rfl rfl rfl ?_
  intro x h5
  obtain rfl : x = true := by (refine h5.symm.trans ?_; exact decide_eq_true Ox)
  clear h5
  simp only [qz]
  refine rf_pick rfl rfl rfl ?_
  simp only [qz]
  refine rg_assign ?_
  simp only [qz]
  refine rg_nil (ek_next (wk_ret ?_))
  refine ek_ret (fun w hw => ⟨rfl, _, res_t _ rfl, ?_⟩)
  (try simp only [qz])
  first | exact ⟨rfl, hw.below⟩ | exact ⟨trivial, hw.below⟩ | exact hw.below

end Go.Proofs.Ytjeijnjaleldkaa
namespace Go.Proofs.Ytjeijnjaleldkaa
set_option linter.all false
open Go.RowKit

set_option maxRecDepth 100000 in
set_option maxHeartbeats 1000000 in
theorem rSame_eq (n : Int) (xs : List Nm) (a a' : Option Addr) (c c' : Nat) (hl : xs.length ≤ 1000000) (w : World) (hA : AS w a (nms xs)) (hB : AS w a' (nms xs)) : Calls Try.prog 26 #[.agg #[.int .i64 n, .slice a xs.length c], .agg #[.int .i64 n, .slice a' xs.length c']] w fun e w' => e = .returned (.bool true) ∧ Below w.heap.size w w' := by
  go_enter Try.func26, Try.ntmps26
  refine wk_start ?_
  refine wk_seq ?_
  refine wk_region [1, 1, 0] rfl Kx ?_
  simp only [qy]
  refine Rgn fun g1 => ?_
  simp only [qz]
  refine Rgn fun g2 => ?_
  simp only [qz]
  refine rg_assign ?_
  simp only [qz]
  refine rg_nil (ek_next (wk_seq (wk_seq ?_)))
  refine wk_region [0, 0, 0, 0, 0, 0, 0, 0, 0, 0, 0, 0, 0, 0] rfl Kx ?_
  simp only [qy]
  refine rf_field (n := 0) (j := 0) rfl rfl rfl Try.underlying24 rfl Kx rfl ?_
  simp only [qz]
  refine rf_load rfl rfl rfl Try.underlying3 rfl (fun w hw => (Kn.hd0 (Kn.tl hw)).at rfl) ?_
  simp only [qz]
  refine rf_field (n := 0) (j := 0) rfl rfl rfl Try.underlying24 rfl Kx rfl ?_
  simp only [qz]
  refine rf_load rfl rfl rfl Try.underlying3 rfl (fun w hw => (Kn.hd0 hw).at rfl) ?_
  simp only [qz]
  refine rfb_neq rfl rfl rfl rfl ?_
  intro x h1
  obtain rfl : x = false := by (refine h1.symm.trans ?_; exact decide_eq_false Ox)
  clear h1
  simp only [qz]
  refine rg_move ?_
  simp only [qz]
  refine rf_field (n := 0) (j := 1) rfl rfl rfl Try.underlying24 rfl Kx rfl ?_
  simp only [qz]
  refine rf_load rfl rfl rfl Try.underlying22 rfl (fun w hw => (Kn.hd0 (Kn.tl hw)).at rfl) ?_
  simp only [qz]
  refine rf_len rfl rfl rfl Try.underlying22 ?_
  simp only [qz]
  refine rf_field (n := 0) (j := 1) rfl rfl rfl Try.underlying24 rfl Kx rfl ?_
  simp only [qz]
  refine rf_load rfl rfl rfl Try.underlying22 rfl (fun w hw => (Kn.hd0 hw).at rfl) ?_
  simp only [qz]
  refine rf_len rfl rfl rfl Try.underlying22 ?_
  simp only [qz]
  refine rfb_neq rfl rfl rfl rfl ?_
  intro x h2
  obtain rfl : x = false := by (refine h2.symm.trans ?_; exact decide_eq_false Ox)
  clear h2
  simp only [qz]
  refine rf_pick rfl rfl rfl ?_
  simp only [qz]
  refine rg_nil (ek_next (wk_cond_f rfl (wk_skip (ek_next (wk_seq (wk_seq ?_))))))
  refine wk_region [0] rfl Kx ?_
  simp only [qy]
  refine rg_assign ?_
  simp only [qz]
  refine rg_nil (ek_next (wk_block ?_))
  refine wk_loopF [4, 5, 20, 21, 22, 23, 24, 25, 26, 27, 28, 29, 30, 31, 32, 33, 34, 35, 36, 37] (fun mz f s => ∃ (i : Nat), f 5 = .int .i64 i ∧ s = ((g2, .cells #[.int .i64 n, .slice a' xs.length c'] 24) :: ((g1, .cells #[.int .i64 n, .slice a xs.length c] 24) :: [])) ∧ mz = xs.length - i ∧ i ≤ xs.length) ((fun (i : Nat) => xs.length - i) (0)) ?_ Kx ?_
  · exact ⟨0, rfl, rfl, rfl, by omega⟩
  rintro mz f1 s ⟨i, hs1_5, rfl, hn, hd1⟩
  simp only [Act.putF, List.foldl_cons, List.foldl_nil, hs1_5, Act.put, Act.eval, q1, q2, q3, q4, q5, q6, q7, q8, q9, q10, q11, q12, q13, q14, q15, q16, q17, q18, Nat.reduceAdd, Bool.not_true, Bool.not_false]
  clear hs1_5
  refine wk_seq (wk_seq ?_)
  refine wk_region [0, 0, 0, 0, 0] rfl Kx ?_
  simp only [qy]
  refine rg_move ?_
  simp only [qz]
  refine rf_field (n := 0) (j := 1) rfl rfl rfl Try.underlying24 rfl Kx rfl ?_
  simp only [qz]
  refine rf_load rfl rfl rfl Try.underlying22 rfl (fun w hw => (Kn.hd0 (Kn.tl hw)).at rfl) ?_
  simp only [qz]
  refine rf_len rfl rfl rfl Try.underlying22 ?_
  simp only [qz]
  refine rfb_lss rfl rfl rfl rfl ?_
  intro x h3
  cases x
  · (try simp only [qd, ne_eq] at h3)
    simp only [qz]
    refine rg_nil (ek_next (wk_cond_f rfl (wk_exit (ek_then_exit (ek_then_exit (ek_block_exit (ek_next (wk_seq ?_))))))))
    refine wk_region [0] rfl Kx ?_
    simp only [qy]
    refine rg_assign ?_
    simp only [qz]
    refine rg_nil (ek_next (wk_ret ?_))
    refine ek_ret (fun w hw => ⟨rfl, _, res_t _ rfl, ?_⟩)
    (try simp only [qz])
    first | exact ⟨rfl, hw.below⟩ | exact ⟨trivial, hw.below⟩ | exact hw.below
  (try simp only [qd, ne_eq] at h3)
  simp only [qz]
  refine rg_nil (ek_next (wk_cond_t rfl (wk_skip (ek_next (wk_seq (wk_block (wk_seq ?_)))))))
  obtain ⟨b, off, ha, hlt, hcell⟩ := AS.openN hA Ox
  obtain ⟨b', off', ha', hlt', hcell'⟩ := AS.openN hB Ox
  subst ha ha'
  refine wk_draws _ _ [(0, 0), (1, 0), (2, 0), (3, 0), (4, 0), (5, 0), (6, 0), (7, 0), (8, 0), (9, 0), (10, 0)] [] Kx Kx (fun c d v a w h => by cases d <;> exact h) ((sc _ (sc _ sn))) (fun e => by first | exact absurd e (by decide) | rfl) ?_
  simp only [List.map_cons, List.map_nil, List.getD_cons_zero, List.getD_cons_succ]
  refine rf_field (n := 0) (j := 1) rfl rfl rfl Try.underlying24 rfl Kx rfl ?_
  simp only [qz]
  refine rf_load rfl rfl rfl Try.underlying22 rfl (fun w hw => (Kn.hd0 (Kn.tl hw)).at rfl) ?_
  simp only [qz]
  refine rg_move ?_
  simp only [qz]
  refine rf_indexS (n := i) (sz := 5) (j := off + i * 5) rfl rfl rfl rfl Try.underlying22 Kx Ox Ox rfl ?_
  simp only [qz]
  refine rf_loadC (n := 5) (vs := [.int .i64 (nm xs i).a, .int .i64 (nm xs i).b, .int .i64 (nm xs i).c, .int .i64 (nm xs i).d, .int .i64 (nm xs i).k]) rfl rfl rfl Try.underlying29 rfl Kx rfl (fun w hw => atN_range ((hcell i Ox).kn hw hlt (by simp))) ?_
  simp only [qz]
  refine rf_field (n := 0) (j := 1) rfl rfl rfl Try.underlying24 rfl Kx rfl ?_
  simp only [qz]
  refine rf_load rfl rfl rfl Try.underlying22 rfl (fun w hw => (Kn.hd0 hw).at rfl) ?_
  simp only [qz]
  refine rg_move ?_
  simp only [qz]
  refine rf_indexS (n := i) (sz := 5) (j := off' + i * 5) rfl rfl rfl rfl Try.underlying22 Kx Ox Ox rfl ?_
  simp only [qz]
  refine rf_loadC (n := 5) (vs := [.int .i64 (nm xs i).a, .int .i64 (nm xs i).b, .int .i64 (nm xs i).c, .int .i64 (nm xs i).d, .int .i64 (nm xs i).k]) rfl rfl rfl Try.underlying29 rfl Kx rfl (fun w hw => atN_range ((hcell' i Ox).kn hw hlt' (by simp))) ?_
  simp only [qz]
  refine rfb_neN (nm xs i) (nm xs i) rfl rfl rfl rfl ?_
  intro x h4
  cases x
  · (try simp only [qd, ne_eq] at h4)
    simp only [qz]
    refine rg_nil (ek_next (wk_cond_f rfl (wk_skip (ek_block (ek_next ?_)))))
    refine wk_region [0, 0, 0] rfl Kx ?_
    simp only [qy]
    refine rg_move ?_
    simp only [qz]
    refine rf_add rfl rfl rfl rfl (wrap_ok Ox Ox) ?_
    simp only [qz]
    refine rg_assign ?_
    simp only [qz]
    refine rg_nil ?_
    refine ek_roundF (xs.length - (i + 1)) Ox Kx ?_
    exact ⟨i + 1, rfl, by rfl, by rfl, Ox⟩
  (try simp only [qd, ne_eq] at h4)
  simp only [qz]
  simp at h4

set_option maxRecDepth 100000 in
set_option maxHeartbeats 1000000 in
theorem wide_any (n : Int) (xs : List Nm) (a : Option Addr) (c : Nat) (w : World) : Calls Try.prog 15 #[.agg #[.int .i64 n, .slice a xs.length c]] w fun e w' => e = .returned (.bool (decide ((50 : Int) < (xs.length : Int)))) ∧ Below w.heap.size w w' := by
  go_enter Try.func15, Try.ntmps15
  refine wk_start ?_
  refine wk_seq ?_
  refine wk_region [1, 0] rfl Kx ?_
  simp only [qy]
  refine Rgn fun g1 => ?_
  simp only [qz]
  refine rg_assign ?_
  simp only [qz]
  refine rg_nil (ek_next (wk_seq ?_))
  refine wk_region [0, 0, 0, 0, 0] rfl Kx ?_
  simp only [qy]
  refine rf_field (n := 0) (j := 1) rfl rfl rfl Try.underlying24 rfl Kx rfl ?_
  simp only [qz]
  refine rf_load rfl rfl rfl Try.underlying22 rfl (fun w hw => (Kn.hd0 hw).at rfl) ?_
  simp only [qz]
  refine rf_len rfl rfl rfl Try.underlying22 ?_
  simp only [qz]
  refine rf_gtr rfl rfl rfl rfl rfl ?_
  simp only [qz]
  refine rg_assign ?_
  simp only [qz]
  refine rg_nil (ek_next (wk_ret ?_))
  refine ek_ret (fun w hw => ⟨rfl, _, res_t _ rfl, ?_⟩)
  (try simp only [qz])
  first | exact ⟨rfl, hw.below⟩ | exact ⟨trivial, hw.below⟩ | exact hw.below

end Go.Proofs.Ytjeijnjaleldkaa
namespace Go.Proofs.Ytjeijnjaleldkaa
set_option linter.all false
open Go.RowKit

set_option maxRecDepth 100000 in
set_option maxHeartbeats 1000000 in
theorem matrixChances_any (n : Int) (xs : List Nm) (p r : List Int) (a a1 a2 : Option Addr) (c c1 c2 : Nat) (w : World) (hA : AS w a (nms xs)) (hP : AS w a1 (zs p)) (hR : AS w a2 (zs r)) : Calls Try.prog 10 #[.agg #[.int .i64 n, .slice a xs.length c], .agg #[.slice a1 p.length c1, .slice a2 r.length c2]] w fun e w' => e = .returned (.bool true) ∧ Below w.heap.size w w' := by
  go_enter Try.func10, Try.ntmps10
  refine wk_start ?_
  refine wk_seq ?_
  refine wk_region [1, 1, 0] rfl Kx ?_
  simp only [qy]
  refine Rgn fun g1 => ?_
  simp only [qz]
  refine Rgn fun g2 => ?_
  simp only [qz]
  refine rg_assign ?_
  simp only [qz]
  refine rg_nil (ek_next (wk_seq (wk_seq ?_)))
  refine wk_region [0, 1, 0, 0, 0, 0, 0, 0, 0, 0, 0, 0, 0, 0, 0, 0, 0, 1, 0] rfl Kx ?_
  simp only [qy]
  refine rf_loadR (n := 2) rfl rfl rfl Try.underlying24 rfl Kx (fun w hw => Kn.hd0 (Kn.tl hw)) rfl rfl ?_
  simp only [qz]
  apply rg_pureb Rx Kx
  case hargs => exact Ax
  case h => exact fun w hw => wide_any n xs a c w
  case hz => exact Nz
  intro x h1
  cases x
  · (try simp only [qd, ne_eq] at h1)
    simp only [qz]
    have hlx : xs.length ≤ 1000000 := by omega
    refine rg_move ?_
    simp only [qz]
    refine rf_field (n := 0) (j := 0) rfl rfl rfl Try.underlying56 rfl Kx rfl ?_
    simp only [qz]
    refine rf_load rfl rfl rfl Try.underlying37 rfl (fun w hw => (Kn.hd0 hw).at rfl) ?_
    simp only [qz]
    refine rf_len rfl rfl rfl Try.underlying37 ?_
    simp only [qz]
    refine rfb_gtr rfl rfl rfl rfl ?_
    intro x h2
    cases x
    · (try simp only [qd, ne_eq] at h2)
      simp only [qz]
      have hlp : p.length ≤ 1000000 := by omega
      refine rf_pick rfl rfl rfl ?_
      simp only [qz]
      refine rg_move ?_
      simp only [qz]
      refine rf_field (n := 0) (j := 1) rfl rfl rfl Try.underlying56 rfl Kx rfl ?_
      simp only [qz]
      refine rf_load rfl rfl rfl Try.underlying37 rfl (fun w hw => (Kn.hd0 hw).at rfl) ?_
      simp only [qz]
      refine rf_len rfl rfl rfl Try.underlying37 ?_
      simp only [qz]
      refine rfb_gtr rfl rfl rfl rfl ?_
      intro x h3
      cases x
      · (try simp only [qd, ne_eq] at h3)
        simp only [qz]
        have hlr : r.length ≤ 1000000 := by omega
        refine rf_pick rfl rfl rfl ?_
        simp only [qz]
        refine rg_move ?_
        simp only [qz]
        refine rf_field (n := 0) (j := 0) rfl rfl rfl Try.underlying56 rfl Kx rfl ?_
        simp only [qz]
        refine rf_load rfl rfl rfl Try.underlying37 rfl (fun w hw => (Kn.hd0 hw).at rfl) ?_
        simp only [qz]
        apply rg_pureb Rx Kx
        case hargs => exact Ax
        case h => exact fun w hw => many_any p a1 c1 hlp w (hP.kn0 hw)
        case hz => exact Nz
        intro x h4
        cases x
        · (try simp only [qd, ne_eq] at h4)
          simp only [qz]
          refine rf_pick rfl rfl rfl ?_
          simp only [qz]
          refine rg_nil (ek_next (wk_cond_f rfl (wk_skip (ek_next (wk_seq ?_)))))
          refine wk_region [0, 0, 0, 0, 0, 1, 0, 0, 0, 1, 1, 0] rfl Kx ?_
          simp only [qy]
          refine rf_loadR (n := 2) rfl rfl rfl Try.underlying24 rfl Kx (fun w hw => Kn.hd0 (Kn.tl hw)) rfl rfl ?_
          simp only [qz]
          refine rf_field (n := 0) (j := 0) rfl rfl rfl Try.underlying56 rfl Kx rfl ?_
          simp only [qz]
          refine rf_load rfl rfl rfl Try.underlying37 rfl (fun w hw => (Kn.hd0 hw).at rfl) ?_
          simp only [qz]
          refine rf_field (n := 0) (j := 1) rfl rfl rfl Try.underlying56 rfl Kx rfl ?_
          simp only [qz]
          refine rf_load rfl rfl rfl Try.underlying37 rfl (fun w hw => (Kn.hd0 hw).at rfl) ?_
          simp only [qz]
          apply rg_pure Rx Kx
          case hargs => exact Ax
          case h => exact fun w hw => mamplitude_any n xs p r a a1 a2 c c1 c2 hlx hlp hlr w (hA.kn0 hw) (hP.kn0 hw) (hR.kn0 hw)
          case hz => exact Nz
          simp only [qz]
          obtain ⟨zl, el, hve⟩ := numV_ve (ampR n xs p r)
          rw [hve]
          replace hve := Lib.hid hve
          refine rg_move ?_
          simp only [qz]
          refine rf_extract rfl rfl rfl rfl ?_
          simp only [qz]
          refine rf_extract rfl rfl rfl rfl ?_
          simp only [qz]
          refine Rgn fun g3 => ?_
          simp only [qz]
          refine rf_storeR (n := 5) rfl rfl Kx rfl rfl (UpdR.here _ _ _ Nl) Nz ?_
          simp only [qz, Nat.reduceAdd]
          refine rg_assign ?_
          simp only [qz]
          refine rg_nil (ek_next (wk_seq ?_))
          refine wk_region [0, 0, 0, 0, 0, 1, 0, 0, 0, 1, 1, 0] rfl Kx ?_
          simp only [qy]
          refine rf_loadR (n := 2) rfl rfl rfl Try.underlying24 rfl Kx (fun w hw => Kn.hd0 (Kn.tl (Kn.tl hw))) rfl rfl ?_
          simp only [qz]
          refine rf_field (n := 0) (j := 0) rfl rfl rfl Try.underlying56 rfl Kx rfl ?_
          simp only [qz]
          refine rf_load rfl rfl rfl Try.underlying37 rfl (fun w hw => (Kn.hd0 (Kn.tl hw)).at rfl) ?_
          simp only [qz]
          refine rf_field (n := 0) (j := 1) rfl rfl rfl Try.underlying56 rfl Kx rfl ?_
          simp only [qz]
          refine rf_load rfl rfl rfl Try.underlying37 rfl (fun w hw => (Kn.hd0 (Kn.tl hw)).at rfl) ?_
          simp only [qz]
          apply rg_pure Rx Kx
          case hargs => exact Ax
          case h => exact fun w hw => ramplitude_any n xs p r a a1 a2 c c1 c2 hlx hlp hlr w (hA.kn0 hw) (hP.kn0 hw) (hR.kn0 hw)
          case hz => exact Nz
          simp only [qz]
          rw [hve.out]
          refine rg_move ?_
          simp only [qz]
          refine rf_extract rfl rfl rfl rfl ?_
          simp only [qz]
          refine rf_extract rfl rfl rfl rfl ?_
          simp only [qz]
          refine Rgn fun g4 => ?_
          simp only [qz]
          refine rf_storeR (n := 5) rfl rfl Kx rfl rfl (UpdR.here _ _ _ Nl) Nz ?_
          simp only [qz, Nat.reduceAdd]
          refine rg_assign ?_
          simp only [qz]
          refine rg_nil (ek_next (wk_seq ?_))
          refine wk_region [0, 0, 0, 0, 0, 1, 0, 0, 0, 0, 1, 1, 0, 0] rfl Kx ?_
          simp only [qy]
          refine rf_loadR (n := 2) rfl rfl rfl Try.underlying24 rfl Kx (fun w hw => Kn.hd0 (Kn.tl (Kn.tl (Kn.tl hw)))) rfl rfl ?_
          simp only [qz]
          refine rf_field (n := 0) (j := 0) rfl rfl rfl Try.underlying56 rfl Kx rfl ?_
          simp only [qz]
          refine rf_load rfl rfl rfl Try.underlying37 rfl (fun w hw => (Kn.hd0 (Kn.tl (Kn.tl hw))).at rfl) ?_
          simp only [qz]
          refine rf_field (n := 0) (j := 1) rfl rfl rfl Try.underlying56 rfl Kx rfl ?_
          simp only [qz]
          refine rf_load rfl rfl rfl Try.underlying37 rfl (fun w hw => (Kn.hd0 (Kn.tl (Kn.tl hw))).at rfl) ?_
          simp only [qz]
          apply rg_pure Rx Kx
          case hargs => exact Ax
          case h => exact fun w hw => mchance_any n xs p r a a1 a2 c c1 c2 hlx hlp hlr w (hA.kn0 hw) (hP.kn0 hw) (hR.kn0 hw)
          case hz => exact Nz
          simp only [qz]
          obtain ⟨zc, mc, ec, hce⟩ := chV_ve n xs p r
          rw [hce]
          replace hce := Lib.hid hce
          refine rg_move ?_
          simp only [qz]
          refine rf_extract rfl rfl rfl rfl ?_
          simp only [qz]
          refine rf_extract rfl rfl rfl rfl ?_
          simp only [qz]
          refine rf_extract rfl rfl rfl rfl ?_
          simp only [qz]
          refine Rgn fun g5 => ?_
          simp only [qz]
          refine rf_storeR (n := 5) rfl rfl Kx rfl rfl (UpdR.here _ _ _ Nl) Nz ?_
          simp only [qz, Nat.reduceAdd]
          refine rg_assign ?_
          simp only [qz]
          refine rg_assign ?_
          simp only [qz]
          refine rg_nil (ek_next (wk_seq ?_))
          refine wk_region [0, 0, 0, 0, 0, 1, 0, 0, 0, 0, 1, 1, 0, 0] rfl Kx ?_
          simp only [qy]
          refine rf_loadR (n := 2) rfl rfl rfl Try.underlying24 rfl Kx (fun w hw => Kn.hd0 (Kn.tl (Kn.tl (Kn.tl (Kn.tl hw))))) rfl rfl ?_
          simp only [qz]
          refine rf_field (n := 0) (j := 0) rfl rfl rfl Try.underlying56 rfl Kx rfl ?_
          simp only [qz]
          refine rf_load rfl rfl rfl Try.underlying37 rfl (fun w hw => (Kn.hd0 (Kn.tl (Kn.tl (Kn.tl hw)))).at rfl) ?_
          simp only [qz]
          refine rf_field (n := 0) (j := 1) rfl rfl rfl Try.underlying56 rfl Kx rfl ?_
          simp only [qz]
          refine rf_load rfl rfl rfl Try.underlying37 rfl (fun w hw => (Kn.hd0 (Kn.tl (Kn.tl (Kn.tl hw)))).at rfl) ?_
          simp only [qz]
          apply rg_pure Rx Kx
          case hargs => exact Ax
          case h => exact fun w hw => rchance_any n xs p r a a1 a2 c c1 c2 hlx hlp hlr w (hA.kn0 hw) (hP.kn0 hw) (hR.kn0 hw)
          case hz => exact Nz
          simp only [qz]
          rw [hce.out]
          refine rg_move ?_
          simp only [qz]
          refine rf_extract rfl rfl rfl rfl ?_
          simp only [qz]
          refine rf_extract rfl rfl rfl rfl ?_
          simp only [qz]
          refine rf_extract rfl rfl rfl rfl ?_
          simp only [qz]
          refine Rgn fun g6 => ?_
          simp only [qz]
          refine rf_storeR (n := 5) rfl rfl Kx rfl rfl (UpdR.here _ _ _ Nl) Nz ?_
          simp only [qz, Nat.reduceAdd]
          refine rg_assign ?_
          simp only [qz]
          refine rg_assign ?_
          simp only [qz]
          refine rg_nil (ek_next (wk_seq ?_))
          refine wk_region [0, 0, 0, 0, 0, 0, 0, 0, 0, 0, 0, 0, 0, 0, 0, 0, 0, 0, 0, 0, 0, 0, 0, 0, 1, 0, 0] rfl Kx ?_
          simp only [qy]
          refine rf_loadR (n := 5) rfl rfl rfl Try.underlying29 rfl Kx (fun w hw => Kn.hd0 (Kn.tl (Kn.tl (Kn.tl hw)))) rfl rfl ?_
          simp only [qz]
          refine rf_loadR (n := 5) rfl rfl rfl Try.underlying29 rfl Kx (fun w hw => Kn.hd0 (Kn.tl (Kn.tl hw))) rfl rfl ?_
          simp only [qz]
          refine rf_eqN (u := zl) (v := zl) rfl rfl rfl rfl ?_
          rw [decide_eq_true (rfl : zl = zl)]
          simp only [qz]
          refine rg_move ?_
          simp only [qz]
          apply rg_soft_g
          case hg => rfl
          case hy => (intro w hw; go_simp; (try go_bits); exact Yld.mk _ _)
          simp only [qz]
          apply rg_soft_g
          case hg => rfl
          case hy => (intro w hw; go_simp; (try go_bits); exact Yld.mk _ _)
          simp only [qz]
          refine rfb_eql rfl rfl rfl rfl ?_
          intro x h5
          obtain rfl : x = true := by (refine h5.symm.trans ?_; exact decide_eq_true Ox)
          clear h5
          simp only [qz]
          refine rf_pick rfl rfl rfl ?_
          simp only [qz]
          refine rg_move ?_
          simp only [qz]
          refine rf_loadR (n := 5) rfl rfl rfl Try.underlying29 rfl Kx (fun w hw => Kn.hd0 (Kn.tl hw)) rfl rfl ?_
          simp only [qz]
          refine rf_loadR (n := 5) rfl rfl rfl Try.underlying29 rfl Kx (fun w hw => Kn.hd0 hw) rfl rfl ?_
          simp only [qz]
          refine rf_eqN (u := zc) (v := zc) rfl rfl rfl rfl ?_
          rw [decide_eq_true (rfl : zc = zc)]
          simp only [qz]
          refine rf_pick rfl rfl rfl ?_
          simp only [qz]
          refine rg_move ?_
          simp only [qz]
          apply rg_soft_g
          case hg => rfl
          case hy => (intro w hw; go_simp; (try go_bits); exact Yld.mk _ _)
          simp only [qz]
          apply rg_soft_g
          case hg => rfl
          case hy => (intro w hw; go_simp; (try go_bits); exact Yld.mk _ _)
          simp only [qz]
          refine rfb_eql rfl rfl rfl rfl ?_
          intro x h6
          obtain rfl : x = true := by (refine h6.symm.trans ?_; exact decide_eq_true Ox)
          clear h6
          simp only [qz]
          refine rf_pick rfl rfl rfl ?_
          simp only [qz]
          refine rg_move ?_
          simp only [qz]
          apply rg_soft_g
          case hg => rfl
          case hy => (intro w hw; go_simp; (try go_bits); exact Yld.mk _ _)
          simp only [qz]
          apply rg_soft_g
          case hg => rfl
          case hy => (intro w hw; go_simp; (try go_bits); exact Yld.mk _ _)
          simp only [qz]
          refine rfb_eql rfl rfl rfl rfl ?_
          intro x h7
          obtain rfl : x = true := by (refine h7.symm.trans ?_; exact decide_eq_true Ox)
          clear h7
          simp only [qz]
          refine rf_pick rfl rfl rfl ?_
          simp only [qz]
          refine rg_move ?_
          simp only [qz]
          apply rg_pure Rx Kx
          case hargs => exact Ax
          case h => exact fun w hw => sane2_any w
          case hz => exact Nz
          simp only [qz]
          refine rf_pick rfl rfl rfl ?_
          simp only [qz]
          refine rg_assign ?_
          simp only [qz]
          refine rg_nil (ek_next (wk_ret ?_))
          refine ek_ret (fun w hw => ⟨rfl, _, res_t _ rfl, ?_⟩)
          (try simp only [qz])
          first | exact ⟨rfl, hw.below⟩ | exact ⟨trivial, hw.below⟩ | exact hw.below
        (try simp only [qd, ne_eq] at h4)
        simp only [qz]
        refine rf_pick rfl rfl rfl ?_
        simp only [qz]
        refine rg_nil (ek_next (wk_cond_t rfl (wk_seq ?_)))
        refine wk_region [1, 0] rfl Kx ?_
        simp only [qy]
        apply rg_pure Rx Kx
        case hargs => exact Ax
        case h => exact fun w hw => sane2_any w
        case hz => exact Nz
        simp only [qz]
        refine rg_assign ?_
        simp only [qz]
        refine rg_nil (ek_next (wk_ret (ek_then_ret ?_)))
        refine ek_ret (fun w hw => ⟨rfl, _, res_t _ rfl, ?_⟩)
        (try simp only [qz])
        first | exact ⟨rfl, hw.below⟩ | exact ⟨trivial, hw.below⟩ | exact hw.below
      (try simp only [qd, ne_eq] at h3)
      simp only [qz]
      refine rf_pick rfl rfl rfl ?_
      simp only [qz]
      refine rg_move ?_
      simp only [qz]
      refine rg_skip Rx ?_
      simp only [qz]
      refine rg_skip Rx ?_
      simp only [qz]
      refine rg_skip_h Rx Nz ?_
      simp only [qz]
      refine rf_pick rfl rfl rfl ?_
      simp only [qz]
      refine rg_nil (ek_next (wk_cond_t rfl (wk_seq ?_)))
      refine wk_region [1, 0] rfl Kx ?_
      simp only [qy]
      apply rg_pure Rx Kx
      case hargs => exact Ax
      case h => exact fun w hw => sane2_any w
      case hz => exact Nz
      simp only [qz]
      refine rg_assign ?_
      simp only [qz]
      refine rg_nil (ek_next (wk_ret (ek_then_ret ?_)))
      refine ek_ret (fun w hw => ⟨rfl, _, res_t _ rfl, ?_⟩)
      (try simp only [qz])
      first | exact ⟨rfl, hw.below⟩ | exact ⟨trivial, hw.below⟩ | exact hw.below
    (try simp only [qd, ne_eq] at h2)
    simp only [qz]
    refine rf_pick rfl rfl rfl ?_
    simp only [qz]
    refine rg_move ?_
    simp only [qz]
    refine rg_skip Rx ?_
    simp only [qz]
    refine rg_skip Rx ?_
    simp only [qz]
    refine rg_skip Rx ?_
    simp only [qz]
    refine rg_skip Rx ?_
    simp only [qz]
    refine rf_pick rfl rfl rfl ?_
    simp only [qz]
    refine rg_move ?_
    simp only [qz]
    refine rg_skip Rx ?_
    simp only [qz]
    refine rg_skip Rx ?_
    simp only [qz]
    refine rg_skip_h Rx Nz ?_
    simp only [qz]
    refine rf_pick rfl rfl rfl ?_
    simp only [qz]
    refine rg_nil (ek_next (wk_cond_t rfl (wk_seq ?_)))
    refine wk_region [1, 0] rfl Kx ?_
    simp only [qy]
    apply rg_pure Rx Kx
    case hargs => exact Ax
    case h => exact fun w hw => sane2_any w
    case hz => exact Nz
    simp only [qz]
    refine rg_assign ?_
    simp only [qz]
    refine rg_nil (ek_next (wk_ret (ek_then_ret ?_)))
    refine ek_ret (fun w hw => ⟨rfl, _, res_t _ rfl, ?_⟩)
    (try simp only [qz])
    first | exact ⟨rfl, hw.below⟩ | exact ⟨trivial, hw.below⟩ | exact hw.below
  (try simp only [qd, ne_eq] at h1)
  simp only [qz]
  refine rg_move ?_
  simp only [qz]
  refine rg_skip Rx ?_
  simp only [qz]
  refine rg_skip Rx ?_
  simp only [qz]
  refine rg_skip Rx ?_
  simp only [qz]
  refine rg_skip Rx ?_
  simp only [qz]
  refine rf_pick rfl rfl rfl ?_
  simp only [qz]
  refine rg_move ?_
  simp only [qz]
  refine rg_skip Rx ?_
  simp only [qz]
  refine rg_skip Rx ?_
  simp only [qz]
  refine rg_skip Rx ?_
  simp only [qz]
  refine rg_skip Rx ?_
  simp only [qz]
  refine rf_pick rfl rfl rfl ?_
  simp only [qz]
  refine rg_move ?_
  simp only [qz]
  refine rg_skip Rx ?_
  simp only [qz]
  refine rg_skip Rx ?_
  simp only [qz]
  refine rg_skip_h Rx Nz ?_
  simp only [qz]
  refine rf_pick rfl rfl rfl ?_
  simp only [qz]
  refine rg_nil (ek_next (wk_cond_t rfl (wk_seq ?_)))
  refine wk_region [1, 0] rfl Kx ?_
  simp only [qy]
  apply rg_pure Rx Kx
  case hargs => exact Ax
  case h => exact fun w hw => sane2_any w
  case hz => exact Nz
  simp only [qz]
  refine rg_assign ?_
  simp only [qz]
  refine rg_nil (ek_next (wk_ret (ek_then_ret ?_)))
  refine ek_ret (fun w hw => ⟨rfl, _, res_t _ rfl, ?_⟩)
  (try simp only [qz])
  first | exact ⟨rfl, hw.below⟩ | exact ⟨trivial, hw.below⟩ | exact hw.below

end Go.Proofs.Ytjeijnjaleldkaa
