/- Several texts in one. -/
import Derived.Test.YtjeijnjaleldkaaMgB
import Derived.Test.YtjeijnjaleldkaaXt
import Derived.Test.YtjeijnjaleldkaaRt
import Derived.Test.YtjeijnjaleldkaaWtP
import Derived.Test.YtjeijnjaleldkaaSq
import Derived.Test.YtjeijnjaleldkaaWs3
import Derived.Test.YtjeijnjaleldkaaWs4
import Derived.Test.YtjeijnjaleldkaaEqS
import Derived.Test.YtjeijnjaleldkaaVaPl
import Derived.Test.YtjeijnjaleldkaaMx2
import Derived.Test.YtjeijnjaleldkaaAlPl
import Derived.Test.YtjeijnjaleldkaaMtPl
namespace Go.Proofs.Ytjeijnjaleldkaa
set_option linter.all false
open Go.RowKit

/-- The digits of number m. -/
abbrev slD (T : Nat → Int) (sa : Nat → Option Addr) (sc : Nat → Nat) (m : Nat) : Value := .slice (sa m) (digs (T m).natAbs).length (sc m)
def wdC (T : Nat → Int) (sa : Nat → Option Addr) (sc : Nat → Nat) (k : Int) : Array Value :=
  #[.bool (decide (T 0 < 0)), slD T sa sc 0, .bool (decide (T 1 < 0)), slD T sa sc 1, .bool (decide (T 2 < 0)), slD T sa sc 2, .bool (decide (T 3 < 0)), slD T sa sc 3, .int .i64 k]
theorem wd_row {w : World} {g t m : Nat} {T : Nat → Int} {sa : Nat → Option Addr} {sc : Nat → Nat} {k : Int} (h : Hd w g t (wdC T sa sc k)) (hm : m < 4) : w.rangeAt g (0 + m * 2) [.bool (decide (T m < 0)), slD T sa sc m] := by
  have := cells_range h (0 + m * 2) 2
  have e : ((wdC T sa sc k).toList.drop (0 + m * 2)).take 2 = [.bool (decide (T m < 0)), slD T sa sc m] := by
    rcases lt4 hm with rfl | rfl | rfl | rfl <;> rfl
  rwa [e] at this
theorem wd_all {w : World} {g t : Nat} {T : Nat → Int} {sa : Nat → Option Addr} {sc : Nat → Nat} {k : Int} (h : Hd w g t (wdC T sa sc k)) :
    w.rangeAt g 0 [.bool (decide (T 0 < 0)), slD T sa sc 0, .bool (decide (T 1 < 0)), slD T sa sc 1, .bool (decide (T 2 < 0)), slD T sa sc 2, .bool (decide (T 3 < 0)), slD T sa sc 3, .int .i64 k] := cells_range h 0 9
theorem wd_set {m : Nat} {T : Nat → Int} {sa : Nat → Option Addr} {sc : Nat → Nat} {k : Int} {t : Int} {pa : Option Addr} {pc : Nat} (hm : m < 4) :
    setMany (wdC T sa sc k) (0 + m * 2) [.bool (decide (t < 0)), .slice pa (digs t.natAbs).length pc] = wdC (upd T m t) (upd sa m pa) (upd sc m pc) k := by
  rcases lt4 hm with rfl | rfl | rfl | rfl <;> rfl
theorem wd_set' {m : Nat} {T : Nat → Int} {sa : Nat → Option Addr} {sc : Nat → Nat} {k : Int} {t : Int} {pa : Option Addr} {pc : Nat} (hm : m < 4) :
    ((wdC T sa sc k).setIfInBounds (0 + m * 2) (.bool (decide (t < 0)))).setIfInBounds (0 + m * 2 + 1) (.slice pa (digs t.natAbs).length pc) = wdC (upd T m t) (upd sa m pa) (upd sc m pc) k := wd_set hm
theorem wd_size {T : Nat → Int} {sa : Nat → Option Addr} {sc : Nat → Nat} {k : Int} : (wdC T sa sc k).size = 9 := rfl
theorem wd_zero (k : Int) : (#[.bool false, .slice none 0 0, .bool false, .slice none 0 0, .bool false, .slice none 0 0, .bool false, .slice none 0 0, .int .i64 k] : Array Value) = wdC (fun _ => 0) (fun _ => none) (fun _ => 0) k := by
  unfold wdC
  simp only [slD, Int.natAbs_zero, digs_zero]
  rfl
theorem wd_wdV (z : Nm) (a0 a1 a2 a3 : Option Addr) (c0 c1 c2 c3 : Nat) : wdV z (.slice a0 (digs z.a.natAbs).length c0) (.slice a1 (digs z.b.natAbs).length c1) (.slice a2 (digs z.c.natAbs).length c2) (.slice a3 (digs z.d.natAbs).length c3) =
    .agg (wdC (sel4 z.a z.b z.c z.d) (sel4 a0 a1 a2 a3) (sel4 c0 c1 c2 c3) z.k) := rfl

/-- A call that hands back an amplitude of any size. -/
def RetT (w : World) (T : Nat → Int) (k : Int) (e : Ending) (w' : World) : Prop :=
  ∃ v u, e = .returned v ∧ (∃ sa sc, v = .agg (wdC T sa sc k) ∧ ∀ m, m < 4 → SU u (slD T sa sc m) (T m).natAbs) ∧ Made w u w'
theorem su_upd {u u' : List Blk} {T : Nat → Int} {sa : Nat → Option Addr} {sc : Nat → Nat} {j : Nat} {t : Int} {pa : Option Addr} {pc : Nat} (h : ∀ m, m < 4 → SU u (slD T sa sc m) (T m).natAbs) (h' : SU u' (.slice pa (digs t.natAbs).length pc) t.natAbs) :
    ∀ m, m < 4 → SU (u' ++ u) (slD (upd T j t) (upd sa j pa) (upd sc j pc) m) (upd T j t m).natAbs := by
  intro m hm
  by_cases e : m = j
  · subst e
    unfold slD
    rw [upd_same, upd_same, upd_same]
    exact h'.mono (List.sublist_append_left _ _)
  · unfold slD
    rw [upd_other T t e, upd_other sa pa e, upd_other sc pc e]
    exact (h m hm).mono (List.sublist_append_right _ _)
end Go.Proofs.Ytjeijnjaleldkaa
namespace Go.Proofs.Ytjeijnjaleldkaa
set_option linter.all false
open Go.RowKit

set_option maxRecDepth 100000 in
set_option maxHeartbeats 1000000 in
theorem wtimes_core (X Y : Nat → Int) (xa ya : Nat → Option Addr) (xc yc : Nat → Nat) (xk yk : Int) (lX : ∀ m, m < 4 → (digs (X m).natAbs).length ≤ 1000) (lY : ∀ m, m < 4 → (digs (Y m).natAbs).length ≤ 1000) (hP : ∀ i k, i < 4 → k < 4 → -1231312693637327475383720003129487931408741852202045208373384168882678805359287831606695820465153613775207124697088 ≤ X i * Y k ∧ X i * Y k ≤ 1231312693637327475383720003129487931408741852202045208373384168882678805359287831606695820465153613775207124697088) (hk : 0 ≤ xk) (hk1 : xk ≤ 10000) (hk2 : 0 ≤ yk) (hk3 : yk ≤ 10000) (w : World) (hX : ∀ m, m < 4 → SA w (slD X xa xc m) (X m).natAbs) (hY : ∀ m, m < 4 → SA w (slD Y ya yc m) (Y m).natAbs) : Calls Try.prog 108 #[.agg (wdC X xa xc xk), .agg (wdC Y ya yc yk)] w fun e w' => RetT w (acc X Y 16) (xk + yk) e w' := by
  go_enter Try.func108, Try.ntmps108
  refine wk_start ?_
  refine wk_seq ?_
  refine wk_region [1, 1, 1] rfl Kx ?_
  simp only [qy]
  refine Rgn fun g1 => ?_
  simp only [qz]
  refine Rgn fun g2 => ?_
  simp only [qz]
  refine Rgn fun g3 => ?_
  simp only [qz]
  refine rg_nil (ek_next (wk_seq ?_))
  refine wk_region [0, 0, 0, 0, 0, 0, 1, 1] rfl Kx ?_
  simp only [qy]
  refine rf_field (n := 0) (j := 8) rfl rfl rfl Try.underlying73 rfl Kx rfl ?_
  simp only [qz]
  refine rf_load rfl rfl rfl Try.underlying3 rfl (fun w hw => (Kn.hd0 (Kn.tl (Kn.tl hw))).at rfl) ?_
  simp only [qz]
  refine rf_field (n := 0) (j := 8) rfl rfl rfl Try.underlying73 rfl Kx rfl ?_
  simp only [qz]
  refine rf_load rfl rfl rfl Try.underlying3 rfl (fun w hw => (Kn.hd0 (Kn.tl hw)).at rfl) ?_
  simp only [qz]
  refine rf_add rfl rfl rfl rfl (wrap_ok Ox Ox) ?_
  simp only [qz]
  refine rf_build (cs := fun a => #[.bool false, .slice none 0 0, .bool false, .slice none 0 0, .bool false, .slice none 0 0, .bool false, .slice none 0 0, a.eval (.tmp 13)]) rfl rfl Kx ?_
  simp only [qz]
  refine Rgn fun g4 => ?_
  simp only [qz]
  refine rf_storeR (n := 9) rfl rfl Kx rfl rfl (UpdR.here _ _ _ Nl) Nz ?_
  simp only [qz, Nat.reduceAdd]
  refine rg_nil (ek_next (wk_seq (wk_seq ?_)))
  rw [wd_zero (xk + yk)]
  refine wk_region [0] rfl Kx ?_
  simp only [qy]
  refine rg_assign ?_
  simp only [qz]
  refine rg_nil (ek_next (wk_block ?_))
  refine wk_loopF [6, 7, 8, 15, 16, 17, 18, 19, 20, 21, 22, 23, 24, 25, 26, 27, 28, 29, 30, 31, 32, 33, 34, 35, 36, 37, 38, 39, 40, 41, 42, 43, 44, 45, 46, 47, 48, 49, 50, 51, 52] (fun mz f s => ∃ (i : Nat) (T : Nat → Int) (da : Nat → Option Addr) (dc : Nat → Nat) (u : List Blk), f 6 = .int .i64 i ∧ s = (u ++ ((g4, .cells (wdC T da dc (xk + yk)) 73) :: ((g3, .cells #[.bool false, .slice none 0 0, .bool false, .slice none 0 0, .bool false, .slice none 0 0, .bool false, .slice none 0 0, .int .i64 0] 73) :: ((g2, .cells (wdC Y ya yc yk) 73) :: ((g1, .cells (wdC X xa xc xk) 73) :: []))))) ∧ mz = 4 - i ∧ i ≤ 4 ∧ Hid (acc X Y (i * 4) = T) ∧ (∀ m, m < 4 → SU u (slD T da dc m) (T m).natAbs)) ((fun (i : Nat) (T : Nat → Int) (da : Nat → Option Addr) (dc : Nat → Nat) (u : List Blk) => 4 - i) (0) (fun _ => 0) (fun _ => none) (fun _ => 0) ([])) ?_ Kx ?_
  · exact ⟨0, fun _ => 0, fun _ => none, fun _ => 0, [], rfl, rfl, rfl, by omega, (Lib.hid rfl), (fun m _ => by unfold slD; simp only [Int.natAbs_zero, digs_zero]; exact SU.nil)⟩
  rintro mz f1 s ⟨i, T, da, dc, u, hs1_6, rfl, hn, hd1, hd2, hd3⟩
  simp only [Act.putF, List.foldl_cons, List.foldl_nil, hs1_6, Act.put, Act.eval, q1, q2, q3, q4, q5, q6, q7, q8, q9, q10, q11, q12, q13, q14, q15, q16, q17, q18, Nat.reduceAdd, Bool.not_true, Bool.not_false]
  clear hs1_6
  have hac := hd2
  have hsu := hd3
  clear hd2 hd3
  refine wk_seq (wk_seq ?_)
  refine wk_region [0, 0] rfl Kx ?_
  simp only [qy]
  refine rg_move ?_
  simp only [qz]
  refine rfb_lss rfl rfl rfl rfl ?_
  intro x h1
  cases x
  · (try simp only [qd, ne_eq] at h1)
    simp only [qz]
    refine rg_nil (ek_next (wk_cond_f rfl (wk_exit (ek_then_exit (ek_then_exit (ek_block_exit (ek_next (wk_seq ?_))))))))
    refine wk_region [0, 1] rfl Kx ?_
    simp only [qy]
    refine rf_loadC (n := 9) (vs := [.bool (decide (T 0 < 0)), slD T da dc 0, .bool (decide (T 1 < 0)), slD T da dc 1, .bool (decide (T 2 < 0)), slD T da dc 2, .bool (decide (T 3 < 0)), slD T da dc 3, .int .i64 (xk + yk)]) rfl rfl rfl Try.underlying73 rfl Kx rfl (fun w hw => wd_all (Kn.hd0 (Kn.tlU hw))) ?_
    simp only [qz]
    refine rf_storeR (n := 9) rfl rfl Kx rfl rfl (UpdR.app _ (UpdR.there _ (UpdR.here _ _ _ Nl))) Nz ?_
    simp only [qz, Nat.reduceAdd]
    refine rg_nil (ek_next (wk_ret ?_))
    refine ek_ret (fun w hw => ⟨rfl, _, run_results1 rfl rfl (Kn.hd0 (Kn.tl (Kn.tlU hw))) Try.underlying73 rfl Kx, ?_⟩)
    (try simp only [qz])
    obtain rfl : i = 4 := by omega
    exact ⟨_, u, rfl, ⟨da, dc, by rw [show acc X Y 16 = T from hac.out]; rfl, by rw [show acc X Y 16 = T from hac.out]; exact hsu⟩, hw.made (List.sublist_append_left _ _)⟩
  (try simp only [qd, ne_eq] at h1)
  simp only [qz]
  refine rg_nil (ek_next (wk_cond_t rfl (wk_skip (ek_next (wk_seq (wk_block (wk_seq ?_)))))))
  refine wk_region [0] rfl Kx ?_
  simp only [qy]
  refine rg_assign ?_
  simp only [qz]
  refine rg_nil (ek_next (wk_block ?_))
  refine wk_loopF [7, 8, 19, 20, 21, 22, 23, 24, 25, 26, 27, 28, 29, 30, 31, 32, 33, 34, 35, 36, 37, 38, 39, 40, 41, 42, 43, 44, 45, 46, 47, 48, 49, 50, 51, 52] (fun mz f s => ∃ (k : Nat) (T2 : Nat → Int) (da2 : Nat → Option Addr) (dc2 : Nat → Nat) (u2 : List Blk), f 7 = .int .i64 k ∧ s = (u2 ++ ((g4, .cells (wdC T2 da2 dc2 (xk + yk)) 73) :: ((g3, .cells #[.bool false, .slice none 0 0, .bool false, .slice none 0 0, .bool false, .slice none 0 0, .bool false, .slice none 0 0, .int .i64 0] 73) :: ((g2, .cells (wdC Y ya yc yk) 73) :: ((g1, .cells (wdC X xa xc xk) 73) :: []))))) ∧ mz = 4 - k ∧ k ≤ 4 ∧ Hid (acc X Y (i * 4 + k) = T2) ∧ (∀ m, m < 4 → SU u2 (slD T2 da2 dc2 m) (T2 m).natAbs)) ((fun (k : Nat) (T2 : Nat → Int) (da2 : Nat → Option Addr) (dc2 : Nat → Nat) (u2 : List Blk) => 4 - k) (0) (T) (da) (dc) (u)) ?_ Kx ?_
  · exact ⟨0, T, da, dc, u, rfl, rfl, rfl, by omega, hac, hsu⟩
  rintro mz f2 s ⟨k, T2, da2, dc2, u2, hs2_7, rfl, hn, he1, he2, he3⟩
  simp only [Act.putF, List.foldl_cons, List.foldl_nil, hs2_7, Act.put, Act.eval, q1, q2, q3, q4, q5, q6, q7, q8, q9, q10, q11, q12, q13, q14, q15, q16, q17, q18, Nat.reduceAdd, Bool.not_true, Bool.not_false]
  clear hs2_7
  have hac2 := he2
  have hsu2 := he3
  clear he2 he3
  refine wk_seq (wk_seq ?_)
  refine wk_region [0, 0] rfl Kx ?_
  simp only [qy]
  refine rg_move ?_
  simp only [qz]
  refine rfb_lss rfl rfl rfl rfl ?_
  intro x h2
  cases x
  · (try simp only [qd, ne_eq] at h2)
    simp only [qz]
    refine rg_nil (ek_next (wk_cond_f rfl (wk_exit (ek_then_exit (ek_then_exit (ek_block_exit (ek_block (ek_next ?_))))))))
    refine wk_region [0, 0, 0] rfl Kx ?_
    simp only [qy]
    refine rg_move ?_
    simp only [qz]
    refine rf_add rfl rfl rfl rfl (wrap_ok Ox Ox) ?_
    simp only [qz]
    refine rg_assign ?_
    simp only [qz]
    refine rg_nil ?_
    obtain rfl : k = 4 := by omega
    have hac' : acc X Y ((i + 1) * 4) = T2 := by rw [← hac2.out]; congr 1; omega
    refine ek_roundF (4 - (i + 1)) Ox Kx ?_
    exact ⟨i + 1, T2, da2, dc2, u2, rfl, by rfl, by rfl, Ox, (Lib.hid hac'), hsu2⟩
  (try simp only [qd, ne_eq] at h2)
  simp only [qz]
  refine rg_nil (ek_next (wk_cond_t rfl (wk_skip (ek_next (wk_seq (wk_block ?_))))))
  refine wk_cutF [8, 23, 24, 25, 26, 27, 28, 29, 30, 31] (fun f s => ∃ (gp : Nat) (uq : List Blk) (pa : Option Addr) (pc : Nat), f 8 = .pointer (some ⟨gp, 0, none⟩) ∧ s = ((gp, .cells #[.bool (decide (X i * Y k < 0)), .slice pa (digs (X i * Y k).natAbs).length pc] 70) :: (uq ++ (u2 ++ ((g4, .cells (wdC T2 da2 dc2 (xk + yk)) 73) :: ((g3, .cells #[.bool false, .slice none 0 0, .bool false, .slice none 0 0, .bool false, .slice none 0 0, .bool false, .slice none 0 0, .int .i64 0] 73) :: ((g2, .cells (wdC Y ya yc yk) 73) :: ((g1, .cells (wdC X xa xc xk) 73) :: []))))))) ∧ SU uq (.slice pa (digs (X i * Y k).natAbs).length pc) (X i * Y k).natAbs) ?_ ?_
  · refine wk_rt _ Kx (List.Sublist.append_left (sc _ (sc _ (sc _ (sc _ sn)))) _) ?_
    refine rt_soft (i := 0) rfl Kx (fun c d v a w h => by cases d <;> exact h) (List.Sublist.append_left (sc _ (sc _ (sc _ (sc _ sn)))) _) ?_
    refine rg_move ?_
    simp only [qz]
    refine rg_nil ?_
    refine ek_rt (List.Sublist.append_left (sc _ (sc _ (sc _ (sc _ sn)))) _) ?_
    refine rt_soft (i := 1) rfl Kx (fun c d v a w h => by cases d <;> exact h) (List.Sublist.append_left (sc _ (sc _ (sc _ (sc _ sn)))) _) ?_
    refine rf_field (n := 7) (j := 0) rfl rfl rfl Try.underlying73 rfl Kx rfl ?_
    simp only [qz]
    refine rg_nil ?_
    refine ek_rt (List.Sublist.append_left (sc _ (sc _ (sc _ (sc _ sn)))) _) ?_
    refine rt_soft (i := 2) rfl Kx (fun c d v a w h => by cases d <;> exact h) (List.Sublist.append_left (sc _ (sc _ (sc _ (sc _ sn)))) _) ?_
    refine rf_indexA (n := i) (sz := 2) (j := 0 + i * 2) rfl rfl rfl rfl Try.underlying71 Kx Ox rfl ?_
    simp only [qz]
    refine rg_nil ?_
    refine ek_rt (List.Sublist.append_left (sc _ (sc _ (sc _ (sc _ sn)))) _) ?_
    refine rt_soft (i := 3) rfl Kx (fun c d v a w h => by cases d <;> exact h) (List.Sublist.append_left (sc _ (sc _ (sc _ (sc _ sn)))) _) ?_
    refine rf_loadC (n := 2) (vs := [.bool (decide (X (i) < 0)), slD X xa xc (i)]) rfl rfl rfl Try.underlying70 rfl Kx rfl (fun w hw => wd_row (Kn.hd0 (Kn.tl (Kn.tl (Kn.tl (Kn.tlU hw))))) Ox) ?_
    simp only [qz]
    refine rg_nil ?_
    refine ek_rt (List.Sublist.append_left (sc _ (sc _ (sc _ (sc _ sn)))) _) ?_
    refine rt_soft (i := 4) rfl Kx (fun c d v a w h => by cases d <;> exact h) (List.Sublist.append_left (sc _ (sc _ (sc _ (sc _ sn)))) _) ?_
    refine rg_move ?_
    simp only [qz]
    refine rg_nil ?_
    refine ek_rt (List.Sublist.append_left (sc _ (sc _ (sc _ (sc _ sn)))) _) ?_
    refine rt_soft (i := 5) rfl Kx (fun c d v a w h => by cases d <;> exact h) (List.Sublist.append_left (sc _ (sc _ (sc _ (sc _ sn)))) _) ?_
    refine rf_field (n := 7) (j := 0) rfl rfl rfl Try.underlying73 rfl Kx rfl ?_
    simp only [qz]
    refine rg_nil ?_
    refine ek_rt (List.Sublist.append_left (sc _ (sc _ (sc _ (sc _ sn)))) _) ?_
    refine rt_soft (i := 6) rfl Kx (fun c d v a w h => by cases d <;> exact h) (List.Sublist.append_left (sc _ (sc _ (sc _ (sc _ sn)))) _) ?_
    refine rf_indexA (n := k) (sz := 2) (j := 0 + k * 2) rfl rfl rfl rfl Try.underlying71 Kx Ox rfl ?_
    simp only [qz]
    refine rg_nil ?_
    refine ek_rt (List.Sublist.append_left (sc _ (sc _ (sc _ (sc _ sn)))) _) ?_
    refine rt_soft (i := 7) rfl Kx (fun c d v a w h => by cases d <;> exact h) (List.Sublist.append_left (sc _ (sc _ (sc _ (sc _ sn)))) _) ?_
    refine rf_loadC (n := 2) (vs := [.bool (decide (Y (k) < 0)), slD Y ya yc (k)]) rfl rfl rfl Try.underlying70 rfl Kx rfl (fun w hw => wd_row (Kn.hd0 (Kn.tl (Kn.tl (Kn.tlU hw)))) Ox) ?_
    simp only [qz]
    refine rg_nil ?_
    refine ek_rt (List.Sublist.append_left (sc _ (sc _ (sc _ (sc _ sn)))) _) ?_
    refine rt_hard2 (i := 8) (j := 9) Kx rfl rfl ?_ ?_
    · apply (rg_made (T := fun v u => ∃ s, v = bgV (X i * Y k) s ∧ SU u s (X i * Y k).natAbs)) Rx Kx
      case hargs => exact Ax
      case h => exact fun w hw => bmul_any (X i) (Y k) _ _ (lX i Ox) (lY k Ox) w ((hX i Ox).kn hw) ((hY k Ox).kn hw)
      case hz => exact (fun _ h => by cases h; exact (List.Sublist.append_left (sc _ (sc _ (sc _ (sc _ sn)))) _))
      rintro _ uP ⟨sP, rfl, hSP⟩
      obtain ⟨⟨daP, dcP, rfl⟩, -⟩ := id hSP
      simp only [qz]
      refine rg_nil ?_
      refine ek_rt ((List.Sublist.append_left (sc _ (sc _ (sc _ (sc _ sn)))) _).trans (List.sublist_append_right _ _)) ?_
      refine rt_hard1 (i := 9) Kx rfl ?_
      refine rg_new (cs := ?_) (ty := ?_) Rx (fun w => ?_) (fun _ h => by cases h; exact ((List.Sublist.append_left (sc _ (sc _ (sc _ (sc _ sn)))) _).trans (List.sublist_append_right _ _))) (fun g5 => ?_); rotate_left 2
      focus (go_simp; rfl)
      simp only [qz]
      refine rg_nil ?_
      refine ek_rt (sk _ ((List.Sublist.append_left (sc _ (sc _ (sc _ (sc _ sn)))) _).trans (List.sublist_append_right _ _))) ?_
      refine rt_hard1 (i := 10) Kx rfl ?_
      refine rf_storeR (n := 2) rfl rfl Kx rfl rfl (UpdR.here _ _ _ Nl) (fun _ h => by cases h; exact (sk _ ((List.Sublist.append_left (sc _ (sc _ (sc _ (sc _ sn)))) _).trans (List.sublist_append_right _ _)))) ?_
      simp only [qz, Nat.reduceAdd]
      refine rg_nil ?_
      refine ek_rt (sk _ ((List.Sublist.append_left (sc _ (sc _ (sc _ (sc _ sn)))) _).trans (List.sublist_append_right _ _))) ?_
      refine rt_nil Kx ?_
      refine ek_midF Kx ?_
      exact ⟨g5, uP, daP, dcP, rfl, by rfl, hSP⟩
    refine rg_new (cs := ?_) (ty := ?_) Rx (fun w => ?_) (fun _ h => by cases h; exact (List.Sublist.append_left (sc _ (sc _ (sc _ (sc _ sn)))) _)) (fun g6 => ?_); rotate_left 2
    focus (go_simp; rfl)
    simp only [qz]
    refine rg_nil ?_
    refine ek_rt (sk _ (List.Sublist.append_left (sc _ (sc _ (sc _ (sc _ sn)))) _)) ?_
    refine rt_hard1 (i := 8) Kx rfl ?_
    apply (rg_made (T := fun v u => ∃ s, v = bgV (X i * Y k) s ∧ SU u s (X i * Y k).natAbs)) Rx Kx
    case hargs => exact Ax
    case h => exact fun w hw => bmul_any (X i) (Y k) _ _ (lX i Ox) (lY k Ox) w ((hX i Ox).kn hw) ((hY k Ox).kn hw)
    case hz => exact (fun _ h => by cases h; exact (sk _ (List.Sublist.append_left (sc _ (sc _ (sc _ (sc _ sn)))) _)))
    rintro _ uP ⟨sP, rfl, hSP⟩
    obtain ⟨⟨daP, dcP, rfl⟩, -⟩ := id hSP
    simp only [qz]
    refine rg_nil ?_
    refine ek_rt ((sk _ (List.Sublist.append_left (sc _ (sc _ (sc _ (sc _ sn)))) _)).trans (List.sublist_append_right _ _)) ?_
    refine rt_hard1 (i := 10) Kx rfl ?_
    refine rf_storeR (n := 2) rfl rfl Kx rfl rfl (UpdR.app _ (UpdR.here _ _ _ Nl)) (fun _ h => by cases h; exact ((sk _ (List.Sublist.append_left (sc _ (sc _ (sc _ (sc _ sn)))) _)).trans (List.sublist_append_right _ _))) ?_
    simp only [qz, Nat.reduceAdd]
    refine rg_nil ?_
    refine ek_rt ((sk _ (List.Sublist.append_left (sc _ (sc _ (sc _ (sc _ sn)))) _)).trans (List.sublist_append_right _ _)) ?_
    refine rt_nil Kx ?_
    refine ek_perm (perm_at (l := (uP)) (((((((List.Perm.refl _).cons _).cons _).cons _).cons _).append_left _).append_left _)) ?_
    refine ek_midF Kx ?_
    exact ⟨g6, uP, daP, dcP, rfl, by rfl, hSP⟩
  rintro f3 s ⟨gp, uq, pa, pc, hs3_8, rfl, hSp⟩
  simp only [Act.putF, List.foldl_cons, List.foldl_nil, hs3_8, Act.put, Act.eval, q1, q2, q3, q4, q5, q6, q7, q8, q9, q10, q11, q12, q13, q14, q15, q16, q17, q18, Nat.reduceAdd, Bool.not_true, Bool.not_false]
  clear hs3_8
  have hpp := hP i k Ox Ox
  refine wk_seq (wk_seq ?_)
  refine wk_region [0, 0, 0, 0] rfl Kx ?_
  simp only [qy]
  refine rg_move ?_
  simp only [qz]
  refine rg_move ?_
  simp only [qz]
  refine rf_add rfl rfl rfl rfl (wrap_ok Ox Ox) ?_
  simp only [qz]
  refine rfb_geq rfl rfl rfl rfl ?_
  intro x h3
  cases x
  · (try simp only [qd, ne_eq] at h3)
    simp only [qz]
    refine rg_nil (ek_next (wk_cond_f rfl (wk_skip (ek_next ?_))))
    refine wk_draws_m (hz1 := (sc _ (List.Sublist.append_left (List.Sublist.append_left (sk _ (sc _ (sc _ (sc _ sn)))) _) _))) [(0, 0), (1, 0), (2, 0), (3, 0), (4, 0), (5, 0), (6, 0), (7, 0), (8, 0), (9, 0), (10, 0), (11, 0), (13, 3), (12, 1), (14, 0), (15, 2)] 15 Kx Kx (fun c d v a w h => by cases d <;> exact h) ?_
    simp only [List.map_cons, List.map_nil, List.getD_cons_zero, List.getD_cons_succ]
    refine rg_move ?_
    simp only [qz]
    refine rg_move ?_
    simp only [qz]
    refine rf_add rfl rfl rfl rfl (wrap_ok Ox Ox) ?_
    simp only [qz]
    refine rf_rem (r := (((i + k) % 4 : Nat) : Int)) rfl rfl rfl rfl (by decide) ((rem_ok Ox).trans Ox) ?_
    simp only [qz]
    refine rg_move ?_
    simp only [qz]
    refine rg_move ?_
    simp only [qz]
    refine rf_add rfl rfl rfl rfl (wrap_ok Ox Ox) ?_
    simp only [qz]
    refine rf_rem (r := (((i + k) % 4 : Nat) : Int)) rfl rfl rfl rfl (by decide) ((rem_ok Ox).trans Ox) ?_
    simp only [qz]
    refine rf_field (n := 7) (j := 0) rfl rfl rfl Try.underlying73 rfl Kx rfl ?_
    simp only [qz]
    refine rf_indexA (n := (i + k) % 4) (sz := 2) (j := 0 + ((i + k) % 4) * 2) rfl rfl rfl rfl Try.underlying71 Kx Ox rfl ?_
    simp only [qz]
    refine rf_loadC (n := 2) (vs := [.bool (decide (T2 ((i + k) % 4) < 0)), slD T2 da2 dc2 ((i + k) % 4)]) rfl rfl rfl Try.underlying70 rfl Kx rfl (fun w hw => wd_row (Kn.hd0 (Kn.tlU (Kn.tlU (Kn.tl hw)))) Ox) ?_
    simp only [qz]
    refine rf_loadR (n := 2) rfl rfl rfl Try.underlying70 rfl Kx (fun w hw => Kn.hd0 hw) rfl rfl ?_
    simp only [qz]
    refine rf_field (n := 7) (j := 0) rfl rfl rfl Try.underlying73 rfl Kx rfl ?_
    simp only [qz]
    have hT := acc_bound (X := X) (Y := Y) (by decide) hP (i * 4 + k) ((i + k) % 4) Ox
    rw [hac2.out] at hT
    have hn15 : ((i * 4 + k : Nat) : Int) * 1231312693637327475383720003129487931408741852202045208373384168882678805359287831606695820465153613775207124697088 ≤ 15 * 1231312693637327475383720003129487931408741852202045208373384168882678805359287831606695820465153613775207124697088 := Int.mul_le_mul_of_nonneg_right Ox (by decide)
    have hpp := hP i k Ox Ox
    apply (rg_made (T := fun v u => ∃ s, v = bgV (T2 ((i + k) % 4) + X i * Y k) s ∧ SU u s (T2 ((i + k) % 4) + X i * Y k).natAbs)) Rx Kx
    case hargs => exact Ax
    case h => exact fun w hw => badd_any (T2 ((i + k) % 4)) (X i * Y k) _ _ (len_big Ox Ox) (len_big Ox Ox) w ((hsu2 _ Ox).at hw (List.Sublist.cons _ ((List.sublist_append_left _ _).trans (List.sublist_append_right _ _)))) (hSp.at hw (List.Sublist.cons _ (List.sublist_append_left _ _)))
    case hz => exact (fun _ h => by cases h; exact (sc _ (List.Sublist.append_left (List.Sublist.append_left (sc _ (sc _ (sc _ (sc _ sn)))) _) _)))
    rintro _ uN ⟨sN, rfl, hSN⟩
    obtain ⟨⟨daN, dcN, rfl⟩, -⟩ := id hSN
    simp only [qz]
    refine rf_indexA (n := (i + k) % 4) (sz := 2) (j := 0 + ((i + k) % 4) * 2) rfl rfl rfl rfl Try.underlying71 Kx Ox rfl ?_
    simp only [qz]
    refine rf_storeRM (n := 2) rfl rfl Kx rfl rfl (UpdR.app _ (UpdR.there _ (UpdR.app _ (UpdR.app _ (UpdR.here _ _ _ (show 0 + ((i + k) % 4) * 2 + 2 ≤ 9 by omega)))))) ((sc _ (List.Sublist.append_left (List.Sublist.append_left (sk _ (sc _ (sc _ (sc _ sn)))) _) _)).trans (List.sublist_append_right _ _)) ?_
    simp only [qz, Nat.reduceAdd]
    refine rg_nil (ek_block (ek_next ?_))
    refine wk_region [0, 0, 0] rfl Kx ?_
    simp only [qy]
    refine rg_move ?_
    simp only [qz]
    refine rf_add rfl rfl rfl rfl (wrap_ok Ox Ox) ?_
    simp only [qz]
    refine rg_assign ?_
    simp only [qz]
    refine rg_nil ?_
    refine ek_sub (List.Sublist.append_left (sk _ ((List.Sublist.append_left (sc _ (sc _ (sc _ (sc _ sn)))) _).trans (List.sublist_append_right _ _))) _) ?_
    refine ek_roundF (4 - (k + 1)) Ox Kx ?_
    exact ⟨k + 1, upd T2 ((i + k) % 4) (T2 ((i + k) % 4) + X i * Y k), upd da2 ((i + k) % 4) daN, upd dc2 ((i + k) % 4) dcN, uN ++ u2, rfl, (by rw [List.append_assoc, wd_set' Ox]), by rfl, Ox, (Lib.hid (by rw [acc_step Ox hac2.out, if_neg Ox])), (su_upd hsu2 hSN)⟩
  (try simp only [qd, ne_eq] at h3)
  simp only [qz]
  refine rg_nil (ek_next (wk_cond_t rfl ?_))
  refine wk_region [0, 1, 1] rfl Kx ?_
  simp only [qy]
  refine rf_loadR (n := 2) rfl rfl rfl Try.underlying70 rfl Kx (fun w hw => Kn.hd0 hw) rfl rfl ?_
  simp only [qz]
  apply rg_pure Rx Kx
  case hargs => exact Ax
  case h => exact fun w hw => bneg_any (X i * Y k) _ (len_big Ox Ox) w (hSp.at hw (List.Sublist.cons _ (List.sublist_append_left _ _)))
  case hz => exact Nz
  simp only [qz]
  refine rf_storeR (n := 2) rfl rfl Kx rfl rfl (UpdR.here _ _ _ Nl) Nz ?_
  simp only [qz, Nat.reduceAdd]
  refine rg_nil (ek_next ?_)
  refine wk_draws_m (hz1 := (sc _ (List.Sublist.append_left (List.Sublist.append_left (sk _ (sc _ (sc _ (sc _ sn)))) _) _))) [(0, 0), (1, 0), (2, 0), (3, 0), (4, 0), (5, 0), (6, 0), (7, 0), (8, 0), (9, 0), (10, 0), (11, 0), (13, 3), (12, 1), (14, 0), (15, 2)] 15 Kx Kx (fun c d v a w h => by cases d <;> exact h) ?_
  simp only [List.map_cons, List.map_nil, List.getD_cons_zero, List.getD_cons_succ]
  refine rg_move ?_
  simp only [qz]
  refine rg_move ?_
  simp only [qz]
  refine rf_add rfl rfl rfl rfl (wrap_ok Ox Ox) ?_
  simp only [qz]
  refine rf_rem (r := (((i + k) % 4 : Nat) : Int)) rfl rfl rfl rfl (by decide) ((rem_ok Ox).trans Ox) ?_
  simp only [qz]
  refine rg_move ?_
  simp only [qz]
  refine rg_move ?_
  simp only [qz]
  refine rf_add rfl rfl rfl rfl (wrap_ok Ox Ox) ?_
  simp only [qz]
  refine rf_rem (r := (((i + k) % 4 : Nat) : Int)) rfl rfl rfl rfl (by decide) ((rem_ok Ox).trans Ox) ?_
  simp only [qz]
  refine rf_field (n := 7) (j := 0) rfl rfl rfl Try.underlying73 rfl Kx rfl ?_
  simp only [qz]
  refine rf_indexA (n := (i + k) % 4) (sz := 2) (j := 0 + ((i + k) % 4) * 2) rfl rfl rfl rfl Try.underlying71 Kx Ox rfl ?_
  simp only [qz]
  refine rf_loadC (n := 2) (vs := [.bool (decide (T2 ((i + k) % 4) < 0)), slD T2 da2 dc2 ((i + k) % 4)]) rfl rfl rfl Try.underlying70 rfl Kx rfl (fun w hw => wd_row (Kn.hd0 (Kn.tlU (Kn.tlU (Kn.tl hw)))) Ox) ?_
  simp only [qz]
  refine rf_loadR (n := 2) rfl rfl rfl Try.underlying70 rfl Kx (fun w hw => Kn.hd0 hw) rfl rfl ?_
  simp only [qz]
  refine rf_field (n := 7) (j := 0) rfl rfl rfl Try.underlying73 rfl Kx rfl ?_
  simp only [qz]
  have hT := acc_bound (X := X) (Y := Y) (by decide) hP (i * 4 + k) ((i + k) % 4) Ox
  rw [hac2.out] at hT
  have hn15 : ((i * 4 + k : Nat) : Int) * 1231312693637327475383720003129487931408741852202045208373384168882678805359287831606695820465153613775207124697088 ≤ 15 * 1231312693637327475383720003129487931408741852202045208373384168882678805359287831606695820465153613775207124697088 := Int.mul_le_mul_of_nonneg_right Ox (by decide)
  have hpp := hP i k Ox Ox
  apply (rg_made (T := fun v u => ∃ s, v = bgV (T2 ((i + k) % 4) + -(X i * Y k)) s ∧ SU u s (T2 ((i + k) % 4) + -(X i * Y k)).natAbs)) Rx Kx
  case hargs => exact Ax
  case h => exact fun w hw => badd_any (T2 ((i + k) % 4)) (-(X i * Y k)) _ _ (len_big Ox Ox) (len_big Ox Ox) w ((hsu2 _ Ox).at hw (List.Sublist.cons _ ((List.sublist_append_left _ _).trans (List.sublist_append_right _ _)))) (by rw [Int.natAbs_neg]; exact hSp.at hw (List.Sublist.cons _ (List.sublist_append_left _ _)))
  case hz => exact (fun _ h => by cases h; exact (sc _ (List.Sublist.append_left (List.Sublist.append_left (sc _ (sc _ (sc _ (sc _ sn)))) _) _)))
  rintro _ uN ⟨sN, rfl, hSN⟩
  obtain ⟨⟨daN, dcN, rfl⟩, -⟩ := id hSN
  simp only [qz]
  refine rf_indexA (n := (i + k) % 4) (sz := 2) (j := 0 + ((i + k) % 4) * 2) rfl rfl rfl rfl Try.underlying71 Kx Ox rfl ?_
  simp only [qz]
  refine rf_storeRM (n := 2) rfl rfl Kx rfl rfl (UpdR.app _ (UpdR.there _ (UpdR.app _ (UpdR.app _ (UpdR.here _ _ _ (show 0 + ((i + k) % 4) * 2 + 2 ≤ 9 by omega)))))) ((sc _ (List.Sublist.append_left (List.Sublist.append_left (sk _ (sc _ (sc _ (sc _ sn)))) _) _)).trans (List.sublist_append_right _ _)) ?_
  simp only [qz, Nat.reduceAdd]
  refine rg_nil (ek_block (ek_next ?_))
  refine wk_region [0, 0, 0] rfl Kx ?_
  simp only [qy]
  refine rg_move ?_
  simp only [qz]
  refine rf_add rfl rfl rfl rfl (wrap_ok Ox Ox) ?_
  simp only [qz]
  refine rg_assign ?_
  simp only [qz]
  refine rg_nil ?_
  refine ek_sub (List.Sublist.append_left (sk _ ((List.Sublist.append_left (sc _ (sc _ (sc _ (sc _ sn)))) _).trans (List.sublist_append_right _ _))) _) ?_
  refine ek_roundF (4 - (k + 1)) Ox Kx ?_
  exact ⟨k + 1, upd T2 ((i + k) % 4) (T2 ((i + k) % 4) + -(X i * Y k)), upd da2 ((i + k) % 4) daN, upd dc2 ((i + k) % 4) dcN, uN ++ u2, rfl, (by rw [List.append_assoc, wd_set' Ox]), by rfl, Ox, (Lib.hid (by rw [acc_step Ox hac2.out, if_pos Ox])), (su_upd hsu2 hSN)⟩

def ProdB (x y : Nm) : Prop := ∀ i k, i < 4 → k < 4 → -1231312693637327475383720003129487931408741852202045208373384168882678805359287831606695820465153613775207124697088 ≤ sel4 x.a x.b x.c x.d i * sel4 y.a y.b y.c y.d k ∧ sel4 x.a x.b x.c x.d i * sel4 y.a y.b y.c y.d k ≤ 1231312693637327475383720003129487931408741852202045208373384168882678805359287831606695820465153613775207124697088
theorem prodB_ok {x y : Nm} (hx : x.Fit 1000000000) (hy : y.Fit 1000000000) : ProdB x y := by
  obtain ⟨a1, a2, a3, a4, a5, a6, a7, a8⟩ := hx
  obtain ⟨b1, b2, b3, b4, b5, b6, b7, b8⟩ := hy
  have key : ∀ a b : Int, -1000000000 ≤ a → a ≤ 1000000000 → -1000000000 ≤ b → b ≤ 1000000000 → -1231312693637327475383720003129487931408741852202045208373384168882678805359287831606695820465153613775207124697088 ≤ a * b ∧ a * b ≤ 1231312693637327475383720003129487931408741852202045208373384168882678805359287831606695820465153613775207124697088 := fun a b h1 h2 h3 h4 => by
    have := mul_le h1 h2 h3 h4
    omega
  intro i k hi hk
  rcases lt4 hi with rfl | rfl | rfl | rfl <;> rcases lt4 hk with rfl | rfl | rfl | rfl <;> exact key _ _ (by assumption) (by assumption) (by assumption) (by assumption)
theorem wtimes_any (x y : Nm) (s0 s1 s2 s3 p0 p1 p2 p3 : Value) (hx : x.Fit 9850501549098619803069760025035903451269934817616361666987073351061430442874302652853566563721228910201656997576704) (hy : y.Fit 9850501549098619803069760025035903451269934817616361666987073351061430442874302652853566563721228910201656997576704) (hP : ProdB x y) (hk : 0 ≤ x.k) (hk1 : x.k ≤ 10000) (hk2 : 0 ≤ y.k) (hk3 : y.k ≤ 10000) (w : World) (hs : SA4 w x s0 s1 s2 s3) (hs2 : SA4 w y p0 p1 p2 p3) :
    Calls Try.prog 108 #[wdV x s0 s1 s2 s3, wdV y p0 p1 p2 p3] w fun e w' => RetW w (x.mulR y) e w' := by
  obtain ⟨⟨a0, c0, rfl⟩, ⟨a1, c1, rfl⟩, ⟨a2, c2, rfl⟩, ⟨a3, c3, rfl⟩⟩ := (⟨hs.a.form, hs.b.form, hs.c.form, hs.d.form⟩ : _ ∧ _ ∧ _ ∧ _)
  obtain ⟨⟨b0, d0, rfl⟩, ⟨b1, d1, rfl⟩, ⟨b2, d2, rfl⟩, ⟨b3, d3, rfl⟩⟩ := (⟨hs2.a.form, hs2.b.form, hs2.c.form, hs2.d.form⟩ : _ ∧ _ ∧ _ ∧ _)
  obtain ⟨la, lb, lc, ld⟩ := fit_big hx
  obtain ⟨ma, mb, mc, md⟩ := fit_big hy
  refine (wtimes_core (sel4 x.a x.b x.c x.d) (sel4 y.a y.b y.c y.d) (sel4 a0 a1 a2 a3) (sel4 b0 b1 b2 b3) (sel4 c0 c1 c2 c3) (sel4 d0 d1 d2 d3) x.k y.k (sel_cases la lb lc ld) (sel_cases ma mb mc md) hP hk hk1 hk2 hk3 w (sel_cases hs.a hs.b hs.c hs.d) (sel_cases hs2.a hs2.b hs2.c hs2.d)).mono ?_
  rintro e w' ⟨v, u, he, ⟨sa, sc, hv, hsu⟩, hm⟩
  rw [← acc_16 x y]
  exact ⟨v, u, he, ⟨_, _, _, _, hv, ⟨hsu 0 (by decide), hsu 1 (by decide), hsu 2 (by decide), hsu 3 (by decide)⟩⟩, hm⟩
end Go.Proofs.Ytjeijnjaleldkaa
namespace Go.Proofs.Ytjeijnjaleldkaa
set_option linter.all false
open Go.RowKit

/-- The first n products of rows i and j, brought to the exponent K. -/
def rowS (xs : List Nm) (N : Nat) (K : Int) (i j : Nat) : Nat → Nat → Int
  | 0 => fun _ => 0
  | n + 1 => fun m => rowS xs N K i j n m + acc (acc (sel4 1 0 0 0) (sel4 ((nm xs (i * N + n)).to K).a ((nm xs (i * N + n)).to K).b ((nm xs (i * N + n)).to K).c ((nm xs (i * N + n)).to K).d) 16)
      (sel4 ((nm xs (j * N + n)).to K).a (-((nm xs (j * N + n)).to K).d) (-((nm xs (j * N + n)).to K).c) (-((nm xs (j * N + n)).to K).b)) 16 m
def wantS (K : Int) (i j : Nat) : Nat → Int := if i = j then upd (fun _ => 0) 0 (2 ^ K.toNat) else fun _ => 0
theorem sm_over {T T' : Nat → Int} : setMany (smC T) 0 (smC T').toList = smC T' := by kernel_rfl
theorem pow40 {k : Nat} (h : k ≤ 40) : 1 ≤ (2 : Int) ^ k ∧ (2 : Int) ^ k ≤ 1099511627776 := by
  have h1 := Nat.pow_le_pow_right (n := 2) (by omega) h
  have h2 := Nat.one_le_two_pow (n := k)
  have e : ((2 ^ k : Nat) : Int) = (2 : Int) ^ k := by simp
  have e2 : (2 : Nat) ^ 40 = 1099511627776 := by decide
  omega
theorem entry_fit {xs : List Nm} {N : Nat} {K : Int} (hok : allOk xs = true) (hlen : xs.length = N * N) (hN : N ≤ 6) {i k : Nat} (hi : i < N) (hk : k < N) (hK : K ≤ 40) (hKz : ∀ z ∈ xs, z.k ≤ K) :
    (nm xs (i * N + k)).Fit 1000000000 ∧ 0 ≤ (nm xs (i * N + k)).k ∧ (nm xs (i * N + k)).k ≤ K ∧ ((nm xs (i * N + k)).to K).Fit 1048576000000000 := by
  have hx := ix_small hi hN
  have hlt : i * N + k < xs.length := by omega
  have h := ok_at hok hlt
  have hm := hKz _ (NmE.at_mem hlt)
  refine ⟨h.fit, h.k0, hm, ?_⟩
  unfold Nm.to
  exact Nm.up40_fit h.fit (by have := h.k0; omega)
set_option maxRecDepth 100000 in
set_option maxHeartbeats 2000000 in
theorem unitary_walk (N : Nat) (K : Int) (xs : List Nm) (a : Option Addr) (c : Nat) (hN1 : 1 ≤ N) (hN : N ≤ 6) (hlen : Hid (xs.length = N * N)) (hl36 : xs.length ≤ 36) (hok : allOk xs = true) (hv : Hid (validB N xs = true)) (hK : Hid (expo xs = K)) (hK0 : 0 ≤ K) (hK40 : K ≤ 40) (hKz : ∀ z ∈ xs, z.k ≤ K) (w : World) (hA : AS w a (nms xs)) : Calls Try.prog 35 #[.agg #[.int .i64 N, .slice a xs.length c]] w fun e w' => ∃ b, e = .returned (.tuple #[.bool b, .int .i64 0]) ∧ (b = true ↔ ∀ i j, i < N → j < N → smEq (rowS xs N K i j N) (wantS K i j) = true) ∧ Below w.heap.size w w' := by
  have hl : xs.length ≤ 1000000 := by omega
  go_enter Try.func35, Try.ntmps35
  refine wk_start ?_
  refine wk_seq ?_
  refine wk_region [1, 0, 0] rfl (by kernel_rfl) ?_
  simp only [qy]
  refine rg_new (cs := ?_) (ty := ?_) (by rfl) (fun w => ?_) (fun _ h => by cases h) (fun g1 => ?_); rotate_left 2
  focus (go_simp; rfl)
  simp only [qz]
  refine rg_assign ?_
  simp only [qz]
  refine rg_assign ?_
  simp only [qz]
  refine rg_nil (ek_next (wk_seq (wk_seq ?_)))
  refine wk_region [0, 1, 0] rfl (by kernel_rfl) ?_
  simp only [qy]
  refine rf_loadR (n := 2) rfl rfl rfl Try.underlying24 rfl (by kernel_rfl) (fun w hw => Kn.hd0 hw) rfl rfl ?_
  simp only [qz]
  apply rg_pure (by rfl) (by kernel_rfl)
  case hargs => (simp only [qm, qs, Act.eval]; exact rfl)
  case h => exact fun w hw => by have := mvalid_any N xs a c hl w (hA.kn0 hw); rw [hv.out] at this; exact this
  case hz => exact (fun _ h => by cases h)
  simp only [qz]
  refine rf_not rfl rfl rfl ?_
  simp only [qz]
  refine rg_nil (ek_next (wk_cond_f rfl (wk_skip (ek_next ?_))))
  refine wk_cutF [4, 5, 16, 17, 18, 19, 20] (fun f s => ∃ (gt : Nat), f 4 = .pointer (some ⟨gt, 0, none⟩) ∧ f 5 = .int .i64 K ∧ s = ((gt, .cells #[.int .i64 N, .slice a xs.length c] 83) :: ((g1, .cells #[.int .i64 N, .slice a xs.length c] 24) :: []))) ?_ ?_
  · refine wk_rt _ (by kernel_rfl) (sc _ sn) ?_
    refine rt_soft (i := 0) rfl (by kernel_rfl) (fun c d v a w h => by cases d <;> exact h) (sc _ sn) ?_
    refine rf_loadR (n := 2) rfl rfl rfl Try.underlying24 rfl (by kernel_rfl) (fun w hw => Kn.hd0 hw) rfl rfl ?_
    simp only [qz]
    refine rg_nil ?_
    refine ek_rt (sc _ sn) ?_
    refine rt_soft (i := 1) rfl (by kernel_rfl) (fun c d v a w h => by cases d <;> exact h) (sc _ sn) ?_
    refine rf_build (cs := fun a => #[cellAt (a.eval (.tmp 16)) 0, cellAt (a.eval (.tmp 16)) 1]) rfl rfl (by kernel_rfl) ?_
    simp only [qz]
    refine rg_nil ?_
    refine ek_rt (sc _ sn) ?_
    refine rt_soft (i := 2) rfl (by kernel_rfl) (fun c d v a w h => by cases d <;> exact h) (sc _ sn) ?_
    refine rf_field (n := 0) (j := 1) rfl rfl rfl Try.underlying24 rfl (by kernel_rfl) rfl ?_
    simp only [qz]
    refine rg_nil ?_
    refine ek_rt (sc _ sn) ?_
    refine rt_soft (i := 3) rfl (by kernel_rfl) (fun c d v a w h => by cases d <;> exact h) (sc _ sn) ?_
    refine rf_load rfl rfl rfl Try.underlying22 rfl (fun w hw => (Kn.hd0 hw).at rfl) ?_
    simp only [qz]
    refine rg_nil ?_
    refine ek_rt (sc _ sn) ?_
    refine rt_hard2 (i := 4) (j := 5) (by kernel_rfl) rfl rfl ?_ ?_
    · apply rg_pure (by rfl) (by kernel_rfl)
      case hargs => (simp only [qm, qs, Act.eval]; exact rfl)
      case h => exact fun w hw => by have := exponent_any xs a c hl w (hA.kn0 hw); rw [hK.out] at this; exact this
      case hz => exact (fun _ h => by cases h; exact (sc _ sn))
      simp only [qz]
      refine rg_nil ?_
      refine ek_rt (sc _ sn) ?_
      refine rt_hard1 (i := 5) (by kernel_rfl) rfl ?_
      refine rg_new (cs := ?_) (ty := ?_) (by rfl) (fun w => ?_) (fun _ h => by cases h; exact (sc _ sn)) (fun g2 => ?_); rotate_left 2
      focus (go_simp; rfl)
      simp only [qz]
      refine rg_nil ?_
      refine ek_rt (sk _ (sc _ sn)) ?_
      refine rt_hard1 (i := 6) (by kernel_rfl) rfl ?_
      refine rf_storeR (n := 2) rfl rfl (by kernel_rfl) rfl rfl (UpdR.here _ _ _ (Nat.le_of_ble_eq_true rfl)) (fun _ h => by cases h; exact (sk _ (sc _ sn))) ?_
      simp only [qz, Nat.reduceAdd]
      refine rg_nil ?_
      refine ek_rt (sk _ (sc _ sn)) ?_
      refine rt_soft (i := 7) rfl (by kernel_rfl) (fun c d v a w h => by cases d <;> exact h) (sk _ (sc _ sn)) ?_
      refine rg_assign ?_
      simp only [qz]
      refine rg_nil ?_
      refine ek_rt (sk _ (sc _ sn)) ?_
      refine rt_nil (by kernel_rfl) ?_
      refine ek_midF (by kernel_rfl) ?_
      exact ⟨g2, rfl, rfl, by rfl⟩
    refine rg_new (cs := ?_) (ty := ?_) (by rfl) (fun w => ?_) (fun _ h => by cases h; exact (sc _ sn)) (fun g3 => ?_); rotate_left 2
    focus (go_simp; rfl)
    simp only [qz]
    refine rg_nil ?_
    refine ek_rt (sk _ (sc _ sn)) ?_
    refine rt_hard1 (i := 4) (by kernel_rfl) rfl ?_
    apply rg_pure (by rfl) (by kernel_rfl)
    case hargs => (simp only [qm, qs, Act.eval]; exact rfl)
    case h => exact fun w hw => by have := exponent_any xs a c hl w (hA.kn0 hw); rw [hK.out] at this; exact this
    case hz => exact (fun _ h => by cases h; exact (sk _ (sc _ sn)))
    simp only [qz]
    refine rg_nil ?_
    refine ek_rt (sk _ (sc _ sn)) ?_
    refine rt_hard1 (i := 6) (by kernel_rfl) rfl ?_
    refine rf_storeR (n := 2) rfl rfl (by kernel_rfl) rfl rfl (UpdR.here _ _ _ (Nat.le_of_ble_eq_true rfl)) (fun _ h => by cases h; exact (sk _ (sc _ sn))) ?_
    simp only [qz, Nat.reduceAdd]
    refine rg_nil ?_
    refine ek_rt (sk _ (sc _ sn)) ?_
    refine rt_soft (i := 7) rfl (by kernel_rfl) (fun c d v a w h => by cases d <;> exact h) (sk _ (sc _ sn)) ?_
    refine rg_assign ?_
    simp only [qz]
    refine rg_nil ?_
    refine ek_rt (sk _ (sc _ sn)) ?_
    refine rt_nil (by kernel_rfl) ?_
    refine ek_midF (by kernel_rfl) ?_
    exact ⟨g3, rfl, rfl, by rfl⟩
  rintro f1 s ⟨gt, hs1_4, hs1_5, rfl⟩
  simp only [Act.putF, List.foldl_cons, List.foldl_nil, hs1_4, hs1_5, Act.put, Act.eval, q1, q2, q3, q4, q5, q6, q7, q8, q9, q10, q11, q12, q13, q14, q15, q16, q17, q18, Nat.reduceAdd, Bool.not_true, Bool.not_false]
  clear hs1_4 hs1_5
  refine wk_seq (wk_seq ?_)
  refine wk_region [0, 0, 0] rfl (by kernel_rfl) ?_
  simp only [qy]
  refine rf_field (n := 0) (j := 0) rfl rfl rfl Try.underlying24 rfl (by kernel_rfl) rfl ?_
  simp only [qz]
  refine rf_load rfl rfl rfl Try.underlying3 rfl (fun w hw => (Kn.hd0 (Kn.tl hw)).at rfl) ?_
  simp only [qz]
  refine rg_move ?_
  simp only [qz]
  refine rg_nil (ek_next (wk_block ?_))
  refine wk_loopF [2, 3, 6, 7, 8, 9, 10, 11, 12, 23, 24, 25, 26, 27, 28, 29, 30, 31, 32, 33, 34, 35, 36, 37, 38, 39, 40, 41, 42, 43, 44, 45, 46, 47, 48, 49, 50, 51, 52, 53, 54, 55, 56, 57, 58, 59, 60, 61, 62, 63, 64, 65, 66, 67, 68, 69, 70, 71, 72, 73, 74, 75, 76, 77, 78] (fun mz f s => ∃ (i : Nat), f 23 = .int .i64 i ∧ s = ((gt, .cells #[.int .i64 N, .slice a xs.length c] 83) :: ((g1, .cells #[.int .i64 N, .slice a xs.length c] 24) :: [])) ∧ mz = N - i ∧ i ≤ N ∧ (∀ i2, i2 < i → ∀ j2, j2 < N → smEq (rowS xs N K i2 j2 N) (wantS K i2 j2) = true)) ((fun (i : Nat) => N - i) (0)) ?_ (by kernel_rfl) ?_
  · exact ⟨0, rfl, rfl, rfl, by omega, fun _ h => by omega⟩
  rintro mz f2 s ⟨i, hs2_23, rfl, hn, hd1, hd2⟩
  simp only [Act.putF, List.foldl_cons, List.foldl_nil, hs2_23, Act.put, Act.eval, q1, q2, q3, q4, q5, q6, q7, q8, q9, q10, q11, q12, q13, q14, q15, q16, q17, q18, Nat.reduceAdd, Bool.not_true, Bool.not_false]
  clear hs2_23
  refine wk_seq ?_
  refine wk_region [0] rfl (by kernel_rfl) ?_
  simp only [qy]
  refine rfb_lss rfl rfl rfl rfl ?_
  intro x h1
  cases x
  · (try simp only [qd, ne_eq] at h1)
    simp only [qz]
    refine rg_nil (ek_next (wk_seq (wk_cond_f rfl (wk_exit (ek_then_exit (ek_then_exit (ek_block_exit (ek_next (wk_seq ?_)))))))))
    refine wk_region [0, 0] rfl (by kernel_rfl) ?_
    simp only [qy]
    refine rg_assign ?_
    simp only [qz]
    refine rg_assign ?_
    simp only [qz]
    refine rg_nil (ek_next (wk_ret ?_))
    refine ek_ret (fun w hw => ⟨rfl, _, res_tt _ _ rfl, ?_⟩)
    (try simp only [qz])
    exact ⟨true, rfl, ⟨fun _ i2 j2 hi hj => hd2 i2 (by omega) j2 hj, fun _ => rfl⟩, hw.below⟩
  (try simp only [qd, ne_eq] at h1)
  simp only [qz]
  refine rg_nil (ek_next (wk_seq (wk_cond_t rfl (wk_skip (ek_next (wk_seq (wk_block (wk_seq ?_))))))))
  refine wk_region [0, 0] rfl (by kernel_rfl) ?_
  simp only [qy]
  refine rg_move ?_
  simp only [qz]
  refine rg_assign ?_
  simp only [qz]
  refine rg_nil (ek_next (wk_seq ?_))
  refine wk_region [0, 0, 0] rfl (by kernel_rfl) ?_
  simp only [qy]
  refine rf_field (n := 0) (j := 0) rfl rfl rfl Try.underlying24 rfl (by kernel_rfl) rfl ?_
  simp only [qz]
  refine rf_load rfl rfl rfl Try.underlying3 rfl (fun w hw => (Kn.hd0 (Kn.tl hw)).at rfl) ?_
  simp only [qz]
  refine rg_move ?_
  simp only [qz]
  refine rg_nil (ek_next (wk_block ?_))
  refine wk_loopF [2, 3, 7, 8, 9, 10, 11, 12, 28, 29, 30, 31, 32, 33, 34, 35, 36, 37, 38, 39, 40, 41, 42, 43, 44, 45, 46, 47, 48, 49, 50, 51, 52, 53, 54, 55, 56, 57, 58, 59, 60, 61, 62, 63, 64, 65, 66, 67, 68, 69, 70, 71, 72, 73, 74, 75, 76, 77] (fun mz f s => ∃ (j : Nat), f 28 = .int .i64 j ∧ s = ((gt, .cells #[.int .i64 N, .slice a xs.length c] 83) :: ((g1, .cells #[.int .i64 N, .slice a xs.length c] 24) :: [])) ∧ mz = N - j ∧ j ≤ N ∧ (∀ j2, j2 < j → smEq (rowS xs N K i j2 N) (wantS K i j2) = true)) ((fun (j : Nat) => N - j) (0)) ?_ (by kernel_rfl) ?_
  · exact ⟨0, rfl, rfl, rfl, by omega, fun _ h => by omega⟩
  rintro mz f3 s ⟨j, hs3_28, rfl, hn, he1, he2⟩
  simp only [Act.putF, List.foldl_cons, List.foldl_nil, hs3_28, Act.put, Act.eval, q1, q2, q3, q4, q5, q6, q7, q8, q9, q10, q11, q12, q13, q14, q15, q16, q17, q18, Nat.reduceAdd, Bool.not_true, Bool.not_false]
  clear hs3_28
  refine wk_seq ?_
  refine wk_region [0] rfl (by kernel_rfl) ?_
  simp only [qy]
  refine rfb_lss rfl rfl rfl rfl ?_
  intro x h2
  cases x
  · (try simp only [qd, ne_eq] at h2)
    simp only [qz]
    refine rg_nil (ek_next (wk_seq (wk_cond_f rfl (wk_exit (ek_then_exit (ek_then_exit (ek_block_exit (ek_block (ek_next ?_)))))))))
    refine wk_region [0, 0] rfl (by kernel_rfl) ?_
    simp only [qy]
    refine rf_add rfl rfl rfl rfl (wrap_ok (by omega) (by omega)) ?_
    simp only [qz]
    refine rg_move ?_
    simp only [qz]
    refine rg_nil ?_
    obtain rfl : N = j := by omega
    refine ek_roundF (N - (i + 1)) (by omega) (by kernel_rfl) ?_
    exact ⟨i + 1, rfl, by rfl, by rfl, (by omega), (fun i2 hi2 j2 hj2 => by rcases (by omega : i2 < i ∨ i2 = i) with h | rfl; exact hd2 i2 h j2 hj2; exact he2 j2 hj2)⟩
  (try simp only [qd, ne_eq] at h2)
  simp only [qz]
  refine rg_nil (ek_next (wk_seq (wk_cond_t rfl (wk_skip (ek_next (wk_seq (wk_block (wk_seq ?_))))))))
  refine wk_region [0, 0] rfl (by kernel_rfl) ?_
  simp only [qy]
  refine rg_move ?_
  simp only [qz]
  refine rg_assign ?_
  simp only [qz]
  refine rg_nil (ek_next (wk_seq ?_))
  refine wk_region [1, 1] rfl (by kernel_rfl) ?_
  simp only [qy]
  refine rg_new (cs := ?_) (ty := ?_) (by rfl) (fun w => ?_) (fun _ h => by cases h) (fun g4 => ?_); rotate_left 2
  focus (go_simp; rfl)
  simp only [qz]
  refine rg_new (cs := ?_) (ty := ?_) (by rfl) (fun w => ?_) (fun _ h => by cases h) (fun g5 => ?_); rotate_left 2
  focus (go_simp; rfl)
  simp only [qz]
  refine rg_nil (ek_next (wk_seq (wk_seq ?_)))
  rw [sm_zero]
  refine wk_region [0, 0, 0] rfl (by kernel_rfl) ?_
  simp only [qy]
  refine rf_field (n := 0) (j := 0) rfl rfl rfl Try.underlying24 rfl (by kernel_rfl) rfl ?_
  simp only [qz]
  refine rf_load rfl rfl rfl Try.underlying3 rfl (fun w hw => (Kn.hd0 (Kn.tl (Kn.tl (Kn.tl hw)))).at rfl) ?_
  simp only [qz]
  refine rg_move ?_
  simp only [qz]
  refine rg_nil (ek_next (wk_block ?_))
  refine wk_loopF [10, 11, 12, 33, 34, 35, 36, 37, 38, 39, 40, 41, 42, 43, 44, 45, 46, 47, 48, 49, 50, 51, 52, 53, 54, 55, 56, 57, 58, 59, 60, 61, 62, 63, 64, 65, 66] (fun mz f s => ∃ (n : Nat), f 33 = .int .i64 n ∧ s = ((g5, .cells (smC fun _ => 0) 107) :: ((g4, .cells (smC (rowS xs N K i j n)) 107) :: ((gt, .cells #[.int .i64 N, .slice a xs.length c] 83) :: ((g1, .cells #[.int .i64 N, .slice a xs.length c] 24) :: [])))) ∧ mz = N - n ∧ n ≤ N) ((fun (n : Nat) => N - n) (0)) ?_ (by kernel_rfl) ?_
  · exact ⟨0, rfl, rfl, rfl, by omega⟩
  rintro mz f4 s ⟨n, hs4_33, rfl, hn, hf1⟩
  simp only [Act.putF, List.foldl_cons, List.foldl_nil, hs4_33, Act.put, Act.eval, q1, q2, q3, q4, q5, q6, q7, q8, q9, q10, q11, q12, q13, q14, q15, q16, q17, q18, Nat.reduceAdd, Bool.not_true, Bool.not_false]
  clear hs4_33
  refine wk_seq ?_
  refine wk_region [0] rfl (by kernel_rfl) ?_
  simp only [qy]
  refine rfb_lss rfl rfl rfl rfl ?_
  intro x h3
  cases x
  · (try simp only [qd, ne_eq] at h3)
    simp only [qz]
    refine rg_nil (ek_next (wk_seq (wk_cond_f rfl (wk_exit (ek_then_exit (ek_then_exit (ek_block_exit (ek_next (wk_seq (wk_seq ?_))))))))))
    obtain rfl : N = n := by omega
    refine wk_region [0, 0, 0] rfl (by kernel_rfl) ?_
    simp only [qy]
    refine rg_move ?_
    simp only [qz]
    refine rg_move ?_
    simp only [qz]
    refine rfb_eql rfl rfl rfl rfl ?_
    intro x h4
    cases x
    · (try simp only [qd, ne_eq] at h4)
      simp only [qz]
      refine rg_nil (ek_next (wk_cond_f rfl (wk_skip (ek_next (wk_seq ?_)))))
      refine wk_region [0, 0, 0] rfl (by kernel_rfl) ?_
      simp only [qy]
      refine rf_loadC (n := 24) (vs := (smC (rowS xs N K i j N)).toList) rfl rfl rfl Try.underlying107 rfl (by kernel_rfl) rfl (fun w hw => sm_all (Kn.hd0 (Kn.tl hw))) ?_
      rw [show (smC (rowS xs N K i j N)).toList.toArray = smC (rowS xs N K i j N) by simp]
      simp only [qz]
      refine rf_loadC (n := 24) (vs := (smC (fun _ => 0)).toList) rfl rfl rfl Try.underlying107 rfl (by kernel_rfl) rfl (fun w hw => sm_all (Kn.hd0 hw)) ?_
      rw [show (smC (fun _ => 0)).toList.toArray = smC (fun _ => 0) by simp]
      simp only [qz]
      refine rfb_neS (rowS xs N K i j N) (fun _ => 0) rfl rfl rfl rfl ?_
      intro x h5
      cases x
      · (try simp only [qd, ne_eq] at h5)
        simp only [qz]
        have hgood : smEq (rowS xs N K i j N) (wantS K i j) = true := by (unfold wantS; rw [if_neg (by omega)]; simpa using h5)
        refine rg_nil (ek_next (wk_cond_f rfl (wk_skip (ek_block (ek_next ?_)))))
        refine wk_region [0, 0] rfl (by kernel_rfl) ?_
        simp only [qy]
        refine rf_add rfl rfl rfl rfl (wrap_ok (by omega) (by omega)) ?_
        simp only [qz]
        refine rg_move ?_
        simp only [qz]
        refine rg_nil ?_
        refine ek_sub (sk _ (sk _ (sc _ (sc _ sn)))) ?_
        refine ek_roundF (N - (j + 1)) (by omega) (by kernel_rfl) ?_
        exact ⟨j + 1, rfl, by rfl, by rfl, (by omega), (fun j2 hj2 => by rcases (by omega : j2 < j ∨ j2 = j) with h | rfl; exact he2 j2 h; exact hgood)⟩
      (try simp only [qd, ne_eq] at h5)
      simp only [qz]
      have hgood : smEq (rowS xs N K i j N) (wantS K i j) = false := by (unfold wantS; rw [if_neg (by omega)]; simpa using h5)
      refine rg_nil (ek_next (wk_cond_t rfl (wk_seq ?_)))
      refine wk_region [0, 0] rfl (by kernel_rfl) ?_
      simp only [qy]
      refine rg_assign ?_
      simp only [qz]
      refine rg_assign ?_
      simp only [qz]
      refine rg_nil (ek_next (wk_ret (ek_block_ret (ek_then_ret (ek_then_ret (ek_block_ret (ek_block_ret (ek_then_ret (ek_then_ret (ek_block_ret (ek_then_ret ?_)))))))))))
      refine ek_ret (fun w hw => ⟨rfl, _, res_tt _ _ rfl, ?_⟩)
      (try simp only [qz])
      exact ⟨false, rfl, ⟨fun h => (by cases h), fun h => by rw [h i j (by omega) (by omega)] at hgood; cases hgood⟩, hw.below⟩
    (try simp only [qd, ne_eq] at h4)
    simp only [qz]
    refine rg_nil (ek_next (wk_cond_t rfl ?_))
    have hpw := pow40 (k := K.toNat) (by omega)
    refine wk_region [0, 0, 1, 0, 1] rfl (by kernel_rfl) ?_
    simp only [qy]
    refine rg_move ?_
    simp only [qz]
    refine rf_shlV (c := K.toNat) (q := 2 ^ K.toNat) rfl rfl rfl rfl (by omega) (by show K.toNat ≤ 64; omega) rfl (r := 2 ^ K.toNat) (by rw [Int.one_mul]; exact wrap_ok (by omega) (by omega)) ?_
    simp only [qz]
    apply rg_pure (by rfl) (by kernel_rfl)
    case hargs => (simp only [qm, qs, Act.eval]; exact rfl)
    case h => exact fun w hw => w6whole_any (2 ^ K.toNat) (by omega) (by omega) w
    case hz => exact (fun _ h => by cases h)
    simp only [qz]
    refine rf_indexA (n := 0) (sz := 6) (j := 0) rfl rfl rfl rfl Try.underlying107 (by kernel_rfl) (by decide) rfl ?_
    simp only [qz]
    refine rf_storeR (n := 6) (vs := w6L (W6.of (2 ^ K.toNat))) rfl rfl (by kernel_rfl) rfl rfl (UpdR.here _ _ _ (Nat.le_of_ble_eq_true rfl)) (fun _ h => by cases h) ?_
    rw [show setMany (smC fun _ => 0) 0 (w6L (W6.of (2 ^ K.toNat))) = smC (upd (fun _ => 0) 0 (2 ^ K.toNat)) from sm_set (m := 0) (by decide)]
    simp only [qz, Nat.reduceAdd]
    refine rg_nil (ek_next (wk_seq ?_))
    refine wk_region [0, 0, 0] rfl (by kernel_rfl) ?_
    simp only [qy]
    refine rf_loadC (n := 24) (vs := (smC (rowS xs N K i j N)).toList) rfl rfl rfl Try.underlying107 rfl (by kernel_rfl) rfl (fun w hw => sm_all (Kn.hd0 (Kn.tl hw))) ?_
    rw [show (smC (rowS xs N K i j N)).toList.toArray = smC (rowS xs N K i j N) by simp]
    simp only [qz]
    refine rf_loadC (n := 24) (vs := (smC (upd (fun _ => 0) 0 (2 ^ K.toNat))).toList) rfl rfl rfl Try.underlying107 rfl (by kernel_rfl) rfl (fun w hw => sm_all (Kn.hd0 hw)) ?_
    rw [show (smC (upd (fun _ => 0) 0 (2 ^ K.toNat))).toList.toArray = smC (upd (fun _ => 0) 0 (2 ^ K.toNat)) by simp]
    simp only [qz]
    refine rfb_neS (rowS xs N K i j N) (upd (fun _ => 0) 0 (2 ^ K.toNat)) rfl rfl rfl rfl ?_
    intro x h6
    cases x
    · (try simp only [qd, ne_eq] at h6)
      simp only [qz]
      have hgood : smEq (rowS xs N K i j N) (wantS K i j) = true := by (unfold wantS; rw [if_pos (by omega)]; simpa using h6)
      refine rg_nil (ek_next (wk_cond_f rfl (wk_skip (ek_block (ek_next ?_)))))
      refine wk_region [0, 0] rfl (by kernel_rfl) ?_
      simp only [qy]
      refine rf_add rfl rfl rfl rfl (wrap_ok (by omega) (by omega)) ?_
      simp only [qz]
      refine rg_move ?_
      simp only [qz]
      refine rg_nil ?_
      refine ek_sub (sk _ (sk _ (sc _ (sc _ sn)))) ?_
      refine ek_roundF (N - (j + 1)) (by omega) (by kernel_rfl) ?_
      exact ⟨j + 1, rfl, by rfl, by rfl, (by omega), (fun j2 hj2 => by rcases (by omega : j2 < j ∨ j2 = j) with h | rfl; exact he2 j2 h; exact hgood)⟩
    (try simp only [qd, ne_eq] at h6)
    simp only [qz]
    have hgood : smEq (rowS xs N K i j N) (wantS K i j) = false := by (unfold wantS; rw [if_pos (by omega)]; simpa using h6)
    refine rg_nil (ek_next (wk_cond_t rfl (wk_seq ?_)))
    refine wk_region [0, 0] rfl (by kernel_rfl) ?_
    simp only [qy]
    refine rg_assign ?_
    simp only [qz]
    refine rg_assign ?_
    simp only [qz]
    refine rg_nil (ek_next (wk_ret (ek_block_ret (ek_then_ret (ek_then_ret (ek_block_ret (ek_block_ret (ek_then_ret (ek_then_ret (ek_block_ret (ek_then_ret ?_)))))))))))
    refine ek_ret (fun w hw => ⟨rfl, _, res_tt _ _ rfl, ?_⟩)
    (try simp only [qz])
    exact ⟨false, rfl, ⟨fun h => (by cases h), fun h => by rw [h i j (by omega) (by omega)] at hgood; cases hgood⟩, hw.below⟩
  (try simp only [qd, ne_eq] at h3)
  simp only [qz]
  refine rg_nil (ek_next (wk_seq (wk_cond_t rfl (wk_skip (ek_next (wk_seq (wk_block (wk_seq ?_))))))))
  refine wk_region [0, 0] rfl (by kernel_rfl) ?_
  simp only [qy]
  refine rg_move ?_
  simp only [qz]
  refine rg_assign ?_
  simp only [qz]
  refine rg_nil (ek_next (wk_seq ?_))
  have fj := entry_fit (xs := xs) (N := N) (K := K) hok hlen.out hN (i := j) (k := n) (by omega) (by omega) hK40 hKz
  obtain ⟨fa0, fa1, fb0, fb1, fc0, fc1, fd0, fd1⟩ := id fj.2.2.2
  have fi := entry_fit (xs := xs) (N := N) (K := K) hok hlen.out hN (i := i) (k := n) (by omega) (by omega) hK40 hKz
  obtain ⟨ga0, ga1, gb0, gb1, gc0, gc1, gd0, gd1⟩ := id fi.2.2.2
  refine wk_region [0, 0, 0, 1, 0, 1, 1, 1] rfl (by kernel_rfl) ?_
  simp only [qy]
  refine rf_loadR (n := 2) rfl rfl rfl Try.underlying83 rfl (by kernel_rfl) (fun w hw => Kn.hd0 (Kn.tl (Kn.tl hw))) rfl rfl ?_
  simp only [qz]
  refine rg_move ?_
  simp only [qz]
  refine rg_move ?_
  simp only [qz]
  apply rg_pure (by rfl) (by kernel_rfl)
  case hargs => (simp only [qm, qs, Act.eval]; exact rfl)
  case h => exact fun w hw => at_any N j n xs a c hlen.out hN (by omega) (by omega) w (hA.kn0 hw)
  case hz => exact (fun _ h => by cases h)
  simp only [qz]
  refine rg_move ?_
  simp only [qz]
  apply rg_pure (by rfl) (by kernel_rfl)
  case hargs => (simp only [qm, qs, Act.eval]; exact rfl)
  case h => exact fun w hw => scaled_any (nm xs (j * N + n)) K fj.1 fj.2.1 fj.2.2.1 hK40 w
  case hz => exact (fun _ h => by cases h)
  simp only [qz]
  refine rg_new (cs := ?_) (ty := ?_) (by rfl) (fun w => ?_) (fun _ h => by cases h) (fun g6 => ?_); rotate_left 2
  focus (go_simp; rfl)
  simp only [qz]
  refine rf_storeR (n := 4) rfl rfl (by kernel_rfl) rfl rfl (UpdR.here _ _ _ (Nat.le_of_ble_eq_true rfl)) (fun _ h => by cases h) ?_
  simp only [qz, Nat.reduceAdd]
  refine rg_nil (ek_next (wk_seq ?_))
  refine wk_region [0, 0, 0, 0, 0, 0, 0, 0, 0, 0, 0, 0, 1, 1] rfl (by kernel_rfl) ?_
  simp only [qy]
  refine rf_indexA (n := 0) (sz := 1) (j := 0) rfl rfl rfl rfl Try.underlying27 (by kernel_rfl) (by decide) rfl ?_
  simp only [qz]
  refine rf_load rfl rfl rfl Try.underlying3 rfl (fun w hw => (Kn.hd0 hw).at rfl) ?_
  simp only [qz]
  refine rf_indexA (n := 3) (sz := 1) (j := 3) rfl rfl rfl rfl Try.underlying27 (by kernel_rfl) (by decide) rfl ?_
  simp only [qz]
  refine rf_load rfl rfl rfl Try.underlying3 rfl (fun w hw => (Kn.hd0 hw).at rfl) ?_
  simp only [qz]
  refine rf_neg rfl rfl rfl (wrap_ok (by omega) (by omega)) ?_
  simp only [qz]
  refine rf_indexA (n := 2) (sz := 1) (j := 2) rfl rfl rfl rfl Try.underlying27 (by kernel_rfl) (by decide) rfl ?_
  simp only [qz]
  refine rf_load rfl rfl rfl Try.underlying3 rfl (fun w hw => (Kn.hd0 hw).at rfl) ?_
  simp only [qz]
  refine rf_neg rfl rfl rfl (wrap_ok (by omega) (by omega)) ?_
  simp only [qz]
  refine rf_indexA (n := 1) (sz := 1) (j := 1) rfl rfl rfl rfl Try.underlying27 (by kernel_rfl) (by decide) rfl ?_
  simp only [qz]
  refine rf_load rfl rfl rfl Try.underlying3 rfl (fun w hw => (Kn.hd0 hw).at rfl) ?_
  simp only [qz]
  refine rf_neg rfl rfl rfl (wrap_ok (by omega) (by omega)) ?_
  simp only [qz]
  refine rf_build (cs := fun a => #[a.eval (.tmp 43), a.eval (.tmp 46), a.eval (.tmp 49), a.eval (.tmp 52)]) rfl rfl (by kernel_rfl) ?_
  simp only [qz]
  refine rg_new (cs := ?_) (ty := ?_) (by rfl) (fun w => ?_) (fun _ h => by cases h) (fun g7 => ?_); rotate_left 2
  focus (go_simp; rfl)
  simp only [qz]
  refine rf_storeR (n := 4) rfl rfl (by kernel_rfl) rfl rfl (UpdR.here _ _ _ (Nat.le_of_ble_eq_true rfl)) (fun _ h => by cases h) ?_
  simp only [qz, Nat.reduceAdd]
  refine rg_nil (ek_next ?_)
  refine wk_draws_m (hz1 := (sc _ (sc _ (sc _ (sk _ (sc _ (sc _ sn))))))) [(0, 0), (2, 0), (3, 0), (4, 0), (6, 0), (9, 0), (1, 1), (5, 1), (7, 1), (8, 1), (10, 1), (11, 1), (12, 2)] 12 (by kernel_rfl) (by kernel_rfl) (fun c d v a w h => by cases d <;> exact h) ?_
  simp only [List.map_cons, List.map_nil, List.getD_cons_zero, List.getD_cons_succ]
  refine rf_loadC (n := 24) (vs := (smC (rowS xs N K i j n)).toList) rfl rfl rfl Try.underlying107 rfl (by kernel_rfl) rfl (fun w hw => sm_all (Kn.hd0 (Kn.tl (Kn.tl (Kn.tl hw))))) ?_
  rw [show (smC (rowS xs N K i j n)).toList.toArray = smC (rowS xs N K i j n) by simp]
  simp only [qz]
  refine rf_loadR (n := 2) rfl rfl rfl Try.underlying83 rfl (by kernel_rfl) (fun w hw => Kn.hd0 (Kn.tl (Kn.tl (Kn.tl (Kn.tl hw))))) rfl rfl ?_
  simp only [qz]
  refine rg_move ?_
  simp only [qz]
  refine rg_move ?_
  simp only [qz]
  refine rg_move ?_
  simp only [qz]
  refine rf_loadR (n := 4) rfl rfl rfl Try.underlying27 rfl (by kernel_rfl) (fun w hw => Kn.hd0 hw) rfl rfl ?_
  simp only [qz]
  apply rg_pure (by rfl) (by kernel_rfl)
  case hargs => (simp only [qm, qs, Act.eval]; exact rfl)
  case h => exact fun w hw => smone_any w
  case hz => exact (fun _ h => by cases h; exact (sc _ (sc _ (sc _ (sc _ (sc _ (sc _ sn)))))))
  simp only [qz]
  apply rg_pure (by rfl) (by kernel_rfl)
  case hargs => (simp only [qm, qs, Act.eval]; exact rfl)
  case h => exact fun w hw => at_any N i n xs a c hlen.out hN (by omega) (by omega) w (hA.kn0 hw)
  case hz => exact (fun _ h => by cases h; exact (sc _ (sc _ (sc _ (sc _ (sc _ (sc _ sn)))))))
  simp only [qz]
  apply rg_pure (by rfl) (by kernel_rfl)
  case hargs => (simp only [qm, qs, Act.eval]; exact rfl)
  case h => exact fun w hw => scaled_any (nm xs (i * N + n)) K fi.1 fi.2.1 fi.2.2.1 hK40 w
  case hz => exact (fun _ h => by cases h; exact (sc _ (sc _ (sc _ (sc _ (sc _ (sc _ sn)))))))
  simp only [qz]
  apply rg_pure (by rfl) (by kernel_rfl)
  case hargs => (simp only [qm, qs, Act.eval]; exact rfl)
  case h => exact fun w hw => smtimes_any (sel4 1 0 0 0) (sel4 ((nm xs (i * N + n)).to K).a ((nm xs (i * N + n)).to K).b ((nm xs (i * N + n)).to K).c ((nm xs (i * N + n)).to K).d) (sel_cases (by simp only [sel4]; omega) (by simp only [sel4]; omega) (by simp only [sel4]; omega) (by simp only [sel4]; omega)) w
  case hz => exact (fun _ h => by cases h; exact (sc _ (sc _ (sc _ (sc _ (sc _ (sc _ sn)))))))
  simp only [qz]
  apply rg_pure (by rfl) (by kernel_rfl)
  case hargs => (simp only [qm, qs, Act.eval]; exact rfl)
  case h => exact fun w hw => smtimes_any (acc (sel4 1 0 0 0) (sel4 ((nm xs (i * N + n)).to K).a ((nm xs (i * N + n)).to K).b ((nm xs (i * N + n)).to K).c ((nm xs (i * N + n)).to K).d) 16) (sel4 ((nm xs (j * N + n)).to K).a (-((nm xs (j * N + n)).to K).d) (-((nm xs (j * N + n)).to K).c) (-((nm xs (j * N + n)).to K).b)) (sel_cases (by simp only [sel4]; omega) (by simp only [sel4]; omega) (by simp only [sel4]; omega) (by simp only [sel4]; omega)) w
  case hz => exact (fun _ h => by cases h; exact (sc _ (sc _ (sc _ (sc _ (sc _ (sc _ sn)))))))
  simp only [qz]
  apply rg_pure (by rfl) (by kernel_rfl)
  case hargs => (simp only [qm, qs, Act.eval]; exact rfl)
  case h => exact fun w hw => smplus_any (rowS xs N K i j n) (acc (acc (sel4 1 0 0 0) (sel4 ((nm xs (i * N + n)).to K).a ((nm xs (i * N + n)).to K).b ((nm xs (i * N + n)).to K).c ((nm xs (i * N + n)).to K).d) 16) (sel4 ((nm xs (j * N + n)).to K).a (-((nm xs (j * N + n)).to K).d) (-((nm xs (j * N + n)).to K).c) (-((nm xs (j * N + n)).to K).b)) 16) w
  case hz => exact (fun _ h => by cases h; exact (sc _ (sc _ (sc _ (sc _ (sc _ (sc _ sn)))))))
  simp only [qz]
  refine rf_storeRM (n := 24) (vs := (smC (rowS xs N K i j (n + 1))).toList) rfl rfl (by kernel_rfl) rfl rfl (UpdR.there _ (UpdR.there _ (UpdR.there _ (UpdR.here _ _ _ (Nat.le_of_ble_eq_true rfl))))) (sc _ (sc _ (sc _ (sk _ (sc _ (sc _ sn)))))) ?_
  rw [sm_over]
  simp only [qz]
  refine rg_nil (ek_block (ek_next ?_))
  refine wk_region [0, 0] rfl (by kernel_rfl) ?_
  simp only [qy]
  refine rf_add rfl rfl rfl rfl (wrap_ok (by omega) (by omega)) ?_
  simp only [qz]
  refine rg_move ?_
  simp only [qz]
  refine rg_nil ?_
  refine ek_sub (sk _ (sk _ (sc _ (sc _ (sc _ (sc _ sn)))))) ?_
  refine ek_roundF (N - (n + 1)) (by omega) (by kernel_rfl) ?_
  exact ⟨n + 1, rfl, by rfl, by rfl, (by omega)⟩

end Go.Proofs.Ytjeijnjaleldkaa
namespace Go.Proofs.Ytjeijnjaleldkaa
set_option linter.all false
open Go.RowKit

theorem tr_len {z : Nm} (h : z.Fit 9850501549098619803069760025035903451269934817616361666987073351061430442874302652853566563721228910201656997576704) : (digs z.tr.a.natAbs).length ≤ 1000 ∧ (digs z.tr.b.natAbs).length ≤ 1000 ∧ (digs z.tr.c.natAbs).length ≤ 1000 ∧ (digs z.tr.d.natAbs).length ≤ 1000 := by
  obtain ⟨h1, h2, h3, h4, h5, h6, h7, h8⟩ := h
  simp only [Nm.tr]
  exact ⟨len_big Ox Ox, len_big Ox Ox, len_big Ox Ox, len_big Ox Ox⟩
set_option maxRecDepth 100000 in
set_option maxHeartbeats 2000000 in
theorem wnum_any (z : Nm) (s0 s1 s2 s3 : Value) (hz : z.Fit 9850501549098619803069760025035903451269934817616361666987073351061430442874302652853566563721228910201656997576704) (hk : 0 ≤ z.k) (hk1 : z.k ≤ 10000) (w : World) (hs : SA4 w z s0 s1 s2 s3) : Calls Try.prog 60 #[wdV z s0 s1 s2 s3] w fun e w' => e = .returned (.tuple #[nmV (wnum z).1, .bool (wnum z).2]) ∧ Below w.heap.size w w' := by
  obtain ⟨⟨a0, c0, rfl⟩, ⟨a1, c1, rfl⟩, ⟨a2, c2, rfl⟩, ⟨a3, c3, rfl⟩⟩ := (⟨hs.a.form, hs.b.form, hs.c.form, hs.d.form⟩ : _ ∧ _ ∧ _ ∧ _)
  go_enter Try.func60, Try.ntmps60
  refine wk_start ?_
  refine wk_seq ?_
  refine wk_region [1, 1, 0] rfl Kx ?_
  simp only [qy]
  refine Rgn fun g1 => ?_
  simp only [qz]
  refine Rgn fun g2 => ?_
  simp only [qz]
  refine rg_assign ?_
  simp only [qz]
  refine rg_nil (ek_next ?_)
  refine wk_cutF [4, 5, 10, 11, 12, 13, 14, 15, 16, 17, 18, 19, 20, 21, 22, 23, 24, 25, 26, 27, 28, 29, 30, 31, 32, 33, 34, 35, 36, 37, 38, 39, 40, 41, 42, 43, 44, 45, 46, 47, 48, 49, 50, 51] (fun f s => ∃ (y : Nm) (ta0 ta1 ta2 ta3 : Option Addr) (tc0 tc1 tc2 tc3 : Nat) (u : List Blk), s = (u ++ ((g2, .cells #[.int .i64 0, .int .i64 0, .int .i64 0, .int .i64 0, .int .i64 0] 29) :: ((g1, .cells #[.bool (decide (y.a < 0)), .slice ta0 (digs y.a.natAbs).length tc0, .bool (decide (y.b < 0)), .slice ta1 (digs y.b.natAbs).length tc1, .bool (decide (y.c < 0)), .slice ta2 (digs y.c.natAbs).length tc2, .bool (decide (y.d < 0)), .slice ta3 (digs y.d.natAbs).length tc3, .int .i64 y.k] 73) :: []))) ∧ Hid (y.nf = z.nf) ∧ y.nf = y ∧ SK4 w u y (.slice ta0 (digs y.a.natAbs).length tc0) (.slice ta1 (digs y.b.natAbs).length tc1) (.slice ta2 (digs y.c.natAbs).length tc2) (.slice ta3 (digs y.d.natAbs).length tc3) ∧ y.Fit 9850501549098619803069760025035903451269934817616361666987073351061430442874302652853566563721228910201656997576704) ?_ ?_
  · refine wk_block ?_
    refine wk_loopF [4, 5, 10, 11, 12, 13, 14, 15, 16, 17, 18, 19, 20, 21, 22, 23, 24, 25, 26, 27, 28, 29, 30, 31, 32, 33, 34, 35, 36, 37, 38, 39, 40, 41, 42, 43, 44, 45, 46, 47, 48, 49, 50, 51] (fun mz f s => ∃ (y : Nm) (ta0 ta1 ta2 ta3 : Option Addr) (tc0 tc1 tc2 tc3 : Nat) (u : List Blk), s = (u ++ ((g2, .cells #[.int .i64 0, .int .i64 0, .int .i64 0, .int .i64 0, .int .i64 0] 29) :: ((g1, .cells #[.bool (decide (y.a < 0)), .slice ta0 (digs y.a.natAbs).length tc0, .bool (decide (y.b < 0)), .slice ta1 (digs y.b.natAbs).length tc1, .bool (decide (y.c < 0)), .slice ta2 (digs y.c.natAbs).length tc2, .bool (decide (y.d < 0)), .slice ta3 (digs y.d.natAbs).length tc3, .int .i64 y.k] 73) :: []))) ∧ mz = y.k.toNat ∧ Hid (y.nf = z.nf) ∧ SK4 w u y (.slice ta0 (digs y.a.natAbs).length tc0) (.slice ta1 (digs y.b.natAbs).length tc1) (.slice ta2 (digs y.c.natAbs).length tc2) (.slice ta3 (digs y.d.natAbs).length tc3) ∧ y.Fit 9850501549098619803069760025035903451269934817616361666987073351061430442874302652853566563721228910201656997576704 ∧ 0 ≤ y.k ∧ y.k ≤ 10000) ((fun (y : Nm) (ta0 ta1 ta2 ta3 : Option Addr) (tc0 tc1 tc2 tc3 : Nat) (u : List Blk) => y.k.toNat) (z) (a0) (a1) (a2) (a3) (c0) (c1) (c2) (c3) ([])) ?_ Kx ?_
    · exact ⟨z, a0, a1, a2, a3, c0, c1, c2, c3, [], rfl, rfl, Lib.hid rfl, SK4.arg hs, hz, hk, hk1⟩
    rintro mz f1 s ⟨y, ta0, ta1, ta2, ta3, tc0, tc1, tc2, tc3, u, rfl, hn, hd1, hd2, hd3, hd4, hd5⟩
    simp only [Act.putF, List.foldl_cons, List.foldl_nil, Act.put, Act.eval, q1, q2, q3, q4, q5, q6, q7, q8, q9, q10, q11, q12, q13, q14, q15, q16, q17, q18, Nat.reduceAdd, Bool.not_true, Bool.not_false]
    have hnf := hd1
    have hsk := hd2
    have hfit := hd3
    clear hd1 hd2 hd3
    refine wk_seq (wk_seq ?_)
    refine wk_region [0, 0, 0, 0, 0, 0, 0, 0, 0, 0, 1, 1, 0, 0, 0, 0, 0, 0, 0, 0, 1, 1, 0] rfl Kx ?_
    simp only [qy]
    refine rf_field (n := 0) (j := 8) rfl rfl rfl Try.underlying73 rfl Kx rfl ?_
    simp only [qz]
    refine rf_load rfl rfl rfl Try.underlying3 rfl (fun w hw => (Kn.hd0 (Kn.tl (Kn.tlU hw))).at rfl) ?_
    simp only [qz]
    refine rfb_gtr rfl rfl rfl rfl ?_
    intro x h1
    cases x
    · (try simp only [qd, ne_eq] at h1)
      simp only [qz]
      refine rg_move ?_
      simp only [qz]
      refine rg_skip Rx ?_
      simp only [qz]
      refine rg_skip Rx ?_
      simp only [qz]
      refine rg_skip Rx ?_
      simp only [qz]
      refine rg_skip Rx ?_
      simp only [qz]
      refine rg_skip Rx ?_
      simp only [qz]
      refine rg_skip Rx ?_
      simp only [qz]
      refine rg_skip_h Rx Nz ?_
      simp only [qz]
      refine rg_skip_h Rx Nz ?_
      simp only [qz]
      refine rf_pick rfl rfl rfl ?_
      simp only [qz]
      refine rg_move ?_
      simp only [qz]
      refine rg_skip Rx ?_
      simp only [qz]
      refine rg_skip Rx ?_
      simp only [qz]
      refine rg_skip Rx ?_
      simp only [qz]
      refine rg_skip Rx ?_
      simp only [qz]
      refine rg_skip Rx ?_
      simp only [qz]
      refine rg_skip Rx ?_
      simp only [qz]
      refine rg_skip_h Rx Nz ?_
      simp only [qz]
      refine rg_skip_h Rx Nz ?_
      simp only [qz]
      refine rf_pick rfl rfl rfl ?_
      simp only [qz]
      refine rg_nil (ek_next (wk_cond_f rfl (wk_exit (ek_then_exit (ek_then_exit (ek_block_exit ?_))))))
      refine ek_midF Kx ?_
      exact ⟨y, ta0, ta1, ta2, ta3, tc0, tc1, tc2, tc3, u, by rfl, hnf, (nf_stop (fun hh => by have := hh.1; have := hh.2.1; have := hh.2.2; omega)), hsk, hfit⟩
    (try simp only [qd, ne_eq] at h1)
    simp only [qz]
    refine rg_move ?_
    simp only [qz]
    refine rf_field (n := 7) (j := 0) rfl rfl rfl Try.underlying73 rfl Kx rfl ?_
    simp only [qz]
    refine rf_indexA (n := 0) (sz := 2) (j := 0) rfl rfl rfl rfl Try.underlying71 Kx (by decide) rfl ?_
    simp only [qz]
    refine rf_loadR (n := 2) rfl rfl rfl Try.underlying70 rfl Kx (fun w hw => Kn.hd0 (Kn.tl (Kn.tlU hw))) rfl rfl ?_
    simp only [qz]
    refine rf_field (n := 7) (j := 0) rfl rfl rfl Try.underlying73 rfl Kx rfl ?_
    simp only [qz]
    refine rf_indexA (n := 2) (sz := 2) (j := 4) rfl rfl rfl rfl Try.underlying71 Kx (by decide) rfl ?_
    simp only [qz]
    refine rf_loadR (n := 2) rfl rfl rfl Try.underlying70 rfl Kx (fun w hw => Kn.hd0 (Kn.tl (Kn.tlU hw))) rfl rfl ?_
    simp only [qz]
    obtain ⟨la, lb, lc, ld⟩ := fit_big hfit
    obtain ⟨fa0, fa1, fb0, fb1, fc0, fc1, fd0, fd1⟩ := id hfit
    apply (rg_made (T := fun v u => ∃ s, v = bgV (y.a + y.c) s ∧ SU u s (y.a + y.c).natAbs)) Rx Kx
    case hargs => exact Ax
    case h => exact fun w hw => badd_any y.a y.c _ _ la lc w (hsk.a.at hw (List.sublist_append_left _ _)) (hsk.c.at hw (List.sublist_append_left _ _))
    case hz => exact Nz
    rintro _ u3 ⟨s3, rfl, hS3⟩
    obtain ⟨⟨sa3, sc3, rfl⟩, -⟩ := id hS3
    simp only [qz]
    apply rg_pureb Rx Kx
    case hargs => exact Ax
    case h => exact fun w hw => beven_any (y.a + y.c) _ (len_big Ox Ox) w (hS3.at hw (List.sublist_append_left _ _))
    case hz => exact Nz
    intro x h2
    cases x
    · (try simp only [qd, ne_eq] at h2)
      simp only [qz]
      refine rf_pick rfl rfl rfl ?_
      simp only [qz]
      refine rg_move ?_
      simp only [qz]
      refine rg_skip Rx ?_
      simp only [qz]
      refine rg_skip Rx ?_
      simp only [qz]
      refine rg_skip Rx ?_
      simp only [qz]
      refine rg_skip Rx ?_
      simp only [qz]
      refine rg_skip Rx ?_
      simp only [qz]
      refine rg_skip Rx ?_
      simp only [qz]
      refine rg_skip_h Rx Nz ?_
      simp only [qz]
      refine rg_skip_h Rx Nz ?_
      simp only [qz]
      refine rf_pick rfl rfl rfl ?_
      simp only [qz]
      refine rg_nil (ek_next (wk_cond_f rfl (wk_exit (ek_then_exit (ek_then_exit (ek_block_exit ?_))))))
      refine ek_sub ((List.Sublist.append_left (sc _ (sc _ sn)) _).trans (List.sublist_append_right _ _)) ?_
      refine ek_midF Kx ?_
      exact ⟨y, ta0, ta1, ta2, ta3, tc0, tc1, tc2, tc3, u, by rfl, hnf, (nf_stop (fun hh => by have := hh.1; have := hh.2.1; have := hh.2.2; omega)), hsk, hfit⟩
    (try simp only [qd, ne_eq] at h2)
    simp only [qz]
    refine rf_pick rfl rfl rfl ?_
    simp only [qz]
    refine rg_move ?_
    simp only [qz]
    refine rf_field (n := 7) (j := 0) rfl rfl rfl Try.underlying73 rfl Kx rfl ?_
    simp only [qz]
    refine rf_indexA (n := 1) (sz := 2) (j := 2) rfl rfl rfl rfl Try.underlying71 Kx (by decide) rfl ?_
    simp only [qz]
    refine rf_loadR (n := 2) rfl rfl rfl Try.underlying70 rfl Kx (fun w hw => Kn.hd0 (Kn.tl (Kn.tlU (Kn.tlU hw)))) rfl rfl ?_
    simp only [qz]
    refine rf_field (n := 7) (j := 0) rfl rfl rfl Try.underlying73 rfl Kx rfl ?_
    simp only [qz]
    refine rf_indexA (n := 3) (sz := 2) (j := 6) rfl rfl rfl rfl Try.underlying71 Kx (by decide) rfl ?_
    simp only [qz]
    refine rf_loadR (n := 2) rfl rfl rfl Try.underlying70 rfl Kx (fun w hw => Kn.hd0 (Kn.tl (Kn.tlU (Kn.tlU hw)))) rfl rfl ?_
    simp only [qz]
    apply (rg_made (T := fun v u => ∃ s, v = bgV (y.b + y.d) s ∧ SU u s (y.b + y.d).natAbs)) Rx Kx
    case hargs => exact Ax
    case h => exact fun w hw => badd_any y.b y.d _ _ lb ld w (hsk.b.at hw ((List.sublist_append_left _ _).trans (List.sublist_append_right _ _))) (hsk.d.at hw ((List.sublist_append_left _ _).trans (List.sublist_append_right _ _)))
    case hz => exact Nz
    rintro _ u4 ⟨s4, rfl, hS4⟩
    obtain ⟨⟨sa4, sc4, rfl⟩, -⟩ := id hS4
    simp only [qz]
    apply rg_pureb Rx Kx
    case hargs => exact Ax
    case h => exact fun w hw => beven_any (y.b + y.d) _ (len_big Ox Ox) w (hS4.at hw (List.sublist_append_left _ _))
    case hz => exact Nz
    intro x h3
    cases x
    · (try simp only [qd, ne_eq] at h3)
      simp only [qz]
      refine rf_pick rfl rfl rfl ?_
      simp only [qz]
      refine rg_nil (ek_next (wk_cond_f rfl (wk_exit (ek_then_exit (ek_then_exit (ek_block_exit ?_))))))
      refine ek_sub (((List.Sublist.append_left (sc _ (sc _ sn)) _).trans (List.sublist_append_right _ _)).trans (List.sublist_append_right _ _)) ?_
      refine ek_midF Kx ?_
      exact ⟨y, ta0, ta1, ta2, ta3, tc0, tc1, tc2, tc3, u, by rfl, hnf, (nf_stop (fun hh => by have := hh.1; have := hh.2.1; have := hh.2.2; omega)), hsk, hfit⟩
    (try simp only [qd, ne_eq] at h3)
    simp only [qz]
    refine rf_pick rfl rfl rfl ?_
    simp only [qz]
    refine rg_nil (ek_next (wk_cond_t rfl (wk_skip (ek_next (wk_block (wk_seq ?_))))))
    refine wk_region [0, 0, 1, 1, 1] rfl Kx ?_
    simp only [qy]
    refine rf_field (n := 7) (j := 0) rfl rfl rfl Try.underlying73 rfl Kx rfl ?_
    simp only [qz]
    refine rf_loadR (n := 8) rfl rfl rfl Try.underlying71 rfl Kx (fun w hw => Kn.hd0 (Kn.tl (Kn.tlU (Kn.tlU (Kn.tlU hw))))) rfl rfl ?_
    simp only [qz]
    apply (rg_made (T := fun v u => ∃ s0 s1 s2 s3, v = arV (y.tr) s0 s1 s2 s3 ∧ SU4 u (y.tr) s0 s1 s2 s3)) Rx Kx
    case hargs => exact Ax
    case h => exact fun w hw => timesR_any y _ _ _ _ hfit w (hsk.at hw (((List.sublist_append_left _ _).trans (List.sublist_append_right _ _)).trans (List.sublist_append_right _ _)))
    case hz => exact Nz
    rintro _ u5 ⟨t0, t1, t2, t3, rfl, hS5⟩
    obtain ⟨⟨ta5_0, tc5_0, rfl⟩, -⟩ := id hS5.a
    obtain ⟨⟨ta5_1, tc5_1, rfl⟩, -⟩ := id hS5.b
    obtain ⟨⟨ta5_2, tc5_2, rfl⟩, -⟩ := id hS5.c
    obtain ⟨⟨ta5_3, tc5_3, rfl⟩, -⟩ := id hS5.d
    simp only [qz]
    obtain ⟨ma, mb, mc, md⟩ := tr_len hfit
    refine Rgn fun g6 => ?_
    simp only [qz]
    refine rf_storeR (n := 8) rfl rfl Kx rfl rfl (UpdR.here _ _ _ Nl) Nz ?_
    simp only [qz, Nat.reduceAdd]
    refine rg_nil (ek_next (wk_seq (wk_seq ?_)))
    refine wk_region [0] rfl Kx ?_
    simp only [qy]
    refine rg_assign ?_
    simp only [qz]
    refine rg_nil (ek_next (wk_block ?_))
    refine wk_unroll 4 ?_
    refine wk_seq (wk_seq ?_)
    refine wk_region [0, 0] rfl Kx ?_
    simp only [qy]
    refine rg_move ?_
    simp only [qz]
    refine rf_lss (b := true) rfl rfl rfl rfl (by decide) ?_
    simp only [qz]
    refine rg_nil (ek_next (wk_cond_t rfl (wk_skip (ek_next (wk_seq (wk_block ?_))))))
    refine wk_region [0, 0, 0, 0, 1, 0, 1] rfl Kx ?_
    simp only [qy]
    refine rg_move ?_
    simp only [qz]
    refine rg_move ?_
    simp only [qz]
    refine rf_indexA (n := 0) (sz := 2) (j := 0) rfl rfl rfl rfl Try.underlying71 Kx (by decide) rfl ?_
    simp only [qz]
    refine rf_loadR (n := 2) rfl rfl rfl Try.underlying70 rfl Kx (fun w hw => Kn.hd0 hw) rfl rfl ?_
    simp only [qz]
    apply (rg_made (T := fun v u => ∃ s, v = bgV (y.tr.a / 2) s ∧ SU u s (y.tr.a / 2).natAbs)) Rx Kx
    case hargs => exact Ax
    case h => exact fun w hw => bhalf_any y.tr.a _ ma (by simp only [Nm.tr]; omega) w (hS5.a.at hw (List.Sublist.cons _ (List.sublist_append_left _ _)))
    case hz => exact Nz
    rintro _ u7 ⟨s7, rfl, hS7⟩
    obtain ⟨⟨sa7, sc7, rfl⟩, -⟩ := id hS7
    simp only [qz]
    refine rf_indexA (n := 0) (sz := 2) (j := 0) rfl rfl rfl rfl Try.underlying71 Kx (by decide) rfl ?_
    simp only [qz]
    refine rf_storeR (n := 2) rfl rfl Kx rfl rfl (UpdR.app _ (UpdR.here _ _ _ Nl)) Nz ?_
    simp only [qz, Nat.reduceAdd]
    refine rg_nil (ek_block (ek_next ?_))
    refine wk_region [0, 0, 0] rfl Kx ?_
    simp only [qy]
    refine rg_move ?_
    simp only [qz]
    refine rf_add (r := 1) rfl rfl rfl rfl (by decide) ?_
    simp only [qz]
    refine rg_assign ?_
    simp only [qz]
    refine rg_nil (ek_again (wk_seq (wk_seq ?_)))
    refine wk_region [0, 0] rfl Kx ?_
    simp only [qy]
    refine rg_move ?_
    simp only [qz]
    refine rf_lss (b := true) rfl rfl rfl rfl (by decide) ?_
    simp only [qz]
    refine rg_nil (ek_next (wk_cond_t rfl (wk_skip (ek_next (wk_seq (wk_block ?_))))))
    refine wk_region [0, 0, 0, 0, 1, 0, 1] rfl Kx ?_
    simp only [qy]
    refine rg_move ?_
    simp only [qz]
    refine rg_move ?_
    simp only [qz]
    refine rf_indexA (n := 1) (sz := 2) (j := 2) rfl rfl rfl rfl Try.underlying71 Kx (by decide) rfl ?_
    simp only [qz]
    refine rf_loadR (n := 2) rfl rfl rfl Try.underlying70 rfl Kx (fun w hw => Kn.hd0 (Kn.tlU hw)) rfl rfl ?_
    simp only [qz]
    apply (rg_made (T := fun v u => ∃ s, v = bgV (y.tr.b / 2) s ∧ SU u s (y.tr.b / 2).natAbs)) Rx Kx
    case hargs => exact Ax
    case h => exact fun w hw => bhalf_any y.tr.b _ mb (by simp only [Nm.tr]; omega) w (hS5.b.at hw ((List.Sublist.cons _ (List.sublist_append_left _ _)).trans (List.sublist_append_right _ _)))
    case hz => exact Nz
    rintro _ u8 ⟨s8, rfl, hS8⟩
    obtain ⟨⟨sa8, sc8, rfl⟩, -⟩ := id hS8
    simp only [qz]
    refine rf_indexA (n := 1) (sz := 2) (j := 2) rfl rfl rfl rfl Try.underlying71 Kx (by decide) rfl ?_
    simp only [qz]
    refine rf_storeR (n := 2) rfl rfl Kx rfl rfl (UpdR.app _ (UpdR.app _ (UpdR.here _ _ _ Nl))) Nz ?_
    simp only [qz, Nat.reduceAdd]
    refine rg_nil (ek_block (ek_next ?_))
    refine wk_region [0, 0, 0] rfl Kx ?_
    simp only [qy]
    refine rg_move ?_
    simp only [qz]
    refine rf_add (r := 2) rfl rfl rfl rfl (by decide) ?_
    simp only [qz]
    refine rg_assign ?_
    simp only [qz]
    refine rg_nil (ek_again (wk_seq (wk_seq ?_)))
    refine wk_region [0, 0] rfl Kx ?_
    simp only [qy]
    refine rg_move ?_
    simp only [qz]
    refine rf_lss (b := true) rfl rfl rfl rfl (by decide) ?_
    simp only [qz]
    refine rg_nil (ek_next (wk_cond_t rfl (wk_skip (ek_next (wk_seq (wk_block ?_))))))
    refine wk_region [0, 0, 0, 0, 1, 0, 1] rfl Kx ?_
    simp only [qy]
    refine rg_move ?_
    simp only [qz]
    refine rg_move ?_
    simp only [qz]
    refine rf_indexA (n := 2) (sz := 2) (j := 4) rfl rfl rfl rfl Try.underlying71 Kx (by decide) rfl ?_
    simp only [qz]
    refine rf_loadR (n := 2) rfl rfl rfl Try.underlying70 rfl Kx (fun w hw => Kn.hd0 (Kn.tlU (Kn.tlU hw))) rfl rfl ?_
    simp only [qz]
    apply (rg_made (T := fun v u => ∃ s, v = bgV (y.tr.c / 2) s ∧ SU u s (y.tr.c / 2).natAbs)) Rx Kx
    case hargs => exact Ax
    case h => exact fun w hw => bhalf_any y.tr.c _ mc (by simp only [Nm.tr]; omega) w (hS5.c.at hw (((List.Sublist.cons _ (List.sublist_append_left _ _)).trans (List.sublist_append_right _ _)).trans (List.sublist_append_right _ _)))
    case hz => exact Nz
    rintro _ u9 ⟨s9, rfl, hS9⟩
    obtain ⟨⟨sa9, sc9, rfl⟩, -⟩ := id hS9
    simp only [qz]
    refine rf_indexA (n := 2) (sz := 2) (j := 4) rfl rfl rfl rfl Try.underlying71 Kx (by decide) rfl ?_
    simp only [qz]
    refine rf_storeR (n := 2) rfl rfl Kx rfl rfl (UpdR.app _ (UpdR.app _ (UpdR.app _ (UpdR.here _ _ _ Nl)))) Nz ?_
    simp only [qz, Nat.reduceAdd]
    refine rg_nil (ek_block (ek_next ?_))
    refine wk_region [0, 0, 0] rfl Kx ?_
    simp only [qy]
    refine rg_move ?_
    simp only [qz]
    refine rf_add (r := 3) rfl rfl rfl rfl (by decide) ?_
    simp only [qz]
    refine rg_assign ?_
    simp only [qz]
    refine rg_nil (ek_again (wk_seq (wk_seq ?_)))
    refine wk_region [0, 0] rfl Kx ?_
    simp only [qy]
    refine rg_move ?_
    simp only [qz]
    refine rf_lss (b := true) rfl rfl rfl rfl (by decide) ?_
    simp only [qz]
    refine rg_nil (ek_next (wk_cond_t rfl (wk_skip (ek_next (wk_seq (wk_block ?_))))))
    refine wk_region [0, 0, 0, 0, 1, 0, 1] rfl Kx ?_
    simp only [qy]
    refine rg_move ?_
    simp only [qz]
    refine rg_move ?_
    simp only [qz]
    refine rf_indexA (n := 3) (sz := 2) (j := 6) rfl rfl rfl rfl Try.underlying71 Kx (by decide) rfl ?_
    simp only [qz]
    refine rf_loadR (n := 2) rfl rfl rfl Try.underlying70 rfl Kx (fun w hw => Kn.hd0 (Kn.tlU (Kn.tlU (Kn.tlU hw)))) rfl rfl ?_
    simp only [qz]
    apply (rg_made (T := fun v u => ∃ s, v = bgV (y.tr.d / 2) s ∧ SU u s (y.tr.d / 2).natAbs)) Rx Kx
    case hargs => exact Ax
    case h => exact fun w hw => bhalf_any y.tr.d _ md (by simp only [Nm.tr]; omega) w (hS5.d.at hw ((((List.Sublist.cons _ (List.sublist_append_left _ _)).trans (List.sublist_append_right _ _)).trans (List.sublist_append_right _ _)).trans (List.sublist_append_right _ _)))
    case hz => exact Nz
    rintro _ u10 ⟨s10, rfl, hS10⟩
    obtain ⟨⟨sa10, sc10, rfl⟩, -⟩ := id hS10
    simp only [qz]
    refine rf_indexA (n := 3) (sz := 2) (j := 6) rfl rfl rfl rfl Try.underlying71 Kx (by decide) rfl ?_
    simp only [qz]
    refine rf_storeR (n := 2) rfl rfl Kx rfl rfl (UpdR.app _ (UpdR.app _ (UpdR.app _ (UpdR.app _ (UpdR.here _ _ _ Nl))))) Nz ?_
    simp only [qz, Nat.reduceAdd]
    refine rg_nil (ek_block (ek_next ?_))
    refine wk_region [0, 0, 0] rfl Kx ?_
    simp only [qy]
    refine rg_move ?_
    simp only [qz]
    refine rf_add (r := 4) rfl rfl rfl rfl (by decide) ?_
    simp only [qz]
    refine rg_assign ?_
    simp only [qz]
    refine rg_nil (ek_again (wk_seq (wk_seq ?_)))
    refine wk_region [0, 0] rfl Kx ?_
    simp only [qy]
    refine rg_move ?_
    simp only [qz]
    refine rf_lss (b := false) rfl rfl rfl rfl (by decide) ?_
    simp only [qz]
    refine rg_nil (ek_next (wk_cond_f rfl (wk_exit (ek_then_exit (ek_then_exit (ek_block_exit (ek_next ?_)))))))
    refine wk_region [0, 0, 0, 0, 0, 1, 0, 1] rfl Kx ?_
    simp only [qy]
    refine rf_loadR (n := 8) rfl rfl rfl Try.underlying71 rfl Kx (fun w hw => Kn.hd0 (Kn.tlU (Kn.tlU (Kn.tlU (Kn.tlU hw))))) rfl rfl ?_
    simp only [qz]
    refine rf_field (n := 0) (j := 8) rfl rfl rfl Try.underlying73 rfl Kx rfl ?_
    simp only [qz]
    refine rf_load rfl rfl rfl Try.underlying3 rfl (fun w hw => (Kn.hd0 (Kn.tl (Kn.tlU (Kn.tlU (Kn.tlU (Kn.tlU (Kn.tl (Kn.tlU (Kn.tlU (Kn.tlU (Kn.tlU hw))))))))))).at rfl) ?_
    simp only [qz]
    refine rf_sub rfl rfl rfl rfl (wrap_ok Ox Ox) ?_
    simp only [qz]
    refine rf_field (n := 7) (j := 0) rfl rfl rfl Try.underlying73 rfl Kx rfl ?_
    simp only [qz]
    refine rf_storeR (n := 8) rfl rfl Kx rfl rfl (UpdR.app _ (UpdR.app _ (UpdR.app _ (UpdR.app _ (UpdR.there _ (UpdR.app _ (UpdR.app _ (UpdR.app _ (UpdR.app _ (UpdR.there _ (UpdR.here _ _ _ Nl))))))))))) Nz ?_
    simp only [qz, Nat.reduceAdd]
    refine rf_field (n := 0) (j := 8) rfl rfl rfl Try.underlying73 rfl Kx rfl ?_
    simp only [qz]
    refine rf_store rfl rfl Kx rfl rfl (UpdR.app _ (UpdR.app _ (UpdR.app _ (UpdR.app _ (UpdR.there _ (UpdR.app _ (UpdR.app _ (UpdR.app _ (UpdR.app _ (UpdR.there _ (UpdR.here _ _ _ Nl))))))))))) Nz ?_
    simp only [qz]
    refine rg_nil (ek_block ?_)
    refine ek_sub (List.Sublist.append_left (List.Sublist.append_left (List.Sublist.append_left (List.Sublist.append_left (sk _ (((((sc _ (sc _ sn)).trans (List.sublist_append_right _ _)).trans (List.sublist_append_right _ _)).trans (List.sublist_append_right _ _)).trans (List.sublist_append_right _ _))) _) _) _) _) ?_
    refine ek_roundF (y.step.k.toNat) ((by simp only [Nm.step]; omega)) Kx ?_
    exact ⟨y.step, sa7, sa8, sa9, sa10, sc7, sc8, sc9, sc10, (u10 ++ (u9 ++ (u8 ++ u7))), (by simp only [List.append_assoc]; rfl), by rfl, (Lib.hid ((nf_step Ox ⟨by omega, by omega⟩).symm.trans hnf.out)), ⟨(SK.own (hS7.mono ((((List.Sublist.refl _).trans (List.sublist_append_right _ _)).trans (List.sublist_append_right _ _)).trans (List.sublist_append_right _ _)))), (SK.own (hS8.mono (((List.sublist_append_left _ _).trans (List.sublist_append_right _ _)).trans (List.sublist_append_right _ _)))), (SK.own (hS9.mono ((List.sublist_append_left _ _).trans (List.sublist_append_right _ _)))), (SK.own (hS10.mono (List.sublist_append_left _ _)))⟩, (Nm.step_fit hfit), (by simp only [Nm.step]; omega), (by simp only [Nm.step]; omega)⟩
  rintro f1 s ⟨y, ta0, ta1, ta2, ta3, tc0, tc1, tc2, tc3, u, rfl, hnf, hst, hsk, hfit⟩
  simp only [Act.putF, List.foldl_cons, List.foldl_nil, Act.put, Act.eval, q1, q2, q3, q4, q5, q6, q7, q8, q9, q10, q11, q12, q13, q14, q15, q16, q17, q18, Nat.reduceAdd, Bool.not_true, Bool.not_false]
  have hyz : y = z.nf := hst.symm.trans hnf.out
  replace hyz := Lib.hid hyz
  clear hst hnf
  obtain ⟨la, lb, lc, ld⟩ := fit_big hfit
  refine wk_seq ?_
  refine wk_region [0, 0, 0, 1, 1] rfl Kx ?_
  simp only [qy]
  refine rf_field (n := 0) (j := 8) rfl rfl rfl Try.underlying73 rfl Kx rfl ?_
  simp only [qz]
  refine rf_load rfl rfl rfl Try.underlying3 rfl (fun w hw => (Kn.hd0 (Kn.tl (Kn.tlU hw))).at rfl) ?_
  simp only [qz]
  refine rf_build (cs := fun a => #[.int .i64 0, .int .i64 0, .int .i64 0, .int .i64 0, a.eval (.tmp 53)]) rfl rfl Kx ?_
  simp only [qz]
  refine Rgn fun g11 => ?_
  simp only [qz]
  refine rf_storeR (n := 5) rfl rfl Kx rfl rfl (UpdR.here _ _ _ Nl) Nz ?_
  simp only [qz, Nat.reduceAdd]
  refine rg_nil (ek_next (wk_seq (wk_seq ?_)))
  refine wk_region [0] rfl Kx ?_
  simp only [qy]
  refine rg_assign ?_
  simp only [qz]
  refine rg_nil (ek_next (wk_block ?_))
  refine wk_unroll 4 ?_
  refine wk_seq (wk_seq ?_)
  refine wk_region [0, 0] rfl Kx ?_
  simp only [qy]
  refine rg_move ?_
  simp only [qz]
  refine rf_lss (b := true) rfl rfl rfl rfl (by decide) ?_
  simp only [qz]
  refine rg_nil (ek_next (wk_cond_t rfl (wk_skip (ek_next (wk_seq (wk_block (wk_seq ?_)))))))
  refine wk_region [0, 0, 0, 0, 1, 0, 0, 0, 0, 0] rfl Kx ?_
  simp only [qy]
  refine rg_move ?_
  simp only [qz]
  refine rf_field (n := 7) (j := 0) rfl rfl rfl Try.underlying73 rfl Kx rfl ?_
  simp only [qz]
  refine rf_indexA (n := 0) (sz := 2) (j := 0) rfl rfl rfl rfl Try.underlying71 Kx (by decide) rfl ?_
  simp only [qz]
  refine rf_loadR (n := 2) rfl rfl rfl Try.underlying70 rfl Kx (fun w hw => Kn.hd0 (Kn.tl (Kn.tlU (Kn.tl hw)))) rfl rfl ?_
  simp only [qz]
  cases hq0 : smB y.a
  · apply rg_pure Rx Kx
    case hargs => exact Ax
    case h => exact fun w hw => by have := bsmall_any y.a _ la w (hsk.a.at hw (List.Sublist.cons _ (List.sublist_append_left _ _))); rw [hq0] at this; exact this
    case hz => exact Nz
    simp only [qz]
    refine rg_move ?_
    simp only [qz]
    refine rf_extract rfl rfl rfl rfl ?_
    simp only [qz]
    refine rf_extract rfl rfl rfl rfl ?_
    simp only [qz]
    refine rg_assign ?_
    simp only [qz]
    refine rg_assign ?_
    simp only [qz]
    refine rg_nil (ek_next (wk_seq (wk_seq ?_)))
    refine wk_region [0, 0] rfl Kx ?_
    simp only [qy]
    refine rg_move ?_
    simp only [qz]
    refine rf_not rfl rfl rfl ?_
    simp only [qz]
    refine rg_nil (ek_next (wk_cond_t rfl (wk_seq ?_)))
    refine wk_region [0, 1, 0] rfl Kx ?_
    simp only [qy]
    refine rf_build (cs := fun a => #[.int .i64 0, .int .i64 0, .int .i64 0, .int .i64 0, .int .i64 0]) rfl rfl Kx ?_
    simp only [qz]
    refine rf_storeR (n := 5) rfl rfl Kx rfl rfl (UpdR.there _ (UpdR.app _ (UpdR.here _ _ _ Nl))) Nz ?_
    simp only [qz, Nat.reduceAdd]
    refine rg_assign ?_
    simp only [qz]
    refine rg_nil (ek_next (wk_ret (ek_then_ret (ek_block_ret (ek_then_ret (ek_then_ret (ek_block_ret (ek_then_ret ?_))))))))
    refine ek_ret (fun w hw => ⟨rfl, _, run_results2 rfl rfl (Kn.hd0 (Kn.tlU (Kn.tl hw))) Try.underlying29 rfl Kx, ?_⟩)
    (try simp only [qz])
    exact ⟨by unfold wnum; rw [← hyz.out]; unfold numOk; simp [*, Nm.zero], hw.below⟩
  apply rg_pure Rx Kx
  case hargs => exact Ax
  case h => exact fun w hw => by have := bsmall_any y.a _ la w (hsk.a.at hw (List.Sublist.cons _ (List.sublist_append_left _ _))); rw [hq0] at this; exact this
  case hz => exact Nz
  simp only [qz]
  refine rg_move ?_
  simp only [qz]
  refine rf_extract rfl rfl rfl rfl ?_
  simp only [qz]
  refine rf_extract rfl rfl rfl rfl ?_
  simp only [qz]
  refine rg_assign ?_
  simp only [qz]
  refine rg_assign ?_
  simp only [qz]
  refine rg_nil (ek_next (wk_seq (wk_seq ?_)))
  refine wk_region [0, 0] rfl Kx ?_
  simp only [qy]
  refine rg_move ?_
  simp only [qz]
  refine rf_not rfl rfl rfl ?_
  simp only [qz]
  refine rg_nil (ek_next (wk_cond_f rfl (wk_skip (ek_next ?_))))
  refine wk_region [0, 0, 0, 0, 1] rfl Kx ?_
  simp only [qy]
  refine rg_move ?_
  simp only [qz]
  refine rg_move ?_
  simp only [qz]
  refine rf_field (n := 3) (j := 0) rfl rfl rfl Try.underlying29 rfl Kx rfl ?_
  simp only [qz]
  refine rf_indexA (n := 0) (sz := 1) (j := 0) rfl rfl rfl rfl Try.underlying27 Kx (by decide) rfl ?_
  simp only [qz]
  refine rf_store rfl rfl Kx rfl rfl (UpdR.here _ _ _ Nl) Nz ?_
  simp only [qz]
  refine rg_nil (ek_block (ek_next ?_))
  refine wk_region [0, 0, 0] rfl Kx ?_
  simp only [qy]
  refine rg_move ?_
  simp only [qz]
  refine rf_add (r := 1) rfl rfl rfl rfl (by decide) ?_
  simp only [qz]
  refine rg_assign ?_
  simp only [qz]
  refine rg_nil (ek_again (wk_seq (wk_seq ?_)))
  refine wk_region [0, 0] rfl Kx ?_
  simp only [qy]
  refine rg_move ?_
  simp only [qz]
  refine rf_lss (b := true) rfl rfl rfl rfl (by decide) ?_
  simp only [qz]
  refine rg_nil (ek_next (wk_cond_t rfl (wk_skip (ek_next (wk_seq (wk_block (wk_seq ?_)))))))
  refine wk_region [0, 0, 0, 0, 1, 0, 0, 0, 0, 0] rfl Kx ?_
  simp only [qy]
  refine rg_move ?_
  simp only [qz]
  refine rf_field (n := 7) (j := 0) rfl rfl rfl Try.underlying73 rfl Kx rfl ?_
  simp only [qz]
  refine rf_indexA (n := 1) (sz := 2) (j := 2) rfl rfl rfl rfl Try.underlying71 Kx (by decide) rfl ?_
  simp only [qz]
  refine rf_loadR (n := 2) rfl rfl rfl Try.underlying70 rfl Kx (fun w hw => Kn.hd0 (Kn.tl (Kn.tlU (Kn.tl hw)))) rfl rfl ?_
  simp only [qz]
  cases hq1 : smB y.b
  · apply rg_pure Rx Kx
    case hargs => exact Ax
    case h => exact fun w hw => by have := bsmall_any y.b _ lb w (hsk.b.at hw (List.Sublist.cons _ (List.sublist_append_left _ _))); rw [hq1] at this; exact this
    case hz => exact Nz
    simp only [qz]
    refine rg_move ?_
    simp only [qz]
    refine rf_extract rfl rfl rfl rfl ?_
    simp only [qz]
    refine rf_extract rfl rfl rfl rfl ?_
    simp only [qz]
    refine rg_assign ?_
    simp only [qz]
    refine rg_assign ?_
    simp only [qz]
    refine rg_nil (ek_next (wk_seq (wk_seq ?_)))
    refine wk_region [0, 0] rfl Kx ?_
    simp only [qy]
    refine rg_move ?_
    simp only [qz]
    refine rf_not rfl rfl rfl ?_
    simp only [qz]
    refine rg_nil (ek_next (wk_cond_t rfl (wk_seq ?_)))
    refine wk_region [0, 1, 0] rfl Kx ?_
    simp only [qy]
    refine rf_build (cs := fun a => #[.int .i64 0, .int .i64 0, .int .i64 0, .int .i64 0, .int .i64 0]) rfl rfl Kx ?_
    simp only [qz]
    refine rf_storeR (n := 5) rfl rfl Kx rfl rfl (UpdR.there _ (UpdR.app _ (UpdR.here _ _ _ Nl))) Nz ?_
    simp only [qz, Nat.reduceAdd]
    refine rg_assign ?_
    simp only [qz]
    refine rg_nil (ek_next (wk_ret (ek_then_ret (ek_block_ret (ek_then_ret (ek_then_ret (ek_block_ret (ek_then_ret ?_))))))))
    refine ek_ret (fun w hw => ⟨rfl, _, run_results2 rfl rfl (Kn.hd0 (Kn.tlU (Kn.tl hw))) Try.underlying29 rfl Kx, ?_⟩)
    (try simp only [qz])
    exact ⟨by unfold wnum; rw [← hyz.out]; unfold numOk; simp [*, Nm.zero], hw.below⟩
  apply rg_pure Rx Kx
  case hargs => exact Ax
  case h => exact fun w hw => by have := bsmall_any y.b _ lb w (hsk.b.at hw (List.Sublist.cons _ (List.sublist_append_left _ _))); rw [hq1] at this; exact this
  case hz => exact Nz
  simp only [qz]
  refine rg_move ?_
  simp only [qz]
  refine rf_extract rfl rfl rfl rfl ?_
  simp only [qz]
  refine rf_extract rfl rfl rfl rfl ?_
  simp only [qz]
  refine rg_assign ?_
  simp only [qz]
  refine rg_assign ?_
  simp only [qz]
  refine rg_nil (ek_next (wk_seq (wk_seq ?_)))
  refine wk_region [0, 0] rfl Kx ?_
  simp only [qy]
  refine rg_move ?_
  simp only [qz]
  refine rf_not rfl rfl rfl ?_
  simp only [qz]
  refine rg_nil (ek_next (wk_cond_f rfl (wk_skip (ek_next ?_))))
  refine wk_region [0, 0, 0, 0, 1] rfl Kx ?_
  simp only [qy]
  refine rg_move ?_
  simp only [qz]
  refine rg_move ?_
  simp only [qz]
  refine rf_field (n := 3) (j := 0) rfl rfl rfl Try.underlying29 rfl Kx rfl ?_
  simp only [qz]
  refine rf_indexA (n := 1) (sz := 1) (j := 1) rfl rfl rfl rfl Try.underlying27 Kx (by decide) rfl ?_
  simp only [qz]
  refine rf_store rfl rfl Kx rfl rfl (UpdR.here _ _ _ Nl) Nz ?_
  simp only [qz]
  refine rg_nil (ek_block (ek_next ?_))
  refine wk_region [0, 0, 0] rfl Kx ?_
  simp only [qy]
  refine rg_move ?_
  simp only [qz]
  refine rf_add (r := 2) rfl rfl rfl rfl (by decide) ?_
  simp only [qz]
  refine rg_assign ?_
  simp only [qz]
  refine rg_nil (ek_again (wk_seq (wk_seq ?_)))
  refine wk_region [0, 0] rfl Kx ?_
  simp only [qy]
  refine rg_move ?_
  simp only [qz]
  refine rf_lss (b := true) rfl rfl rfl rfl (by decide) ?_
  simp only [qz]
  refine rg_nil (ek_next (wk_cond_t rfl (wk_skip (ek_next (wk_seq (wk_block (wk_seq ?_)))))))
  refine wk_region [0, 0, 0, 0, 1, 0, 0, 0, 0, 0] rfl Kx ?_
  simp only [qy]
  refine rg_move ?_
  simp only [qz]
  refine rf_field (n := 7) (j := 0) rfl rfl rfl Try.underlying73 rfl Kx rfl ?_
  simp only [qz]
  refine rf_indexA (n := 2) (sz := 2) (j := 4) rfl rfl rfl rfl Try.underlying71 Kx (by decide) rfl ?_
  simp only [qz]
  refine rf_loadR (n := 2) rfl rfl rfl Try.underlying70 rfl Kx (fun w hw => Kn.hd0 (Kn.tl (Kn.tlU (Kn.tl hw)))) rfl rfl ?_
  simp only [qz]
  cases hq2 : smB y.c
  · apply rg_pure Rx Kx
    case hargs => exact Ax
    case h => exact fun w hw => by have := bsmall_any y.c _ lc w (hsk.c.at hw (List.Sublist.cons _ (List.sublist_append_left _ _))); rw [hq2] at this; exact this
    case hz => exact Nz
    simp only [qz]
    refine rg_move ?_
    simp only [qz]
    refine rf_extract rfl rfl rfl rfl ?_
    simp only [qz]
    refine rf_extract rfl rfl rfl rfl ?_
    simp only [qz]
    refine rg_assign ?_
    simp only [qz]
    refine rg_assign ?_
    simp only [qz]
    refine rg_nil (ek_next (wk_seq (wk_seq ?_)))
    refine wk_region [0, 0] rfl Kx ?_
    simp only [qy]
    refine rg_move ?_
    simp only [qz]
    refine rf_not rfl rfl rfl ?_
    simp only [qz]
    refine rg_nil (ek_next (wk_cond_t rfl (wk_seq ?_)))
    refine wk_region [0, 1, 0] rfl Kx ?_
    simp only [qy]
    refine rf_build (cs := fun a => #[.int .i64 0, .int .i64 0, .int .i64 0, .int .i64 0, .int .i64 0]) rfl rfl Kx ?_
    simp only [qz]
    refine rf_storeR (n := 5) rfl rfl Kx rfl rfl (UpdR.there _ (UpdR.app _ (UpdR.here _ _ _ Nl))) Nz ?_
    simp only [qz, Nat.reduceAdd]
    refine rg_assign ?_
    simp only [qz]
    refine rg_nil (ek_next (wk_ret (ek_then_ret (ek_block_ret (ek_then_ret (ek_then_ret (ek_block_ret (ek_then_ret ?_))))))))
    refine ek_ret (fun w hw => ⟨rfl, _, run_results2 rfl rfl (Kn.hd0 (Kn.tlU (Kn.tl hw))) Try.underlying29 rfl Kx, ?_⟩)
    (try simp only [qz])
    exact ⟨by unfold wnum; rw [← hyz.out]; unfold numOk; simp [*, Nm.zero], hw.below⟩
  apply rg_pure Rx Kx
  case hargs => exact Ax
  case h => exact fun w hw => by have := bsmall_any y.c _ lc w (hsk.c.at hw (List.Sublist.cons _ (List.sublist_append_left _ _))); rw [hq2] at this; exact this
  case hz => exact Nz
  simp only [qz]
  refine rg_move ?_
  simp only [qz]
  refine rf_extract rfl rfl rfl rfl ?_
  simp only [qz]
  refine rf_extract rfl rfl rfl rfl ?_
  simp only [qz]
  refine rg_assign ?_
  simp only [qz]
  refine rg_assign ?_
  simp only [qz]
  refine rg_nil (ek_next (wk_seq (wk_seq ?_)))
  refine wk_region [0, 0] rfl Kx ?_
  simp only [qy]
  refine rg_move ?_
  simp only [qz]
  refine rf_not rfl rfl rfl ?_
  simp only [qz]
  refine rg_nil (ek_next (wk_cond_f rfl (wk_skip (ek_next ?_))))
  refine wk_region [0, 0, 0, 0, 1] rfl Kx ?_
  simp only [qy]
  refine rg_move ?_
  simp only [qz]
  refine rg_move ?_
  simp only [qz]
  refine rf_field (n := 3) (j := 0) rfl rfl rfl Try.underlying29 rfl Kx rfl ?_
  simp only [qz]
  refine rf_indexA (n := 2) (sz := 1) (j := 2) rfl rfl rfl rfl Try.underlying27 Kx (by decide) rfl ?_
  simp only [qz]
  refine rf_store rfl rfl Kx rfl rfl (UpdR.here _ _ _ Nl) Nz ?_
  simp only [qz]
  refine rg_nil (ek_block (ek_next ?_))
  refine wk_region [0, 0, 0] rfl Kx ?_
  simp only [qy]
  refine rg_move ?_
  simp only [qz]
  refine rf_add (r := 3) rfl rfl rfl rfl (by decide) ?_
  simp only [qz]
  refine rg_assign ?_
  simp only [qz]
  refine rg_nil (ek_again (wk_seq (wk_seq ?_)))
  refine wk_region [0, 0] rfl Kx ?_
  simp only [qy]
  refine rg_move ?_
  simp only [qz]
  refine rf_lss (b := true) rfl rfl rfl rfl (by decide) ?_
  simp only [qz]
  refine rg_nil (ek_next (wk_cond_t rfl (wk_skip (ek_next (wk_seq (wk_block (wk_seq ?_)))))))
  refine wk_region [0, 0, 0, 0, 1, 0, 0, 0, 0, 0] rfl Kx ?_
  simp only [qy]
  refine rg_move ?_
  simp only [qz]
  refine rf_field (n := 7) (j := 0) rfl rfl rfl Try.underlying73 rfl Kx rfl ?_
  simp only [qz]
  refine rf_indexA (n := 3) (sz := 2) (j := 6) rfl rfl rfl rfl Try.underlying71 Kx (by decide) rfl ?_
  simp only [qz]
  refine rf_loadR (n := 2) rfl rfl rfl Try.underlying70 rfl Kx (fun w hw => Kn.hd0 (Kn.tl (Kn.tlU (Kn.tl hw)))) rfl rfl ?_
  simp only [qz]
  cases hq3 : smB y.d
  · apply rg_pure Rx Kx
    case hargs => exact Ax
    case h => exact fun w hw => by have := bsmall_any y.d _ ld w (hsk.d.at hw (List.Sublist.cons _ (List.sublist_append_left _ _))); rw [hq3] at this; exact this
    case hz => exact Nz
    simp only [qz]
    refine rg_move ?_
    simp only [qz]
    refine rf_extract rfl rfl rfl rfl ?_
    simp only [qz]
    refine rf_extract rfl rfl rfl rfl ?_
    simp only [qz]
    refine rg_assign ?_
    simp only [qz]
    refine rg_assign ?_
    simp only [qz]
    refine rg_nil (ek_next (wk_seq (wk_seq ?_)))
    refine wk_region [0, 0] rfl Kx ?_
    simp only [qy]
    refine rg_move ?_
    simp only [qz]
    refine rf_not rfl rfl rfl ?_
    simp only [qz]
    refine rg_nil (ek_next (wk_cond_t rfl (wk_seq ?_)))
    refine wk_region [0, 1, 0] rfl Kx ?_
    simp only [qy]
    refine rf_build (cs := fun a => #[.int .i64 0, .int .i64 0, .int .i64 0, .int .i64 0, .int .i64 0]) rfl rfl Kx ?_
    simp only [qz]
    refine rf_storeR (n := 5) rfl rfl Kx rfl rfl (UpdR.there _ (UpdR.app _ (UpdR.here _ _ _ Nl))) Nz ?_
    simp only [qz, Nat.reduceAdd]
    refine rg_assign ?_
    simp only [qz]
    refine rg_nil (ek_next (wk_ret (ek_then_ret (ek_block_ret (ek_then_ret (ek_then_ret (ek_block_ret (ek_then_ret ?_))))))))
    refine ek_ret (fun w hw => ⟨rfl, _, run_results2 rfl rfl (Kn.hd0 (Kn.tlU (Kn.tl hw))) Try.underlying29 rfl Kx, ?_⟩)
    (try simp only [qz])
    exact ⟨by unfold wnum; rw [← hyz.out]; unfold numOk; simp [*, Nm.zero], hw.below⟩
  apply rg_pure Rx Kx
  case hargs => exact Ax
  case h => exact fun w hw => by have := bsmall_any y.d _ ld w (hsk.d.at hw (List.Sublist.cons _ (List.sublist_append_left _ _))); rw [hq3] at this; exact this
  case hz => exact Nz
  simp only [qz]
  refine rg_move ?_
  simp only [qz]
  refine rf_extract rfl rfl rfl rfl ?_
  simp only [qz]
  refine rf_extract rfl rfl rfl rfl ?_
  simp only [qz]
  refine rg_assign ?_
  simp only [qz]
  refine rg_assign ?_
  simp only [qz]
  refine rg_nil (ek_next (wk_seq (wk_seq ?_)))
  refine wk_region [0, 0] rfl Kx ?_
  simp only [qy]
  refine rg_move ?_
  simp only [qz]
  refine rf_not rfl rfl rfl ?_
  simp only [qz]
  refine rg_nil (ek_next (wk_cond_f rfl (wk_skip (ek_next ?_))))
  refine wk_region [0, 0, 0, 0, 1] rfl Kx ?_
  simp only [qy]
  refine rg_move ?_
  simp only [qz]
  refine rg_move ?_
  simp only [qz]
  refine rf_field (n := 3) (j := 0) rfl rfl rfl Try.underlying29 rfl Kx rfl ?_
  simp only [qz]
  refine rf_indexA (n := 3) (sz := 1) (j := 3) rfl rfl rfl rfl Try.underlying27 Kx (by decide) rfl ?_
  simp only [qz]
  refine rf_store rfl rfl Kx rfl rfl (UpdR.here _ _ _ Nl) Nz ?_
  simp only [qz]
  refine rg_nil (ek_block (ek_next ?_))
  refine wk_region [0, 0, 0] rfl Kx ?_
  simp only [qy]
  refine rg_move ?_
  simp only [qz]
  refine rf_add (r := 4) rfl rfl rfl rfl (by decide) ?_
  simp only [qz]
  refine rg_assign ?_
  simp only [qz]
  refine rg_nil (ek_again (wk_seq (wk_seq ?_)))
  refine wk_region [0, 0] rfl Kx ?_
  simp only [qy]
  refine rg_move ?_
  simp only [qz]
  refine rf_lss (b := false) rfl rfl rfl rfl (by decide) ?_
  simp only [qz]
  refine rg_nil (ek_next (wk_cond_f rfl (wk_exit (ek_then_exit (ek_then_exit (ek_block_exit (ek_next (wk_seq ?_))))))))
  refine wk_draws_m (hz1 := (sc _ (List.Sublist.append_left (sk _ (sc _ sn)) _))) [(0, 0), (1, 3), (2, 3), (3, 3), (4, 2), (5, 0)] 4 Kx Kx (fun c d v a w h => by cases d <;> exact h) ?_
  simp only [List.map_cons, List.map_nil, List.getD_cons_zero, List.getD_cons_succ]
  refine rf_loadR (n := 5) rfl rfl rfl Try.underlying29 rfl Kx (fun w hw => Kn.hd0 hw) rfl rfl ?_
  simp only [qz]
  refine rf_field (n := 0) (j := 8) rfl rfl rfl Try.underlying73 rfl Kx rfl ?_
  simp only [qz]
  refine rf_load rfl rfl rfl Try.underlying3 rfl (fun w hw => (Kn.hd0 (Kn.tlU (Kn.tl hw))).at rfl) ?_
  simp only [qz]
  refine rf_leq rfl rfl rfl rfl rfl ?_
  simp only [qz]
  refine rf_storeRM (n := 5) rfl rfl Kx rfl rfl (UpdR.there _ (UpdR.app _ (UpdR.here _ _ _ Nl))) (sc _ (List.Sublist.append_left (sk _ (sc _ sn)) _)) ?_
  simp only [qz, Nat.reduceAdd]
  refine rg_assign ?_
  simp only [qz]
  refine rg_nil (ek_next (wk_ret ?_))
  refine ek_ret (fun w hw => ⟨rfl, _, run_results2 rfl rfl (Kn.hd0 (Kn.tlU (Kn.tl hw))) Try.underlying29 rfl Kx, ?_⟩)
  (try simp only [qz])
  exact ⟨by unfold wnum; rw [← hyz.out]; unfold numOk; simp [*, Nm.zero], hw.below⟩

end Go.Proofs.Ytjeijnjaleldkaa
namespace Go.Proofs.Ytjeijnjaleldkaa
set_option linter.all false
open Go.RowKit

theorem fit382 {z : Nm} (h : z.Fit 1000000000) : z.Fit 9850501549098619803069760025035903451269934817616361666987073351061430442874302652853566563721228910201656997576704 := Nm.fit_mono h (by decide)
theorem to_fit {z : Nm} {m : Int} (h : z.Fit 1000000000) (h0 : z.k ≤ m) (h1 : m - z.k ≤ 40) : (z.to m).Fit 9850501549098619803069760025035903451269934817616361666987073351061430442874302652853566563721228910201656997576704 := by
  unfold Nm.to
  exact Nm.fit_mono (Nm.up40_fit (n := (m - z.k).toNat) h Ox) (by decide)
theorem addR_fitW {x y : Nm} (hx : x.Ok) (hy : y.Ok) : (x.addR y).Fit 9850501549098619803069760025035903451269934817616361666987073351061430442874302652853566563721228910201656997576704 := Nm.fit_mono (addR_fit hx hy) (by decide)
theorem mulR_fitW {x y : Nm} (hx : x.Ok) (hy : y.Ok) : (x.mulR y).Fit 9850501549098619803069760025035903451269934817616361666987073351061430442874302652853566563721228910201656997576704 := Nm.fit_mono (mulR_fit hx.fit hy.fit) (by decide)
end Go.Proofs.Ytjeijnjaleldkaa
namespace Go.Proofs.Ytjeijnjaleldkaa
set_option linter.all false
open Go.RowKit

set_option maxRecDepth 100000 in
set_option maxHeartbeats 1000000 in
theorem rAt_any (N i k : Nat) (xs : List Nm) (a : Option Addr) (c : Nat) (hl : xs.length = N * N) (hN : N ≤ 6) (hi : i < N) (hk : k < N) (w : World) (hA : AS w a (nms xs)) : Calls Try.prog 41 #[.agg #[.int .i64 N, .slice a xs.length c], .int .i64 i, .int .i64 k] w fun e w' => e = .returned (nmV (nm xs (i * N + k))) ∧ Below w.heap.size w w' := by
  have hm := ix_small hi hN
  have hc0 : ((i * N : Nat) : Int) = (i : Int) * N := Int.natCast_mul i N
  obtain ⟨b, off, rfl, hlt, hcell⟩ := AS.openN hA Ox
  go_enter Try.func41, Try.ntmps41
  refine wk_start ?_
  refine wk_seq ?_
  refine wk_region [1, 1] rfl Kx ?_
  simp only [qy]
  refine Rgn fun g1 => ?_
  simp only [qz]
  refine Rgn fun g2 => ?_
  simp only [qz]
  refine rg_nil (ek_next (wk_seq ?_))
  refine wk_region [0, 0, 0, 0, 0, 0, 0, 0, 0, 0, 1] rfl Kx ?_
  simp only [qy]
  refine rf_field (n := 0) (j := 1) rfl rfl rfl Try.underlying24 rfl Kx rfl ?_
  simp only [qz]
  refine rf_load rfl rfl rfl Try.underlying22 rfl (fun w hw => (Kn.hd0 (Kn.tl hw)).at rfl) ?_
  simp only [qz]
  refine rg_move ?_
  simp only [qz]
  refine rf_field (n := 0) (j := 0) rfl rfl rfl Try.underlying24 rfl Kx rfl ?_
  simp only [qz]
  refine rf_load rfl rfl rfl Try.underlying3 rfl (fun w hw => (Kn.hd0 (Kn.tl hw)).at rfl) ?_
  simp only [qz]
  refine rf_mul rfl rfl rfl rfl (wrap_ok Ox Ox) ?_
  simp only [qz]
  refine rg_move ?_
  simp only [qz]
  refine rf_add rfl rfl rfl rfl (wrap_ok Ox Ox) ?_
  simp only [qz]
  refine rf_indexS (n := i * N + k) (sz := 5) (j := off + (i * N + k) * 5) rfl rfl rfl rfl Try.underlying22 Kx (by rw [Int.natCast_add, Int.natCast_mul]) Ox rfl ?_
  simp only [qz]
  refine rf_loadC (n := 5) (vs := nmC (nm xs (i * N + k))) rfl rfl rfl Try.underlying29 rfl Kx rfl (fun w hw => atN_range ((hcell _ Ox).kn hw hlt (by simp))) ?_
  simp only [qz]
  refine rf_storeR (n := 5) rfl rfl Kx rfl rfl (UpdR.here _ _ _ Nl) Nz ?_
  simp only [qz, Nat.reduceAdd]
  refine rg_nil (ek_next (wk_ret ?_))
  refine ek_ret (fun w hw => ⟨rfl, _, run_results1 rfl rfl (Kn.hd0 hw) Try.underlying29 rfl Kx, ?_⟩)
  (try simp only [qz])
  first | exact ⟨rfl, hw.below⟩ | exact ⟨trivial, hw.below⟩ | exact hw.below

set_option maxRecDepth 100000 in
set_option maxHeartbeats 1000000 in
theorem rOne_any  (w : World) : Calls Try.prog 61 #[] w fun e w' => e = .returned (nmV Nm.one) ∧ Below w.heap.size w w' := by
  go_enter Try.func61, Try.ntmps61
  refine wk_start ?_
  refine wk_seq ?_
  refine wk_region [1] rfl Kx ?_
  simp only [qy]
  refine Rgn fun g1 => ?_
  simp only [qz]
  refine rg_nil (ek_next (wk_seq ?_))
  refine wk_region [0, 0, 1] rfl Kx ?_
  simp only [qy]
  refine rf_build (cs := fun a => #[a.eval (.const (.int .i64 1)), .int .i64 0, .int .i64 0, .int .i64 0]) rfl rfl Kx ?_
  simp only [qz]
  refine rf_build (cs := fun a => #[cellAt (a.eval (.tmp 1)) 0, cellAt (a.eval (.tmp 1)) 1, cellAt (a.eval (.tmp 1)) 2, cellAt (a.eval (.tmp 1)) 3, .int .i64 0]) rfl rfl Kx ?_
  simp only [qz]
  refine rf_storeR (n := 5) rfl rfl Kx rfl rfl (UpdR.here _ _ _ Nl) Nz ?_
  simp only [qz, Nat.reduceAdd]
  refine rg_nil (ek_next (wk_ret ?_))
  refine ek_ret (fun w hw => ⟨rfl, _, run_results1 rfl rfl (Kn.hd0 hw) Try.underlying29 rfl Kx, ?_⟩)
  (try simp only [qz])
  first | exact ⟨rfl, hw.below⟩ | exact ⟨trivial, hw.below⟩ | exact hw.below

end Go.Proofs.Ytjeijnjaleldkaa
namespace Go.Proofs.Ytjeijnjaleldkaa
set_option linter.all false
open Go.RowKit

def colS (xs : List Nm) (N k l : Nat) : Nat → Nm
  | 0 => Nm.zero
  | n + 1 => (colS xs N k l n).addR ((nm xs (n * N + k)).conj.mulR (nm xs (n * N + l)))
def wantN (k l : Nat) : Nm := if k = l then Nm.one else Nm.zero
def Fb (n : Nat) : Int := 2 ^ (62 + 42 * n)
theorem upW_fit {M : Int} {n : Nat} {z : Nm} (h : z.Fit M) (hM : 0 ≤ M) (hn : n ≤ 81) : (Nm.up n z).Fit (2 ^ 41 * M) := by
  have key : ∀ m : Nat, m ≤ 41 → (2 : Int) ^ m * M ≤ 2 ^ 41 * M := fun m hm => by
    refine Int.mul_le_mul_of_nonneg_right ?_ hM
    have h1 := Nat.pow_le_pow_right (n := 2) (by omega) hm
    have e : ((2 ^ m : Nat) : Int) = (2 : Int) ^ m := by simp
    have e2 : ((2 ^ 41 : Nat) : Int) = (2 : Int) ^ 41 := by simp
    omega
  rcases (⟨n / 2, by omega⟩ : ∃ m, n = 2 * m ∧ m ≤ 40 ∨ n = 2 * m + 1 ∧ m ≤ 40) with ⟨m, ⟨rfl, hm⟩ | ⟨rfl, hm⟩⟩
  · exact Nm.fit_mono (Nm.up_fit m h).1 (key m (by omega))
  exact Nm.fit_mono (Nm.up_fit m h).2 (key (m + 1) (by omega))
theorem Fb_pos (n : Nat) : 4611686018427387904 ≤ Fb n := by
  unfold Fb
  have h1 := Nat.pow_le_pow_right (n := 2) (by omega) (show 62 ≤ 62 + 42 * n by omega)
  have e : ((2 ^ (62 + 42 * n) : Nat) : Int) = (2 : Int) ^ (62 + 42 * n) := by simp
  have e2 : (2 : Nat) ^ 62 = 4611686018427387904 := by decide
  omega
theorem Fb_succ (n : Nat) : 2 ^ 41 * Fb n + 2 ^ 41 * Fb n = Fb (n + 1) := by
  unfold Fb
  rw [show 62 + 42 * (n + 1) = (62 + 42 * n) + 42 by omega, Int.pow_add (2 : Int) (62 + 42 * n) 42]
  generalize (2 : Int) ^ (62 + 42 * n) = M
  have e1 : (2 : Int) ^ 41 = 2199023255552 := by decide
  have e2 : (2 : Int) ^ 42 = 4398046511104 := by decide
  rw [e1, e2]
  omega
theorem Fb_le {n : Nat} (h : n ≤ 6) : 2 ^ 41 * Fb n ≤ 9850501549098619803069760025035903451269934817616361666987073351061430442874302652853566563721228910201656997576704 := by
  have h1 := Nat.pow_le_pow_right (n := 2) (by omega) (show 41 + (62 + 42 * n) ≤ 200 + 155 by omega)
  rw [Nat.pow_add 2 200 155] at h1
  have e : ((2 ^ (41 + (62 + 42 * n)) : Nat) : Int) = (2 : Int) ^ 41 * (2 : Int) ^ (62 + 42 * n) := by
    rw [Nat.pow_add, Int.natCast_mul]
    simp only [Int.natCast_pow]
    rfl
  have e2 : (2 : Nat) ^ 200 * 2 ^ 155 = 73391955711682288371546268649666782105490079653384995959602842860381532034831513858240593699524021969747968 := by decide
  unfold Fb
  omega
theorem prod_W {x y : Nm} (hx : x.Ok) (hy : y.Ok) : (x.conj.mulR y).Fit 4611686018427387904 ∧ 0 ≤ (x.conj.mulR y).k ∧ (x.conj.mulR y).k ≤ 80 :=
  ⟨Nm.fit_mono (mulR_fit (conj_ok hx).fit hy.fit) (by decide), by have := hx.k0; have := hy.k0; simp only [Nm.mulR, Nm.conj]; omega, by have := hx.k1; have := hy.k1; simp only [Nm.mulR, Nm.conj]; omega⟩
theorem addR_W {x y : Nm} {n : Nat} (hx : x.Fit (Fb n)) (hx0 : 0 ≤ x.k) (hx1 : x.k ≤ 80) (hy : y.Fit 4611686018427387904) (hy0 : 0 ≤ y.k) (hy1 : y.k ≤ 80) :
    (x.to (max x.k y.k)).Fit (2 ^ 41 * Fb n) ∧ (y.to (max x.k y.k)).Fit (2 ^ 41 * Fb n) ∧ (x.addR y).Fit (Fb (n + 1)) ∧ 0 ≤ (x.addR y).k ∧ (x.addR y).k ≤ 80 := by
  have hF := Fb_pos n
  have h1 : (x.to (max x.k y.k)).Fit (2 ^ 41 * Fb n) := upW_fit hx (by omega) (by omega)
  have h2 : (y.to (max x.k y.k)).Fit (2 ^ 41 * Fb n) := upW_fit (Nm.fit_mono hy hF) (by omega) (by omega)
  refine ⟨h1, h2, ?_, by simp only [Nm.addR]; omega, by simp only [Nm.addR]; omega⟩
  rw [← Fb_succ]
  obtain ⟨a1, a2, a3, a4, a5, a6, a7, a8⟩ := h1
  obtain ⟨b1, b2, b3, b4, b5, b6, b7, b8⟩ := h2
  generalize 2 ^ 41 * Fb n = M at *
  unfold Nm.addR
  exact ⟨by dsimp only; omega, by dsimp only; omega, by dsimp only; omega, by dsimp only; omega, by dsimp only; omega, by dsimp only; omega, by dsimp only; omega, by dsimp only; omega⟩
theorem colS_W {xs : List Nm} {N k l : Nat} (hok : allOk xs = true) (hlen : xs.length = N * N) (hN : N ≤ 6) (hk : k < N) (hl : l < N) : ∀ n, n ≤ N → (colS xs N k l n).Fit (Fb n) ∧ 0 ≤ (colS xs N k l n).k ∧ (colS xs N k l n).k ≤ 80
  | 0, _ => by
    have := Fb_pos 0
    exact ⟨⟨by show -_ ≤ (0 : Int); omega, by show (0 : Int) ≤ _; omega, by show -_ ≤ (0 : Int); omega, by show (0 : Int) ≤ _; omega, by show -_ ≤ (0 : Int); omega, by show (0 : Int) ≤ _; omega, by show -_ ≤ (0 : Int); omega, by show (0 : Int) ≤ _; omega⟩, by show (0 : Int) ≤ 0; decide, by show (0 : Int) ≤ 80; decide⟩
  | n + 1, hn => by
    obtain ⟨h1, h2, h3⟩ := colS_W hok hlen hN hk hl n (by omega)
    have hx := ix_small (i := n) (N := N) (by omega) hN
    obtain ⟨p1, p2, p3⟩ := prod_W (ok_at hok (show n * N + k < xs.length by omega)) (ok_at hok (show n * N + l < xs.length by omega))
    obtain ⟨_, _, h4, h5, h6⟩ := addR_W h1 h2 h3 p1 p2 p3
    exact ⟨h4, h5, h6⟩
theorem SA4.conj {w : World} {z : Nm} {s0 s1 s2 s3 : Value} (h : SA4 w z s0 s1 s2 s3) : SA4 w z.conj s0 s3 s2 s1 :=
  ⟨h.a, by simp only [Nm.conj, Int.natAbs_neg]; exact h.d, by simp only [Nm.conj, Int.natAbs_neg]; exact h.c, by simp only [Nm.conj, Int.natAbs_neg]; exact h.b⟩
theorem wd_zero9 : (#[.bool false, .slice none 0 0, .bool false, .slice none 0 0, .bool false, .slice none 0 0, .bool false, .slice none 0 0, .int .i64 0] : Array Value) = #[.bool (decide (Nm.zero.a < 0)), .slice none (digs Nm.zero.a.natAbs).length 0, .bool (decide (Nm.zero.b < 0)), .slice none (digs Nm.zero.b.natAbs).length 0, .bool (decide (Nm.zero.c < 0)), .slice none (digs Nm.zero.c.natAbs).length 0, .bool (decide (Nm.zero.d < 0)), .slice none (digs Nm.zero.d.natAbs).length 0, .int .i64 Nm.zero.k] := by
  simp only [Nm.zero, Int.natAbs_zero, digs_zero]
  rfl
theorem sk4_zero {w : World} : SK4 w [] Nm.zero (.slice none (digs Nm.zero.a.natAbs).length 0) (.slice none (digs Nm.zero.b.natAbs).length 0) (.slice none (digs Nm.zero.c.natAbs).length 0) (.slice none (digs Nm.zero.d.natAbs).length 0) := by
  have h : SK w [] (.slice none (digs (0 : Int).natAbs).length 0) (0 : Int).natAbs := by
    simp only [Int.natAbs_zero, digs_zero]
    exact SK.own SU.nil
  exact ⟨h, h, h, h⟩
set_option maxRecDepth 100000 in
set_option maxHeartbeats 1000000 in
theorem runitary_walk (N : Nat) (xs : List Nm) (a : Option Addr) (c : Nat) (hN1 : 1 ≤ N) (hN : N ≤ 6) (hlen : Hid (xs.length = N * N)) (hl36 : xs.length ≤ 36) (hok : allOk xs = true) (w : World) (hA : AS w a (nms xs)) : Calls Try.prog 57 #[.agg #[.int .i64 N, .slice a xs.length c]] w fun e w' => ∃ b, e = .returned (.bool b) ∧ (b = true ↔ ∀ k l, k < N → l < N → wnum (colS xs N k l N) = (wantN k l, true)) ∧ Below w.heap.size w w' := by
  go_enter Try.func57, Try.ntmps57
  refine wk_start ?_
  refine wk_seq ?_
  refine wk_region [1, 0] rfl (by kernel_rfl) ?_
  simp only [qy]
  refine rg_new (cs := ?_) (ty := ?_) (by rfl) (fun w => ?_) (fun _ h => by cases h) (fun g1 => ?_); rotate_left 2
  focus (go_simp; rfl)
  simp only [qz]
  refine rg_assign ?_
  simp only [qz]
  refine rg_nil (ek_next (wk_seq (wk_seq ?_)))
  refine wk_region [0] rfl (by kernel_rfl) ?_
  simp only [qy]
  refine rg_assign ?_
  simp only [qz]
  refine rg_nil (ek_next (wk_block ?_))
  refine wk_loopF [2, 3, 4, 5, 6, 7, 8, 9, 10, 11, 12, 13, 14, 15, 16, 17, 18, 19, 20, 21, 22, 23, 24, 25, 26, 27, 28, 29, 30, 31, 32, 33, 34, 35, 36, 37, 38, 39, 40, 41, 42, 43, 44, 45, 46, 47, 48, 49, 50, 51, 52, 53, 54, 55, 56, 57, 58] (fun mz f s => ∃ (k : Nat), f 3 = .int .i64 k ∧ s = ((g1, .cells #[.int .i64 N, .slice a xs.length c] 24) :: []) ∧ mz = N - k ∧ k ≤ N ∧ (∀ k2, k2 < k → ∀ l2, l2 < N → wnum (colS xs N k2 l2 N) = (wantN k2 l2, true))) ((fun (k : Nat) => N - k) (0)) ?_ (by kernel_rfl) ?_
  · exact ⟨0, rfl, rfl, rfl, by omega, fun _ h => by omega⟩
  rintro mz f1 s ⟨k, hs1_3, rfl, hn, hd1, hd2⟩
  simp only [Act.putF, List.foldl_cons, List.foldl_nil, hs1_3, Act.put, Act.eval, q1, q2, q3, q4, q5, q6, q7, q8, q9, q10, q11, q12, q13, q14, q15, q16, q17, q18, Nat.reduceAdd, Bool.not_true, Bool.not_false]
  clear hs1_3
  refine wk_seq (wk_seq ?_)
  refine wk_region [0, 0, 0, 0] rfl (by kernel_rfl) ?_
  simp only [qy]
  refine rg_move ?_
  simp only [qz]
  refine rf_field (n := 0) (j := 0) rfl rfl rfl Try.underlying24 rfl (by kernel_rfl) rfl ?_
  simp only [qz]
  refine rf_load rfl rfl rfl Try.underlying3 rfl (fun w hw => (Kn.hd0 hw).at rfl) ?_
  simp only [qz]
  refine rfb_lss rfl rfl rfl rfl ?_
  intro x h1
  cases x
  · (try simp only [qd, ne_eq] at h1)
    simp only [qz]
    refine rg_nil (ek_next (wk_cond_f rfl (wk_exit (ek_then_exit (ek_then_exit (ek_block_exit (ek_next (wk_seq ?_))))))))
    refine wk_region [0] rfl (by kernel_rfl) ?_
    simp only [qy]
    refine rg_assign ?_
    simp only [qz]
    refine rg_nil (ek_next (wk_ret ?_))
    refine ek_ret (fun w hw => ⟨rfl, _, res_t _ rfl, ?_⟩)
    (try simp only [qz])
    exact ⟨true, rfl, ⟨fun _ k2 l2 hk2 hl2 => hd2 k2 (by omega) l2 hl2, fun _ => rfl⟩, hw.below⟩
  (try simp only [qd, ne_eq] at h1)
  simp only [qz]
  refine rg_nil (ek_next (wk_cond_t rfl (wk_skip (ek_next (wk_seq (wk_block (wk_seq ?_)))))))
  refine wk_region [0] rfl (by kernel_rfl) ?_
  simp only [qy]
  refine rg_assign ?_
  simp only [qz]
  refine rg_nil (ek_next (wk_block ?_))
  refine wk_loopF [2, 4, 5, 6, 7, 8, 9, 16, 17, 18, 19, 20, 21, 22, 23, 24, 25, 26, 27, 28, 29, 30, 31, 32, 33, 34, 35, 36, 37, 38, 39, 40, 41, 42, 43, 44, 45, 46, 47, 48, 49, 50, 51, 52, 53, 54, 55, 56, 57, 58] (fun mz f s => ∃ (l : Nat), f 4 = .int .i64 l ∧ s = ((g1, .cells #[.int .i64 N, .slice a xs.length c] 24) :: []) ∧ mz = N - l ∧ l ≤ N ∧ (∀ l2, l2 < l → wnum (colS xs N k l2 N) = (wantN k l2, true))) ((fun (l : Nat) => N - l) (0)) ?_ (by kernel_rfl) ?_
  · exact ⟨0, rfl, rfl, rfl, by omega, fun _ h => by omega⟩
  rintro mz f2 s ⟨l, hs2_4, rfl, hn, he1, he2⟩
  simp only [Act.putF, List.foldl_cons, List.foldl_nil, hs2_4, Act.put, Act.eval, q1, q2, q3, q4, q5, q6, q7, q8, q9, q10, q11, q12, q13, q14, q15, q16, q17, q18, Nat.reduceAdd, Bool.not_true, Bool.not_false]
  clear hs2_4
  refine wk_seq (wk_seq ?_)
  refine wk_region [0, 0, 0, 0] rfl (by kernel_rfl) ?_
  simp only [qy]
  refine rg_move ?_
  simp only [qz]
  refine rf_field (n := 0) (j := 0) rfl rfl rfl Try.underlying24 rfl (by kernel_rfl) rfl ?_
  simp only [qz]
  refine rf_load rfl rfl rfl Try.underlying3 rfl (fun w hw => (Kn.hd0 hw).at rfl) ?_
  simp only [qz]
  refine rfb_lss rfl rfl rfl rfl ?_
  intro x h2
  cases x
  · (try simp only [qd, ne_eq] at h2)
    simp only [qz]
    refine rg_nil (ek_next (wk_cond_f rfl (wk_exit (ek_then_exit (ek_then_exit (ek_block_exit (ek_block (ek_next ?_))))))))
    refine wk_region [0, 0, 0] rfl (by kernel_rfl) ?_
    simp only [qy]
    refine rg_move ?_
    simp only [qz]
    refine rf_add rfl rfl rfl rfl (wrap_ok (by omega) (by omega)) ?_
    simp only [qz]
    refine rg_assign ?_
    simp only [qz]
    refine rg_nil ?_
    obtain rfl : N = l := by omega
    refine ek_roundF (N - (k + 1)) (by omega) (by kernel_rfl) ?_
    exact ⟨k + 1, rfl, by rfl, by rfl, (by omega), (fun k2 hk2 l2 hl2 => by rcases (by omega : k2 < k ∨ k2 = k) with h | rfl; exact hd2 k2 h l2 hl2; exact he2 l2 hl2)⟩
  (try simp only [qd, ne_eq] at h2)
  simp only [qz]
  refine rg_nil (ek_next (wk_cond_t rfl (wk_skip (ek_next (wk_seq (wk_block (wk_seq ?_)))))))
  refine wk_region [1] rfl (by kernel_rfl) ?_
  simp only [qy]
  refine rg_new (cs := ?_) (ty := ?_) (by rfl) (fun w => ?_) (fun _ h => by cases h) (fun g2 => ?_); rotate_left 2
  focus (go_simp; rfl)
  simp only [qz]
  refine rg_nil (ek_next (wk_seq (wk_seq ?_)))
  rw [wd_zero9]
  refine wk_region [0] rfl (by kernel_rfl) ?_
  simp only [qy]
  refine rg_assign ?_
  simp only [qz]
  refine rg_nil (ek_next (wk_block ?_))
  refine wk_loopF [6, 22, 23, 24, 25, 26, 27, 28, 29, 30, 31, 32, 33, 34, 35, 36, 37, 38, 39, 40, 41] (fun mz f s => ∃ (n : Nat) (y : Nm) (ta0 ta1 ta2 ta3 : Option Addr) (tc0 tc1 tc2 tc3 : Nat) (u : List Blk), f 6 = .int .i64 n ∧ s = (u ++ ((g2, .cells #[.bool (decide (y.a < 0)), .slice ta0 (digs y.a.natAbs).length tc0, .bool (decide (y.b < 0)), .slice ta1 (digs y.b.natAbs).length tc1, .bool (decide (y.c < 0)), .slice ta2 (digs y.c.natAbs).length tc2, .bool (decide (y.d < 0)), .slice ta3 (digs y.d.natAbs).length tc3, .int .i64 y.k] 73) :: ((g1, .cells #[.int .i64 N, .slice a xs.length c] 24) :: []))) ∧ mz = N - n ∧ n ≤ N ∧ Hid (colS xs N k l n = y) ∧ SK4 w u y (.slice ta0 (digs y.a.natAbs).length tc0) (.slice ta1 (digs y.b.natAbs).length tc1) (.slice ta2 (digs y.c.natAbs).length tc2) (.slice ta3 (digs y.d.natAbs).length tc3)) ((fun (n : Nat) (y : Nm) (ta0 ta1 ta2 ta3 : Option Addr) (tc0 tc1 tc2 tc3 : Nat) (u : List Blk) => N - n) (0) (Nm.zero) (none) (none) (none) (none) (0) (0) (0) (0) ([])) ?_ (by kernel_rfl) ?_
  · exact ⟨0, Nm.zero, none, none, none, none, 0, 0, 0, 0, [], rfl, rfl, rfl, by omega, Lib.hid rfl, sk4_zero⟩
  rintro mz f3 s ⟨n, y, ta0, ta1, ta2, ta3, tc0, tc1, tc2, tc3, u, hs3_6, rfl, hn, hf1, hf2, hf3⟩
  simp only [Act.putF, List.foldl_cons, List.foldl_nil, hs3_6, Act.put, Act.eval, q1, q2, q3, q4, q5, q6, q7, q8, q9, q10, q11, q12, q13, q14, q15, q16, q17, q18, Nat.reduceAdd, Bool.not_true, Bool.not_false]
  clear hs3_6
  have hy := hf2
  have hsk := hf3
  clear hf2 hf3
  refine wk_seq (wk_seq ?_)
  refine wk_region [0, 0, 0, 0] rfl (by kernel_rfl) ?_
  simp only [qy]
  refine rg_move ?_
  simp only [qz]
  refine rf_field (n := 0) (j := 0) rfl rfl rfl Try.underlying24 rfl (by kernel_rfl) rfl ?_
  simp only [qz]
  refine rf_load rfl rfl rfl Try.underlying3 rfl (fun w hw => (Kn.hd0 (Kn.tl (Kn.tlU hw))).at rfl) ?_
  simp only [qz]
  refine rfb_lss rfl rfl rfl rfl ?_
  intro x h3
  cases x
  · (try simp only [qd, ne_eq] at h3)
    simp only [qz]
    refine rg_nil (ek_next (wk_cond_f rfl (wk_exit (ek_then_exit (ek_then_exit (ek_block_exit (ek_next (wk_seq ?_))))))))
    obtain rfl : N = n := by omega
    have hyw := colS_W hok hlen.out hN (k := k) (l := l) (by omega) (by omega) N (by omega)
    rw [hy.out] at hyw
    have hFl := Fb_le (n := N) (by omega)
    have cn := fun w hs => wnum_any y (.slice ta0 (digs y.a.natAbs).length tc0) (.slice ta1 (digs y.b.natAbs).length tc1) (.slice ta2 (digs y.c.natAbs).length tc2) (.slice ta3 (digs y.d.natAbs).length tc3) (Nm.fit_mono hyw.1 (by have := Fb_pos N; omega)) hyw.2.1 (by omega) w hs
    obtain ⟨⟨v, bb⟩, hv⟩ : ∃ r, wnum y = r := ⟨_, rfl⟩
    rw [hv] at cn
    have hwn : Hid (wnum (colS xs N k l N) = (v, bb)) := Lib.hid (by rw [hy.out, hv])
    replace cn := Lib.hid cn
    clear hv
    refine wk_region [0, 1, 0, 0, 0, 1, 1, 0] rfl (by kernel_rfl) ?_
    simp only [qy]
    refine rf_loadR (n := 9) rfl rfl rfl Try.underlying73 rfl (by kernel_rfl) (fun w hw => Kn.hd0 (Kn.tlU hw)) rfl rfl ?_
    simp only [qz]
    apply rg_pure (by rfl) (by kernel_rfl)
    case hargs => (simp only [qm, qs, Act.eval]; exact rfl)
    case h => exact fun w hw => cn.out w (hsk.at hw (List.sublist_append_left _ _))
    case hz => exact (fun _ h => by cases h)
    simp only [qz]
    refine rg_move ?_
    simp only [qz]
    refine rf_extract rfl rfl rfl rfl ?_
    simp only [qz]
    refine rf_extract rfl rfl rfl rfl ?_
    simp only [qz]
    refine rg_new (cs := ?_) (ty := ?_) (by rfl) (fun w => ?_) (fun _ h => by cases h) (fun g3 => ?_); rotate_left 2
    focus (go_simp; rfl)
    simp only [qz]
    refine rf_storeR (n := 5) rfl rfl (by kernel_rfl) rfl rfl (UpdR.here _ _ _ (Nat.le_of_ble_eq_true rfl)) (fun _ h => by cases h) ?_
    simp only [qz, Nat.reduceAdd]
    refine rg_assign ?_
    simp only [qz]
    refine rg_nil (ek_next (wk_seq ?_))
    refine wk_region [0, 1, 1] rfl (by kernel_rfl) ?_
    simp only [qy]
    refine rf_build (cs := fun a => #[.int .i64 0, .int .i64 0, .int .i64 0, .int .i64 0, .int .i64 0]) rfl rfl (by kernel_rfl) ?_
    simp only [qz]
    refine rg_new (cs := ?_) (ty := ?_) (by rfl) (fun w => ?_) (fun _ h => by cases h) (fun g4 => ?_); rotate_left 2
    focus (go_simp; rfl)
    simp only [qz]
    refine rf_storeR (n := 5) rfl rfl (by kernel_rfl) rfl rfl (UpdR.here _ _ _ (Nat.le_of_ble_eq_true rfl)) (fun _ h => by cases h) ?_
    simp only [qz, Nat.reduceAdd]
    refine rg_nil (ek_next (wk_seq (wk_seq ?_)))
    refine wk_region [0, 0, 0] rfl (by kernel_rfl) ?_
    simp only [qy]
    refine rg_move ?_
    simp only [qz]
    refine rg_move ?_
    simp only [qz]
    refine rfb_eql rfl rfl rfl rfl ?_
    intro x h4
    cases x
    · (try simp only [qd, ne_eq] at h4)
      simp only [qz]
      refine rg_nil (ek_next (wk_cond_f rfl (wk_skip (ek_next (wk_seq ?_)))))
      refine wk_region [0, 0, 0, 0, 0, 0, 0] rfl (by kernel_rfl) ?_
      simp only [qy]
      refine rg_move ?_
      simp only [qz]
      apply rg_softb
      case hy => (intro w hw; go_simp; (try go_bits); exact Yld.mk _ _)
      intro x h5
      cases x
      · (try simp only [qd, ne_eq] at h5)
        simp only [qz]
        refine rg_move ?_
        simp only [qz]
        refine rf_loadR (n := 5) rfl rfl rfl Try.underlying29 rfl (by kernel_rfl) (fun w hw => Kn.hd0 (Kn.tl hw)) rfl rfl ?_
        simp only [qz]
        refine rf_loadR (n := 5) rfl rfl rfl Try.underlying29 rfl (by kernel_rfl) (fun w hw => Kn.hd0 hw) rfl rfl ?_
        simp only [qz]
        refine rfb_neN v Nm.zero rfl rfl rfl rfl ?_
        intro x h6
        cases x
        · (try simp only [qd, ne_eq] at h6)
          simp only [qz]
          have hnv : decide (v = Nm.zero) = true := by simpa using h6
          have hgood : wnum (colS xs N k l N) = (wantN k l, true) := by (rw [hwn.out]; unfold wantN; rw [if_neg (by omega), of_decide_eq_true hnv]; congr 1 <;> simpa using h5)
          refine rf_pick rfl rfl rfl ?_
          simp only [qz]
          refine rg_nil (ek_next (wk_cond_f rfl (wk_skip (ek_block (ek_next ?_)))))
          refine wk_region [0, 0, 0] rfl (by kernel_rfl) ?_
          simp only [qy]
          refine rg_move ?_
          simp only [qz]
          refine rf_add rfl rfl rfl rfl (wrap_ok (by omega) (by omega)) ?_
          simp only [qz]
          refine rg_assign ?_
          simp only [qz]
          refine rg_nil ?_
          refine ek_sub (sk _ (sk _ ((sk _ (sc _ sn)).trans (List.sublist_append_right _ _)))) ?_
          refine ek_roundF (N - (l + 1)) (by omega) (by kernel_rfl) ?_
          exact ⟨l + 1, rfl, by rfl, by rfl, (by omega), (fun l2 hl2 => by rcases (by omega : l2 < l ∨ l2 = l) with h | rfl; exact he2 l2 h; exact hgood)⟩
        (try simp only [qd, ne_eq] at h6)
        simp only [qz]
        have hnv : decide (v = Nm.zero) = false := by simpa using h6
        refine rf_pick rfl rfl rfl ?_
        simp only [qz]
        refine rg_nil (ek_next (wk_cond_t rfl (wk_seq ?_)))
        refine wk_region [0] rfl (by kernel_rfl) ?_
        simp only [qy]
        refine rg_assign ?_
        simp only [qz]
        refine rg_nil (ek_next (wk_ret (ek_block_ret (ek_then_ret (ek_then_ret (ek_block_ret (ek_block_ret (ek_then_ret (ek_then_ret (ek_block_ret (ek_then_ret ?_)))))))))))
        refine ek_ret (fun w hw => ⟨rfl, _, res_t _ rfl, ?_⟩)
        (try simp only [qz])
        exact ⟨false, rfl, ⟨fun h => (by cases h), fun h => by have hg := h k l (by omega) (by omega); rw [hwn.out] at hg; have h2 := congrArg Prod.fst hg; unfold wantN at h2; rw [if_neg (by omega)] at h2; exact absurd h2 (of_decide_eq_false hnv)⟩, hw.below⟩
      (try simp only [qd, ne_eq] at h5)
      simp only [qz]
      refine rg_move ?_
      simp only [qz]
      refine rg_skip (by rfl) ?_
      simp only [qz]
      refine rg_skip (by rfl) ?_
      simp only [qz]
      refine rg_skip (by rfl) ?_
      simp only [qz]
      refine rf_pick rfl rfl rfl ?_
      simp only [qz]
      refine rg_nil (ek_next (wk_cond_t rfl (wk_seq ?_)))
      refine wk_region [0] rfl (by kernel_rfl) ?_
      simp only [qy]
      refine rg_assign ?_
      simp only [qz]
      refine rg_nil (ek_next (wk_ret (ek_block_ret (ek_then_ret (ek_then_ret (ek_block_ret (ek_block_ret (ek_then_ret (ek_then_ret (ek_block_ret (ek_then_ret ?_)))))))))))
      refine ek_ret (fun w hw => ⟨rfl, _, res_t _ rfl, ?_⟩)
      (try simp only [qz])
      exact ⟨false, rfl, ⟨fun h => (by cases h), fun h => by have hg := h k l (by omega) (by omega); rw [hwn.out] at hg; have h2 := congrArg Prod.snd hg; simp_all⟩, hw.below⟩
    (try simp only [qd, ne_eq] at h4)
    simp only [qz]
    refine rg_nil (ek_next (wk_cond_t rfl ?_))
    refine wk_region [1, 1] rfl (by kernel_rfl) ?_
    simp only [qy]
    apply rg_pure (by rfl) (by kernel_rfl)
    case hargs => (simp only [qm, qs, Act.eval]; exact rfl)
    case h => exact fun w hw => rOne_any w
    case hz => exact (fun _ h => by cases h)
    simp only [qz]
    refine rf_storeR (n := 5) rfl rfl (by kernel_rfl) rfl rfl (UpdR.here _ _ _ (Nat.le_of_ble_eq_true rfl)) (fun _ h => by cases h) ?_
    simp only [qz, Nat.reduceAdd]
    refine rg_nil (ek_next (wk_seq ?_))
    refine wk_region [0, 0, 0, 0, 0, 0, 0] rfl (by kernel_rfl) ?_
    simp only [qy]
    refine rg_move ?_
    simp only [qz]
    apply rg_softb
    case hy => (intro w hw; go_simp; (try go_bits); exact Yld.mk _ _)
    intro x h7
    cases x
    · (try simp only [qd, ne_eq] at h7)
      simp only [qz]
      refine rg_move ?_
      simp only [qz]
      refine rf_loadR (n := 5) rfl rfl rfl Try.underlying29 rfl (by kernel_rfl) (fun w hw => Kn.hd0 (Kn.tl hw)) rfl rfl ?_
      simp only [qz]
      refine rf_loadR (n := 5) rfl rfl rfl Try.underlying29 rfl (by kernel_rfl) (fun w hw => Kn.hd0 hw) rfl rfl ?_
      simp only [qz]
      refine rfb_neN v Nm.one rfl rfl rfl rfl ?_
      intro x h8
      cases x
      · (try simp only [qd, ne_eq] at h8)
        simp only [qz]
        have hnv : decide (v = Nm.one) = true := by simpa using h8
        have hgood : wnum (colS xs N k l N) = (wantN k l, true) := by (rw [hwn.out]; unfold wantN; rw [if_pos (by omega), of_decide_eq_true hnv]; congr 1 <;> simpa using h7)
        refine rf_pick rfl rfl rfl ?_
        simp only [qz]
        refine rg_nil (ek_next (wk_cond_f rfl (wk_skip (ek_block (ek_next ?_)))))
        refine wk_region [0, 0, 0] rfl (by kernel_rfl) ?_
        simp only [qy]
        refine rg_move ?_
        simp only [qz]
        refine rf_add rfl rfl rfl rfl (wrap_ok (by omega) (by omega)) ?_
        simp only [qz]
        refine rg_assign ?_
        simp only [qz]
        refine rg_nil ?_
        refine ek_sub (sk _ (sk _ ((sk _ (sc _ sn)).trans (List.sublist_append_right _ _)))) ?_
        refine ek_roundF (N - (l + 1)) (by omega) (by kernel_rfl) ?_
        exact ⟨l + 1, rfl, by rfl, by rfl, (by omega), (fun l2 hl2 => by rcases (by omega : l2 < l ∨ l2 = l) with h | rfl; exact he2 l2 h; exact hgood)⟩
      (try simp only [qd, ne_eq] at h8)
      simp only [qz]
      have hnv : decide (v = Nm.one) = false := by simpa using h8
      refine rf_pick rfl rfl rfl ?_
      simp only [qz]
      refine rg_nil (ek_next (wk_cond_t rfl (wk_seq ?_)))
      refine wk_region [0] rfl (by kernel_rfl) ?_
      simp only [qy]
      refine rg_assign ?_
      simp only [qz]
      refine rg_nil (ek_next (wk_ret (ek_block_ret (ek_then_ret (ek_then_ret (ek_block_ret (ek_block_ret (ek_then_ret (ek_then_ret (ek_block_ret (ek_then_ret ?_)))))))))))
      refine ek_ret (fun w hw => ⟨rfl, _, res_t _ rfl, ?_⟩)
      (try simp only [qz])
      exact ⟨false, rfl, ⟨fun h => (by cases h), fun h => by have hg := h k l (by omega) (by omega); rw [hwn.out] at hg; have h2 := congrArg Prod.fst hg; unfold wantN at h2; rw [if_pos (by omega)] at h2; exact absurd h2 (of_decide_eq_false hnv)⟩, hw.below⟩
    (try simp only [qd, ne_eq] at h7)
    simp only [qz]
    refine rg_move ?_
    simp only [qz]
    refine rg_skip (by rfl) ?_
    simp only [qz]
    refine rg_skip (by rfl) ?_
    simp only [qz]
    refine rg_skip (by rfl) ?_
    simp only [qz]
    refine rf_pick rfl rfl rfl ?_
    simp only [qz]
    refine rg_nil (ek_next (wk_cond_t rfl (wk_seq ?_)))
    refine wk_region [0] rfl (by kernel_rfl) ?_
    simp only [qy]
    refine rg_assign ?_
    simp only [qz]
    refine rg_nil (ek_next (wk_ret (ek_block_ret (ek_then_ret (ek_then_ret (ek_block_ret (ek_block_ret (ek_then_ret (ek_then_ret (ek_block_ret (ek_then_ret ?_)))))))))))
    refine ek_ret (fun w hw => ⟨rfl, _, res_t _ rfl, ?_⟩)
    (try simp only [qz])
    exact ⟨false, rfl, ⟨fun h => (by cases h), fun h => by have hg := h k l (by omega) (by omega); rw [hwn.out] at hg; have h2 := congrArg Prod.snd hg; simp_all⟩, hw.below⟩
  (try simp only [qd, ne_eq] at h3)
  simp only [qz]
  refine rg_nil (ek_next (wk_cond_t rfl (wk_skip (ek_next (wk_seq (wk_block ?_))))))
  have hyw := colS_W hok hlen.out hN (k := k) (l := l) (by omega) (by omega) n (by omega)
  rw [hy.out] at hyw
  have hxs := ix_small (i := n) (N := N) (by omega) hN
  have ox := ok_at hok (show n * N + k < xs.length by have := hlen.out; omega)
  have oy := ok_at hok (show n * N + l < xs.length by have := hlen.out; omega)
  have hpw := prod_W ox oy
  obtain ⟨pr, hpr⟩ : ∃ r, (nm xs (n * N + k)).conj.mulR (nm xs (n * N + l)) = r := ⟨_, rfl⟩
  rw [hpr] at hpw
  replace hpr := Lib.hid hpr
  have haw := addR_W hyw.1 hyw.2.1 hyw.2.2 hpw.1 hpw.2.1 hpw.2.2
  have hFl := Fb_le (n := n) (by omega)
  refine wk_draws_m (hz1 := (List.Sublist.append_left (sk _ (sc _ sn)) _)) [(0, 0), (1, 0), (2, 0), (3, 0), (7, 0), (8, 0), (9, 0), (4, 1), (5, 1), (6, 1), (10, 1), (11, 1), (12, 1), (13, 1), (14, 2)] 14 (by kernel_rfl) (by kernel_rfl) (fun c d v a w h => by cases d <;> exact h) ?_
  simp only [List.map_cons, List.map_nil, List.getD_cons_zero, List.getD_cons_succ]
  refine rf_loadR (n := 9) rfl rfl rfl Try.underlying73 rfl (by kernel_rfl) (fun w hw => Kn.hd0 (Kn.tlU hw)) rfl rfl ?_
  simp only [qz]
  refine rf_loadR (n := 2) rfl rfl rfl Try.underlying24 rfl (by kernel_rfl) (fun w hw => Kn.hd0 (Kn.tl (Kn.tlU hw))) rfl rfl ?_
  simp only [qz]
  refine rg_move ?_
  simp only [qz]
  refine rg_move ?_
  simp only [qz]
  refine rf_loadR (n := 2) rfl rfl rfl Try.underlying24 rfl (by kernel_rfl) (fun w hw => Kn.hd0 (Kn.tl (Kn.tlU hw))) rfl rfl ?_
  simp only [qz]
  refine rg_move ?_
  simp only [qz]
  refine rg_move ?_
  simp only [qz]
  apply rg_pure (by rfl) (by kernel_rfl)
  case hargs => (simp only [qm, qs, Act.eval]; exact rfl)
  case h => exact fun w hw => rAt_any N n k xs a c hlen.out hN (by omega) (by omega) w (hA.kn0 hw)
  case hz => exact (fun _ h => by cases h; exact (List.Sublist.append_left (sc _ (sc _ sn)) _))
  simp only [qz]
  apply (rg_made (T := fun v u => ∃ s0 s1 s2 s3, v = wdV (nm xs (n * N + k)) s0 s1 s2 s3 ∧ SU4 u (nm xs (n * N + k)) s0 s1 s2 s3)) (by rfl) (by kernel_rfl)
  case hargs => (simp only [qm, qs, Act.eval]; exact rfl)
  case h => exact fun w hw => wideOf_any (nm xs (n * N + k)) (Nm.fit_mono ox.fit (by decide)) w
  case hz => exact (fun _ h => by cases h; exact (List.Sublist.append_left (sc _ (sc _ sn)) _))
  rintro _ u5 ⟨t0, t1, t2, t3, rfl, hS5⟩
  obtain ⟨⟨ta5_0, tc5_0, rfl⟩, -⟩ := id hS5.a
  obtain ⟨⟨ta5_1, tc5_1, rfl⟩, -⟩ := id hS5.b
  obtain ⟨⟨ta5_2, tc5_2, rfl⟩, -⟩ := id hS5.c
  obtain ⟨⟨ta5_3, tc5_3, rfl⟩, -⟩ := id hS5.d
  simp only [qz]
  apply rg_pure (by rfl) (by kernel_rfl)
  case hargs => (simp only [qm, qs, Act.eval]; exact rfl)
  case h => exact fun w hw => wconj_any (nm xs (n * N + k)) _ _ _ _ (fit382 ox.fit) w (hS5.at hw (List.sublist_append_left _ _))
  case hz => exact (fun _ h => by cases h; exact ((List.Sublist.append_left (sc _ (sc _ sn)) _).trans (List.sublist_append_right _ _)))
  simp only [qz]
  apply rg_pure (by rfl) (by kernel_rfl)
  case hargs => (simp only [qm, qs, Act.eval]; exact rfl)
  case h => exact fun w hw => rAt_any N n l xs a c hlen.out hN (by omega) (by omega) w (hA.kn0 hw)
  case hz => exact (fun _ h => by cases h; exact ((List.Sublist.append_left (sc _ (sc _ sn)) _).trans (List.sublist_append_right _ _)))
  simp only [qz]
  apply (rg_made (T := fun v u => ∃ s0 s1 s2 s3, v = wdV (nm xs (n * N + l)) s0 s1 s2 s3 ∧ SU4 u (nm xs (n * N + l)) s0 s1 s2 s3)) (by rfl) (by kernel_rfl)
  case hargs => (simp only [qm, qs, Act.eval]; exact rfl)
  case h => exact fun w hw => wideOf_any (nm xs (n * N + l)) (Nm.fit_mono oy.fit (by decide)) w
  case hz => exact (fun _ h => by cases h; exact ((List.Sublist.append_left (sc _ (sc _ sn)) _).trans (List.sublist_append_right _ _)))
  rintro _ u6 ⟨t0, t1, t2, t3, rfl, hS6⟩
  obtain ⟨⟨ta6_0, tc6_0, rfl⟩, -⟩ := id hS6.a
  obtain ⟨⟨ta6_1, tc6_1, rfl⟩, -⟩ := id hS6.b
  obtain ⟨⟨ta6_2, tc6_2, rfl⟩, -⟩ := id hS6.c
  obtain ⟨⟨ta6_3, tc6_3, rfl⟩, -⟩ := id hS6.d
  simp only [qz]
  apply (rg_made (T := fun v u => ∃ s0 s1 s2 s3, v = wdV (pr) s0 s1 s2 s3 ∧ SU4 u (pr) s0 s1 s2 s3)) (by rfl) (by kernel_rfl)
  case hargs => (simp only [qm, qs, Act.eval]; exact rfl)
  case h => exact fun w hw => by have := wtimes_any (nm xs (n * N + k)).conj (nm xs (n * N + l)) _ _ _ _ _ _ _ _ (fit382 (conj_ok ox).fit) (fit382 oy.fit) (prodB_ok (conj_ok ox).fit oy.fit) ox.k0 (by have := ox.k1; simp only [Nm.conj]; omega) oy.k0 (by have := oy.k1; omega) w (hS5.at hw ((List.sublist_append_left _ _).trans (List.sublist_append_right _ _))).conj (hS6.at hw (List.sublist_append_left _ _)); rw [hpr.out] at this; exact this
  case hz => exact (fun _ h => by cases h; exact (((List.Sublist.append_left (sc _ (sc _ sn)) _).trans (List.sublist_append_right _ _)).trans (List.sublist_append_right _ _)))
  rintro _ u7 ⟨t0, t1, t2, t3, rfl, hS7⟩
  obtain ⟨⟨ta7_0, tc7_0, rfl⟩, -⟩ := id hS7.a
  obtain ⟨⟨ta7_1, tc7_1, rfl⟩, -⟩ := id hS7.b
  obtain ⟨⟨ta7_2, tc7_2, rfl⟩, -⟩ := id hS7.c
  obtain ⟨⟨ta7_3, tc7_3, rfl⟩, -⟩ := id hS7.d
  simp only [qz]
  apply (rg_made (T := fun v u => ∃ s0 s1 s2 s3, v = wdV (y.addR pr) s0 s1 s2 s3 ∧ SU4 u (y.addR pr) s0 s1 s2 s3)) (by rfl) (by kernel_rfl)
  case hargs => (simp only [qm, qs, Act.eval]; exact rfl)
  case h => exact fun w hw => wplus_any y pr _ _ _ _ _ _ _ _ (Nm.fit_mono haw.1 hFl) (Nm.fit_mono haw.2.1 hFl) hyw.2.1 (by omega) hpw.2.1 (by omega) w (hsk.at hw ((((List.sublist_append_left _ _).trans (List.sublist_append_right _ _)).trans (List.sublist_append_right _ _)).trans (List.sublist_append_right _ _))) (hS7.at hw (List.sublist_append_left _ _))
  case hz => exact (fun _ h => by cases h; exact ((((List.Sublist.append_left (sc _ (sc _ sn)) _).trans (List.sublist_append_right _ _)).trans (List.sublist_append_right _ _)).trans (List.sublist_append_right _ _)))
  rintro _ u8 ⟨t0, t1, t2, t3, rfl, hS8⟩
  obtain ⟨⟨ta8_0, tc8_0, rfl⟩, -⟩ := id hS8.a
  obtain ⟨⟨ta8_1, tc8_1, rfl⟩, -⟩ := id hS8.b
  obtain ⟨⟨ta8_2, tc8_2, rfl⟩, -⟩ := id hS8.c
  obtain ⟨⟨ta8_3, tc8_3, rfl⟩, -⟩ := id hS8.d
  simp only [qz]
  refine rf_storeRM (n := 9) rfl rfl (by kernel_rfl) rfl rfl (UpdR.app _ (UpdR.app _ (UpdR.app _ (UpdR.app _ (UpdR.app _ (UpdR.here _ _ _ (Nat.le_of_ble_eq_true rfl))))))) (((((List.Sublist.append_left (sk _ (sc _ sn)) _).trans (List.sublist_append_right _ _)).trans (List.sublist_append_right _ _)).trans (List.sublist_append_right _ _)).trans (List.sublist_append_right _ _)) ?_
  simp only [qz, Nat.reduceAdd]
  refine rg_nil (ek_block (ek_next ?_))
  refine wk_region [0, 0, 0] rfl (by kernel_rfl) ?_
  simp only [qy]
  refine rg_move ?_
  simp only [qz]
  refine rf_add rfl rfl rfl rfl (wrap_ok (by omega) (by omega)) ?_
  simp only [qz]
  refine rg_assign ?_
  simp only [qz]
  refine rg_nil ?_
  refine ek_sub (List.Sublist.append_left (((((sc _ (sc _ sn)).trans (List.sublist_append_right _ _)).trans (List.sublist_append_right _ _)).trans (List.sublist_append_right _ _)).trans (List.sublist_append_right _ _)) _) ?_
  refine ek_roundF (N - (n + 1)) (by omega) (by kernel_rfl) ?_
  exact ⟨n + 1, y.addR pr, ta8_0, ta8_1, ta8_2, ta8_3, tc8_0, tc8_1, tc8_2, tc8_3, u8, rfl, by rfl, by rfl, (by omega), (Lib.hid (by rw [colS, hy.out, hpr.out])), (SK4.own hS8)⟩

end Go.Proofs.Ytjeijnjaleldkaa
namespace Go.Proofs.Ytjeijnjaleldkaa
set_option linter.all false

theorem mul_b {x y A B : Int} (hx : -A ≤ x ∧ x ≤ A) (hy : -B ≤ y ∧ y ≤ B) : -(A * B) ≤ x * y ∧ x * y ≤ A * B := by
  have h1 : x.natAbs ≤ A.toNat := by omega
  have h2 : y.natAbs ≤ B.toNat := by omega
  have h3 := Nat.mul_le_mul h1 h2
  rw [← Int.natAbs_mul] at h3
  have h4 : ((A.toNat * B.toNat : Nat) : Int) = A * B := by
    rw [Int.natCast_mul, Int.toNat_of_nonneg (by omega), Int.toNat_of_nonneg (by omega)]
  omega
theorem dh_zero : Q4.dh 0 = 0 := by
  apply Q4.ext' <;> simp only [Q4.dh, Q4.za, Q4.zb, Q4.zc, Q4.zd] <;> grind
theorem dn_zero : ∀ n, Q4.dn n 0 = 0
  | 0 => rfl
  | n + 1 => by
    show Q4.dn n (Q4.dh 0) = 0
    rw [dh_zero]; exact dn_zero n
theorem dh_two (r : Rat) : Q4.dh (Q4.dh ⟨2 * r, 0, 0, 0⟩) = ⟨r, 0, 0, 0⟩ := by
  apply Q4.ext' <;> simp only [Q4.dh] <;> grind
theorem dn_two : ∀ k : Nat, Q4.dn (k + k) ⟨(((2 : Int) ^ k : Int) : Rat), 0, 0, 0⟩ = 1
  | 0 => by
    apply Q4.ext' <;> rfl
  | k + 1 => by
    rw [show k + 1 + (k + 1) = (k + k) + 1 + 1 by omega]
    show Q4.dn (k + k) (Q4.dh (Q4.dh _)) = 1
    rw [show (((2 : Int) ^ (k + 1) : Int) : Rat) = 2 * (((2 : Int) ^ k : Int) : Rat) by
      rw [Int.pow_succ, Rat.intCast_mul]; grind, dh_two]
    exact dn_two k
theorem val_add4 (a b c d a' b' c' d' k : Int) : (⟨a + a', b + b', c + c', d + d', k⟩ : Nm).val = (⟨a, b, c, d, k⟩ : Nm).val + (⟨a', b', c', d', k⟩ : Nm).val := by
  unfold Nm.val
  rw [← Q4.dn_add]
  congr 1
  apply Q4.ext' <;> simp only [Nm.co, Q4.aa, Q4.ab, Q4.ac, Q4.ad, Rat.intCast_add]
theorem one_dl (i j : Nat) : (wantN i j).val = dl i j := by
  unfold wantN dl
  split
  · exact val_one
  exact val_zero
theorem wnum_iff {z : Nm} (h : 0 ≤ z.k) (i j : Nat) : wnum z = (wantN i j, true) ↔ z.val = dl i j := by
  rw [← one_dl]
  constructor
  · intro hw
    unfold wnum at hw
    split at hw
    · have h1 := congrArg Prod.fst hw
      dsimp only at h1
      rw [← h1]
      exact (val_eqv (nf_k h).1 h (nf_eqv z)).symm
    exact absurd (congrArg Prod.snd hw) (by simp)
  intro hv
  have hk : 0 ≤ (wantN i j).k := by unfold wantN; split <;> decide
  have h1 := nf_eq h hk (eqv_val h hk hv)
  have h2 : (wantN i j).nf = wantN i j := by unfold wantN; split <;> decide
  unfold wnum
  rw [h1, h2]
  unfold wantN
  split <;> decide
def rowN (xs : List Nm) (N : Nat) (K : Int) (i j n : Nat) : Nm := ⟨rowS xs N K i j n 0, rowS xs N K i j n 1, rowS xs N K i j n 2, rowS xs N K i j n 3, K + K⟩
theorem acc2 (x y : Nm) : (⟨acc (acc (sel4 1 0 0 0) (sel4 x.a x.b x.c x.d) 16) (sel4 y.a y.b y.c y.d) 16 0, acc (acc (sel4 1 0 0 0) (sel4 x.a x.b x.c x.d) 16) (sel4 y.a y.b y.c y.d) 16 1, acc (acc (sel4 1 0 0 0) (sel4 x.a x.b x.c x.d) 16) (sel4 y.a y.b y.c y.d) 16 2, acc (acc (sel4 1 0 0 0) (sel4 x.a x.b x.c x.d) 16) (sel4 y.a y.b y.c y.d) 16 3, 0 + x.k + y.k⟩ : Nm) = (Nm.one.mulR x).mulR y := by
  have h := acc_16 Nm.one x
  generalize hp : Nm.one.mulR x = p at h ⊢
  have ha : acc (sel4 1 0 0 0) (sel4 x.a x.b x.c x.d) 16 0 = p.a := congrArg Nm.a h
  have hb : acc (sel4 1 0 0 0) (sel4 x.a x.b x.c x.d) 16 1 = p.b := congrArg Nm.b h
  have hc : acc (sel4 1 0 0 0) (sel4 x.a x.b x.c x.d) 16 2 = p.c := congrArg Nm.c h
  have hd : acc (sel4 1 0 0 0) (sel4 x.a x.b x.c x.d) 16 3 = p.d := congrArg Nm.d h
  have hk : 0 + x.k = p.k := congrArg Nm.k h
  have hX : ∀ i, i < 4 → acc (sel4 1 0 0 0) (sel4 x.a x.b x.c x.d) 16 i = sel4 p.a p.b p.c p.d i := fun i hi => by
    rcases (by omega : i = 0 ∨ i = 1 ∨ i = 2 ∨ i = 3) with rfl | rfl | rfl | rfl
    · exact ha
    · exact hb
    · exact hc
    · exact hd
  have e := fun m => acc_congr (Y := sel4 y.a y.b y.c y.d) hX (fun _ _ => rfl) 16 m (by omega)
  rw [e 0, e 1, e 2, e 3, hk]
  exact acc_16 p y
theorem rowN_val {xs : List Nm} {N : Nat} {K : Int} {i j : Nat} (hi : i < N) (hj : j < N) (hk : ∀ a b, a < N → b < N → 0 ≤ (nm xs (a * N + b)).k ∧ (nm xs (a * N + b)).k ≤ K) : ∀ n, n ≤ N → (rowN xs N K i j n).val = sumQ n fun k => (nm xs (i * N + k)).val * Q4.conj (nm xs (j * N + k)).val
  | 0, _ => by
    show Q4.dn _ (Nm.co ⟨0, 0, 0, 0, K + K⟩) = 0
    exact dn_zero _
  | n + 1, hn => by
    have ih := rowN_val hi hj hk n (by omega)
    have h1 := hk i n hi (by omega)
    have h2 := hk j n hj (by omega)
    have k1 := Nm.to_k (z := nm xs (i * N + n)) (m := K) h1.2
    have k2 := Nm.to_k (z := nm xs (j * N + n)) (m := K) h2.2
    have e := acc2 ((nm xs (i * N + n)).to K) ((nm xs (j * N + n)).to K).conj
    have ek : 0 + ((nm xs (i * N + n)).to K).k + ((nm xs (j * N + n)).to K).conj.k = K + K := by
      show 0 + ((nm xs (i * N + n)).to K).k + ((nm xs (j * N + n)).to K).k = K + K
      omega
    rw [ek] at e
    show (rowN xs N K i j (n + 1)).val = sumQ n _ + _
    rw [← ih]
    have hv : ((Nm.one.mulR ((nm xs (i * N + n)).to K)).mulR ((nm xs (j * N + n)).to K).conj).val = (nm xs (i * N + n)).val * Q4.conj (nm xs (j * N + n)).val := by
      rw [val_mulR (by show 0 ≤ 0 + ((nm xs (i * N + n)).to K).k; omega) (by show 0 ≤ ((nm xs (j * N + n)).to K).k; omega), val_mulR (by decide) (by omega), val_conj, to_up h1.1, to_up h2.1, val_one, Q4.one_mul]
    show _ = _ + (nm xs (i * N + n)).val * Q4.conj (nm xs (j * N + n)).val
    rw [← hv, ← e]
    exact val_add4 (rowS xs N K i j n 0) (rowS xs N K i j n 1) (rowS xs N K i j n 2) (rowS xs N K i j n 3) _ _ _ _ (K + K)
theorem wantS_val {K : Int} (hK : 0 ≤ K) (i j : Nat) : (⟨wantS K i j 0, wantS K i j 1, wantS K i j 2, wantS K i j 3, K + K⟩ : Nm).val = dl i j := by
  unfold wantS dl
  split
  · show Q4.dn (K + K).toNat _ = 1
    rw [show (K + K).toNat = K.toNat + K.toNat by omega]
    exact dn_two K.toNat
  exact dn_zero _
theorem wantS_b {K : Int} (hK0 : 0 ≤ K) (hK : K ≤ 40) (i j m : Nat) : 0 ≤ wantS K i j m ∧ wantS K i j m ≤ 1099511627776 := by
  have hp := pow40 (k := K.toNat) (by omega)
  unfold wantS
  split
  · show 0 ≤ (if m = 0 then _ else (0 : Int)) ∧ (if m = 0 then _ else (0 : Int)) ≤ _
    split <;> omega
  show (0 : Int) ≤ 0 ∧ (0 : Int) ≤ _
  omega
theorem rowS_b {xs : List Nm} {N : Nat} {K : Int} (hok : allOk xs = true) (hlen : xs.length = N * N) (hN : N ≤ 6) {i j : Nat} (hi : i < N) (hj : j < N) (hK : K ≤ 40) (hKz : ∀ z ∈ xs, z.k ≤ K) (m : Nat) : ∀ n, n ≤ N → -(n * 300000000000000000000000000000000000 : Int) ≤ rowS xs N K i j n m ∧ rowS xs N K i j n m ≤ n * 300000000000000000000000000000000000
  | 0, _ => by show _ ≤ (0 : Int) ∧ (0 : Int) ≤ _; omega
  | n + 1, hn => by
    have ih := rowS_b hok hlen hN hi hj hK hKz m n (by omega)
    obtain ⟨-, -, -, f0, f1, f2, f3, f4, f5, f6, f7⟩ := entry_fit (K := K) hok hlen hN hi (show n < N by omega) hK hKz
    obtain ⟨-, -, -, g0, g1, g2, g3, g4, g5, g6, g7⟩ := entry_fit (K := K) hok hlen hN hj (show n < N by omega) hK hKz
    have s4 : ∀ {a b c d M : Int}, (-M ≤ a ∧ a ≤ M) → (-M ≤ b ∧ b ≤ M) → (-M ≤ c ∧ c ≤ M) → (-M ≤ d ∧ d ≤ M) → ∀ k, k < 4 → -M ≤ sel4 a b c d k ∧ sel4 a b c d k ≤ M := fun ha hb hc hd k hk => by
      rcases (by omega : k = 0 ∨ k = 1 ∨ k = 2 ∨ k = 3) with rfl | rfl | rfl | rfl
      · exact ha
      · exact hb
      · exact hc
      · exact hd
    have hX := s4 (a := 1) (b := 0) (c := 0) (d := 0) (M := 1) (by omega) (by omega) (by omega) (by omega)
    have hx := s4 ⟨f0, f1⟩ ⟨f2, f3⟩ ⟨f4, f5⟩ ⟨f6, f7⟩
    have hy := s4 (a := ((nm xs (j * N + n)).to K).a) (b := -((nm xs (j * N + n)).to K).d) (c := -((nm xs (j * N + n)).to K).c) (d := -((nm xs (j * N + n)).to K).b) (M := 1048576000000000) (by omega) (by omega) (by omega) (by omega)
    have hA := acc_bound (M := 1 * 1048576000000000) (by omega) (fun a b ha hb => mul_b (hX a ha) (hx b hb)) 16
    have hB := acc_bound (M := 16 * (1 * 1048576000000000) * 1048576000000000) (by omega) (fun a b ha hb => mul_b (hA a (by omega)) (hy b hb)) 16 m (by omega)
    show _ ≤ rowS xs N K i j n m + _ ∧ rowS xs N K i j n m + _ ≤ _
    generalize acc (acc (sel4 1 0 0 0) (sel4 ((nm xs (i * N + n)).to K).a ((nm xs (i * N + n)).to K).b ((nm xs (i * N + n)).to K).c ((nm xs (i * N + n)).to K).d) 16) (sel4 ((nm xs (j * N + n)).to K).a (-((nm xs (j * N + n)).to K).d) (-((nm xs (j * N + n)).to K).c) (-((nm xs (j * N + n)).to K).b)) 16 m = t at hB ⊢
    simp only [Int.natCast_add] at *
    omega
theorem colS_val {xs : List Nm} {N k l : Nat} (hok : allOk xs = true) (hlen : xs.length = N * N) (hN : N ≤ 6) (hk : k < N) (hl : l < N) : ∀ n, n ≤ N → (colS xs N k l n).val = sumQ n fun i => Q4.conj (nm xs (i * N + k)).val * (nm xs (i * N + l)).val
  | 0, _ => val_zero
  | n + 1, hn => by
    have hx := ix_small (i := n) (N := N) (by omega) hN
    have o1 := ok_at hok (show n * N + k < xs.length by omega)
    have o2 := ok_at hok (show n * N + l < xs.length by omega)
    have p := prod_W o1 o2
    show ((colS xs N k l n).addR _).val = sumQ n _ + _
    rw [val_addR (colS_W hok hlen hN hk hl n (by omega)).2.1 p.2.1, colS_val hok hlen hN hk hl n (by omega), val_mulR (by simp only [Nm.conj]; exact o1.k0) o2.k0, val_conj]
theorem un_join {xs : List Nm} {N : Nat} {K : Int} (hok : allOk xs = true) (hlen : xs.length = N * N) (hN : N ≤ 6) (hK0 : 0 ≤ K) (hK : K ≤ 40) (hKz : ∀ z ∈ xs, z.k ≤ K) :
    (∀ i j, i < N → j < N → smEq (rowS xs N K i j N) (wantS K i j) = true) ↔ ∀ k l, k < N → l < N → wnum (colS xs N k l N) = (wantN k l, true) := by
  have hkk : ∀ a b, a < N → b < N → 0 ≤ (nm xs (a * N + b)).k ∧ (nm xs (a * N + b)).k ≤ K := fun a b ha hb => by
    have := entry_fit (K := K) hok hlen hN ha hb hK hKz
    exact ⟨this.2.1, this.2.2.1⟩
  have R : (∀ i j, i < N → j < N → smEq (rowS xs N K i j N) (wantS K i j) = true) ↔ UnR N fun i k => (nm xs (i * N + k)).val := by
    have one : ∀ i j, i < N → j < N → (smEq (rowS xs N K i j N) (wantS K i j) = true ↔ sumQ N (fun k => (nm xs (i * N + k)).val * Q4.conj (nm xs (j * N + k)).val) = dl i j) := fun i j hi hj => by
      rw [← rowN_val hi hj hkk N (by omega), ← wantS_val hK0 i j]
      rw [smEq_iff (fun m _ => by have := rowS_b hok hlen hN hi hj hK hKz m N (by omega); unfold In384; omega) (fun m _ => by have := wantS_b hK0 hK i j m; unfold In384; omega)]
      constructor
      · intro h
        unfold rowN
        rw [h 0 (by omega), h 1 (by omega), h 2 (by omega), h 3 (by omega)]
      · intro h
        have h1 := co_inj (x := rowN xs N K i j N) (y := ⟨wantS K i j 0, wantS K i j 1, wantS K i j 2, wantS K i j 3, K + K⟩) rfl (Q4.dn_inj (K + K).toNat h)
        intro m hm
        rcases (by omega : m = 0 ∨ m = 1 ∨ m = 2 ∨ m = 3) with rfl | rfl | rfl | rfl
        · exact congrArg Nm.a h1
        · exact congrArg Nm.b h1
        · exact congrArg Nm.c h1
        · exact congrArg Nm.d h1
    exact ⟨fun h i j hi hj => (one i j hi hj).1 (h i j hi hj), fun h i j hi hj => (one i j hi hj).2 (h i j hi hj)⟩
  have C : (∀ k l, k < N → l < N → wnum (colS xs N k l N) = (wantN k l, true)) ↔ UnC N fun i k => (nm xs (i * N + k)).val := by
    have one : ∀ k l, k < N → l < N → (wnum (colS xs N k l N) = (wantN k l, true) ↔ sumQ N (fun i => Q4.conj (nm xs (i * N + k)).val * (nm xs (i * N + l)).val) = dl k l) := fun k l hk hl => by
      rw [← colS_val hok hlen hN hk hl N (by omega)]
      exact wnum_iff (colS_W hok hlen hN hk hl N (by omega)).2.1 k l
    exact ⟨fun h i j hi hj => (one i j hi hj).1 (h i j hi hj), fun h i j hi hj => (one i j hi hj).2 (h i j hi hj)⟩
  exact R.trans (unR_iff.trans C.symm)
end Go.Proofs.Ytjeijnjaleldkaa
namespace Go.Proofs.Ytjeijnjaleldkaa
set_option linter.all false
open Go.RowKit

open Classical in
/-- Whether the columns are what they should be. -/
noncomputable def unB (n : Int) (xs : List Nm) : Bool := decide (∀ k l, k < n.toNat → l < n.toNat → wnum (colS xs n.toNat k l n.toNat) = (wantN k l, true))
open Classical in
theorem unB_iff {N : Nat} {xs : List Nm} : unB N xs = true ↔ ∀ k l, k < N → l < N → wnum (colS xs N k l N) = (wantN k l, true) := by
  unfold unB
  rw [decide_eq_true_eq]
  rfl
theorem validB_true {n : Int} {xs : List Nm} (h : validB n xs = true) : ∃ N : Nat, n = N ∧ 1 ≤ N ∧ N ≤ 6 ∧ xs.length = N * N ∧ xs.length ≤ 36 ∧ allOk xs = true := by
  simp only [validB, Bool.and_eq_true, decide_eq_true_eq] at h
  obtain ⟨h1, h2, h3, h4⟩ := h
  obtain ⟨N, rfl⟩ : ∃ N : Nat, n = N := ⟨n.toNat, by omega⟩
  have h5 : xs.length = N * N := by
    have e : ((N * N : Nat) : Int) = (N : Int) * N := Int.natCast_mul N N
    omega
  have h6 : N * N ≤ 6 * 6 := Nat.mul_le_mul (by omega) (by omega)
  exact ⟨N, rfl, by omega, by omega, h5, by omega, h4⟩
theorem expo_take {xs : List Nm} (hok : allOk xs = true) : ∀ i, i ≤ xs.length → 0 ≤ expo (xs.take i) ∧ expo (xs.take i) ≤ 40 ∧ ∀ k, k < i → (nm xs k).k ≤ expo (xs.take i)
  | 0, _ => ⟨by show (0 : Int) ≤ 0; decide, by show (0 : Int) ≤ 40; decide, fun k hk => absurd hk (by omega)⟩
  | i + 1, h => by
    obtain ⟨h1, h2, h3⟩ := expo_take hok i (by omega)
    have o := ok_at hok (show i < xs.length by omega)
    have o0 := o.k0
    have o1 := o.k1
    rw [expo_succ (by omega)]
    split
    · exact ⟨by omega, by omega, fun k hk => by
        rcases (by omega : k < i ∨ k = i) with hk | rfl
        · have := h3 k hk; omega
        · omega⟩
    · exact ⟨by omega, by omega, fun k hk => by
        rcases (by omega : k < i ∨ k = i) with hk | rfl
        · exact h3 k hk
        · omega⟩
theorem expo_ok {xs : List Nm} (hok : allOk xs = true) : 0 ≤ expo xs ∧ expo xs ≤ 40 ∧ ∀ z ∈ xs, z.k ≤ expo xs := by
  have h := expo_take hok xs.length (by omega)
  rw [List.take_length] at h
  refine ⟨h.1, h.2.1, fun z hz => ?_⟩
  obtain ⟨k, hk, rfl⟩ := List.getElem_of_mem hz
  have := h.2.2 k hk
  have e : nm xs k = xs[k] := by
    unfold nm El.at
    rw [List.getD_eq_getElem?_getD, List.getElem?_eq_getElem hk]
    rfl
  rw [e] at this
  exact this
set_option maxRecDepth 100000 in
set_option maxHeartbeats 1000000 in
theorem unitary_bad (n : Int) (xs : List Nm) (a : Option Addr) (c : Nat) (hl : xs.length ≤ 1000000) (hv : Hid (validB n xs = false)) (w : World) (hA : AS w a (nms xs)) : Calls Try.prog 35 #[.agg #[.int .i64 n, .slice a xs.length c]] w fun e w' => e = .returned (.tuple #[.bool false, .int .i64 20]) ∧ Below w.heap.size w w' := by
  go_enter Try.func35, Try.ntmps35
  refine wk_start ?_
  refine wk_seq ?_
  refine wk_region [1, 0, 0] rfl (by kernel_rfl) ?_
  simp only [qy]
  refine rg_new (cs := ?_) (ty := ?_) (by rfl) (fun w => ?_) (fun _ h => by cases h) (fun g1 => ?_); rotate_left 2
  focus (go_simp; rfl)
  simp only [qz]
  refine rg_assign ?_
  simp only [qz]
  refine rg_assign ?_
  simp only [qz]
  refine rg_nil (ek_next (wk_seq (wk_seq ?_)))
  refine wk_region [0, 1, 0] rfl (by kernel_rfl) ?_
  simp only [qy]
  refine rf_loadR (n := 2) rfl rfl rfl Try.underlying24 rfl (by kernel_rfl) (fun w hw => Kn.hd0 hw) rfl rfl ?_
  simp only [qz]
  apply rg_pure (by rfl) (by kernel_rfl)
  case hargs => (simp only [qm, qs, Act.eval]; exact rfl)
  case h => exact fun w hw => by have := mvalid_any n xs a c hl w (hA.kn0 hw); rw [hv.out] at this; exact this
  case hz => exact (fun _ h => by cases h)
  simp only [qz]
  refine rf_not rfl rfl rfl ?_
  simp only [qz]
  refine rg_nil (ek_next (wk_cond_t rfl (wk_seq ?_)))
  refine wk_region [0, 0] rfl (by kernel_rfl) ?_
  simp only [qy]
  refine rg_assign ?_
  simp only [qz]
  refine rg_assign ?_
  simp only [qz]
  refine rg_nil (ek_next (wk_ret (ek_then_ret ?_)))
  refine ek_ret (fun w hw => ⟨rfl, _, res_tt _ _ rfl, ?_⟩)
  (try simp only [qz])
  first | exact ⟨rfl, hw.below⟩ | exact ⟨trivial, hw.below⟩ | exact hw.below

theorem unitary_any (n : Int) (xs : List Nm) (a : Option Addr) (c : Nat) (hl : xs.length ≤ 1000000) (w : World) (hA : AS w a (nms xs)) : Calls Try.prog 35 #[.agg #[.int .i64 n, .slice a xs.length c]] w fun e w' => e = .returned (.tuple #[.bool (validB n xs && unB n xs), .int .i64 (if validB n xs = true then 0 else 20)]) ∧ Below w.heap.size w w' := by
  rcases hv : validB n xs with _ | _
  · exact unitary_bad n xs a c hl (Lib.hid hv) w hA
  obtain ⟨N, rfl, h1, h6, hlen, h36, hok⟩ := validB_true hv
  obtain ⟨k0, k1, k2⟩ := expo_ok hok
  refine (unitary_walk N (expo xs) xs a c h1 h6 (Lib.hid hlen) h36 hok (Lib.hid hv) (Lib.hid rfl) k0 k1 k2 w hA).mono ?_
  rintro e w' ⟨b, rfl, hb, hw⟩
  rw [un_join hok hlen h6 k0 k1 k2] at hb
  refine ⟨?_, hw⟩
  have e : b = unB N xs := by
    rw [Bool.eq_iff_iff, hb, unB_iff]
  rw [e]
  rfl
theorem rUn_any (n : Int) (xs : List Nm) (a : Option Addr) (c : Nat) (hv : validB n xs = true) (w : World) (hA : AS w a (nms xs)) : Calls Try.prog 57 #[.agg #[.int .i64 n, .slice a xs.length c]] w fun e w' => e = .returned (.bool (unB n xs)) ∧ Below w.heap.size w w' := by
  obtain ⟨N, rfl, h1, h6, hlen, h36, hok⟩ := validB_true hv
  refine (runitary_walk N xs a c h1 h6 (Lib.hid hlen) h36 hok w hA).mono ?_
  rintro e w' ⟨b, rfl, hb, hw⟩
  refine ⟨?_, hw⟩
  have e : b = unB N xs := by
    rw [Bool.eq_iff_iff, hb, unB_iff]
  rw [e]
end Go.Proofs.Ytjeijnjaleldkaa
namespace Go.Proofs.Ytjeijnjaleldkaa
set_option linter.all false

theorem nm_okA {xs : List Nm} (h : allOk xs = true) (k : Nat) : (nm xs k).Ok := by
  by_cases hk : k < xs.length
  · exact ok_at h hk
  · have e : nm xs k = Nm.zero := by
      show El.at NmE xs k = _
      unfold El.at
      rw [List.getD_eq_getElem?_getD, List.getElem?_eq_none (by omega)]
      rfl
    rw [e]; exact zero_ok
def tb (N : Nat) (xs : List Nm) (i k : Nat) : Q4 := (nm xs (i * N + k)).val
theorem validB_mk {N : Nat} {l : List Nm} (h1 : 1 ≤ N) (h6 : N ≤ 6) (hl : l.length = N * N) (ho : allOk l = true) : validB N l = true := by
  have e : ((N * N : Nat) : Int) = (N : Int) * N := Int.natCast_mul N N
  unfold validB
  simp only [Bool.and_eq_true, decide_eq_true_eq]
  exact ⟨by omega, by omega, by omega, ho⟩
theorem made_valid {N : Nat} {f : Nat → Nat → NR} {l : List Nm} (h1 : 1 ≤ N) (h6 : N ≤ 6) (h : madeR N f = .ok l) (hf : ∀ i k z, i < N → k < N → f i k = .ok z → z.Ok) : validB N l = true := by
  refine validB_mk h1 h6 (made_len h) (allOk_true fun t ht => okB_iff.2 ?_)
  have hl := made_len h
  have hg := gather_get h t (by omega)
  have ht' : t < N * N := by omega
  exact hf (t / N) (t % N) _ (Nat.div_lt_of_lt_mul ht') (Nat.mod_lt _ (by omega)) hg
theorem rC_gather {f : Nat → NR} {t : Nat} (hf : ∀ i c, i < t → f i = .error c → c ≠ 0) (h : rC (gather f t) = 0) : ∃ l, gather f t = .ok l := by
  cases hg : gather f t with
  | ok l => exact ⟨l, rfl⟩
  | error c =>
    obtain ⟨i, hi, he⟩ := gather_err_mem hg
    rw [hg] at h
    exact absurd h (hf i c hi he)
theorem unB_C {N : Nat} {xs : List Nm} (hv : validB N xs = true) : unB N xs = true ↔ UnC N (tb N xs) := by
  obtain ⟨N', e, h1, h6, hlen, h36, hok⟩ := validB_true hv
  obtain rfl : N' = N := by omega
  rw [unB_iff]
  have one : ∀ k l, k < N' → l < N' → (wnum (colS xs N' k l N') = (wantN k l, true) ↔ sumQ N' (fun i => Q4.conj (nm xs (i * N' + k)).val * (nm xs (i * N' + l)).val) = dl k l) := fun k l hk hl => by
    rw [← colS_val hok hlen h6 hk hl N' (by omega)]
    exact wnum_iff (colS_W hok hlen h6 hk hl N' (by omega)).2.1 k l
  exact ⟨fun h i j hi hj => (one i j hi hj).1 (h i j hi hj), fun h i j hi hj => (one i j hi hj).2 (h i j hi hj)⟩
theorem unC_congr {n : Nat} {a b : Nat → Nat → Q4} (h : ∀ i k, i < n → k < n → a i k = b i k) (hb : UnC n b) : UnC n a := by
  intro i j hi hj
  rw [← hb i j hi hj]
  exact sumQ_congr fun k hk => by rw [h k i hk hi, h k j hk hj]
end Go.Proofs.Ytjeijnjaleldkaa
