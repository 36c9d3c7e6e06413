/- Several texts in one. -/
import Derived.Test.YtccbinnlnkpplaaMgF
import Derived.Test.YtccbinnlnkpplaaXt
import Derived.Test.YtccbinnlnkpplaaRt
import Derived.Test.YtccbinnlnkpplaaMgE
import Derived.Test.YtccbinnlnkpplaaSq
import Derived.Test.YtccbinnlnkpplaaWs4
import Derived.Test.YtccbinnlnkpplaaMgC
import Derived.Test.YtccbinnlnkpplaaMx1
import Derived.Test.YtccbinnlnkpplaaAm1
import Derived.Test.YtccbinnlnkpplaaEag
import Derived.Lib.Mul64
import Derived.Laws.Bits64b
import Derived.Lib.Strings
import Derived.Lib.Slices
import Derived.Lib.Small
import Derived.Lib.Walk
import Derived.Lib.BitFns
import Derived.Lib.ItoaNum
import Derived.Deep.Light
import Derived.Test.YtccbinnlnkpplaaBoP0
import Derived.Test.YtccbinnlnkpplaaAm5
import Derived.Test.YtccbinnlnkpplaaAm6
import Derived.Test.YtccbinnlnkpplaaMgA
namespace Go.Proofs.Ytccbinnlnkpplaa
set_option linter.all false
open Go.RowKit

/-- The digits of number m. -/
abbrev slD (T : Nat → Int) (sa : Nat → Option Addr) (sc : Nat → Nat) (m : Nat) : Value := .slice (sa m) (digs (T m).natAbs).length (sc m)
def wdC (T : Nat → Int) (sa : Nat → Option Addr) (sc : Nat → Nat) (k : Int) : Array Value :=
  #[.bool (decide (T 0 < 0)), slD T sa sc 0, .bool (decide (T 1 < 0)), slD T sa sc 1, .bool (decide (T 2 < 0)), slD T sa sc 2, .bool (decide (T 3 < 0)), slD T sa sc 3, .int .i64 k]
theorem wd_row {w : World} {g t m : Nat} {T : Nat → Int} {sa : Nat → Option Addr} {sc : Nat → Nat} {k : Int} (h : Hd w g t (wdC T sa sc k)) (hm : m < 4) : w.rangeAt g (0 + m * 2) [.bool (decide (T m < 0)), slD T sa sc m] := by
  have := cells_range h (0 + m * 2) 2
  have e : ((wdC T sa sc k).toList.drop (0 + m * 2)).take 2 = [.bool (decide (T m < 0)), slD T sa sc m] := by
    rcases lt4 hm with rfl | rfl | rfl | rfl <;> rfl
  rwa [e] at this
theorem wd_all {w : World} {g t : Nat} {T : Nat → Int} {sa : Nat → Option Addr} {sc : Nat → Nat} {k : Int} (h : Hd w g t (wdC T sa sc k)) :
    w.rangeAt g 0 [.bool (decide (T 0 < 0)), slD T sa sc 0, .bool (decide (T 1 < 0)), slD T sa sc 1, .bool (decide (T 2 < 0)), slD T sa sc 2, .bool (decide (T 3 < 0)), slD T sa sc 3, .int .i64 k] := cells_range h 0 9
theorem wd_set {m : Nat} {T : Nat → Int} {sa : Nat → Option Addr} {sc : Nat → Nat} {k : Int} {t : Int} {pa : Option Addr} {pc : Nat} (hm : m < 4) :
    setMany (wdC T sa sc k) (0 + m * 2) [.bool (decide (t < 0)), .slice pa (digs t.natAbs).length pc] = wdC (upd T m t) (upd sa m pa) (upd sc m pc) k := by
  rcases lt4 hm with rfl | rfl | rfl | rfl <;> rfl
theorem wd_set' {m : Nat} {T : Nat → Int} {sa : Nat → Option Addr} {sc : Nat → Nat} {k : Int} {t : Int} {pa : Option Addr} {pc : Nat} (hm : m < 4) :
    ((wdC T sa sc k).setIfInBounds (0 + m * 2) (.bool (decide (t < 0)))).setIfInBounds (0 + m * 2 + 1) (.slice pa (digs t.natAbs).length pc) = wdC (upd T m t) (upd sa m pa) (upd sc m pc) k := wd_set hm
theorem wd_size {T : Nat → Int} {sa : Nat → Option Addr} {sc : Nat → Nat} {k : Int} : (wdC T sa sc k).size = 9 := rfl
theorem wd_zero (k : Int) : (#[.bool false, .slice none 0 0, .bool false, .slice none 0 0, .bool false, .slice none 0 0, .bool false, .slice none 0 0, .int .i64 k] : Array Value) = wdC (fun _ => 0) (fun _ => none) (fun _ => 0) k := by
  unfold wdC
  simp only [slD, Int.natAbs_zero, digs_zero]
  rfl
theorem wd_wdV (z : Nm) (a0 a1 a2 a3 : Option Addr) (c0 c1 c2 c3 : Nat) : wdV z (.slice a0 (digs z.a.natAbs).length c0) (.slice a1 (digs z.b.natAbs).length c1) (.slice a2 (digs z.c.natAbs).length c2) (.slice a3 (digs z.d.natAbs).length c3) =
    .agg (wdC (sel4 z.a z.b z.c z.d) (sel4 a0 a1 a2 a3) (sel4 c0 c1 c2 c3) z.k) := rfl

/-- A call that hands back an amplitude of any size. -/
def RetT (w : World) (T : Nat → Int) (k : Int) (e : Ending) (w' : World) : Prop :=
  ∃ v u, e = .returned v ∧ (∃ sa sc, v = .agg (wdC T sa sc k) ∧ ∀ m, m < 4 → SU u (slD T sa sc m) (T m).natAbs) ∧ Made w u w'
theorem su_upd {u u' : List Blk} {T : Nat → Int} {sa : Nat → Option Addr} {sc : Nat → Nat} {j : Nat} {t : Int} {pa : Option Addr} {pc : Nat} (h : ∀ m, m < 4 → SU u (slD T sa sc m) (T m).natAbs) (h' : SU u' (.slice pa (digs t.natAbs).length pc) t.natAbs) :
    ∀ m, m < 4 → SU (u' ++ u) (slD (upd T j t) (upd sa j pa) (upd sc j pc) m) (upd T j t m).natAbs := by
  intro m hm
  by_cases e : m = j
  · subst e
    unfold slD
    rw [upd_same, upd_same, upd_same]
    exact h'.mono (List.sublist_append_left _ _)
  · unfold slD
    rw [upd_other T t e, upd_other sa pa e, upd_other sc pc e]
    exact (h m hm).mono (List.sublist_append_right _ _)
end Go.Proofs.Ytccbinnlnkpplaa
namespace Go.Proofs.Ytccbinnlnkpplaa
set_option linter.all false
open Go.RowKit

set_option maxRecDepth 100000 in
set_option maxHeartbeats 1000000 in
theorem wtimes_core (X Y : Nat → Int) (xa ya : Nat → Option Addr) (xc yc : Nat → Nat) (xk yk : Int) (lX : ∀ m, m < 4 → (digs (X m).natAbs).length ≤ 1000) (lY : ∀ m, m < 4 → (digs (Y m).natAbs).length ≤ 1000) (hP : ∀ i k, i < 4 → k < 4 → -1231312693637327475383720003129487931408741852202045208373384168882678805359287831606695820465153613775207124697088 ≤ X i * Y k ∧ X i * Y k ≤ 1231312693637327475383720003129487931408741852202045208373384168882678805359287831606695820465153613775207124697088) (hk : 0 ≤ xk) (hk1 : xk ≤ 10000) (hk2 : 0 ≤ yk) (hk3 : yk ≤ 10000) (w : World) (hX : ∀ m, m < 4 → SA w (slD X xa xc m) (X m).natAbs) (hY : ∀ m, m < 4 → SA w (slD Y ya yc m) (Y m).natAbs) : Calls Try.prog 117 #[.agg (wdC X xa xc xk), .agg (wdC Y ya yc yk)] w fun e w' => RetT w (acc X Y 16) (xk + yk) e w' := by
  go_enter Try.func117, Try.ntmps117
  refine wk_start ?_
  refine wk_seq ?_
  refine wk_region [1, 1, 1] rfl Kx ?_
  simp only [qy]
  refine Rgn fun g1 => ?_
  simp only [qz]
  refine Rgn fun g2 => ?_
  simp only [qz]
  refine Rgn fun g3 => ?_
  simp only [qz]
  refine rg_nil (ek_next (wk_seq ?_))
  refine wk_region [0, 0, 0, 0, 0, 0, 1, 1] rfl Kx ?_
  simp only [qy]
  refine rf_field (n := 0) (j := 8) rfl rfl rfl Try.underlying70 rfl Kx rfl ?_
  simp only [qz]
  refine rf_load rfl rfl rfl Try.underlying3 rfl (fun w hw => (Kn.hd0 (Kn.tl (Kn.tl hw))).at rfl) ?_
  simp only [qz]
  refine rf_field (n := 0) (j := 8) rfl rfl rfl Try.underlying70 rfl Kx rfl ?_
  simp only [qz]
  refine rf_load rfl rfl rfl Try.underlying3 rfl (fun w hw => (Kn.hd0 (Kn.tl hw)).at rfl) ?_
  simp only [qz]
  refine rf_add rfl rfl rfl rfl (wrap_ok Ox Ox) ?_
  simp only [qz]
  refine rf_build (cs := fun a => #[.bool false, .slice none 0 0, .bool false, .slice none 0 0, .bool false, .slice none 0 0, .bool false, .slice none 0 0, a.eval (.tmp 13)]) rfl rfl Kx ?_
  simp only [qz]
  refine Rgn fun g4 => ?_
  simp only [qz]
  refine rf_storeR (n := 9) rfl rfl Kx rfl rfl (UpdR.here _ _ _ Nl) Nz ?_
  simp only [qz, Nat.reduceAdd]
  refine rg_nil (ek_next (wk_seq (wk_seq ?_)))
  rw [wd_zero (xk + yk)]
  refine wk_region [0] rfl Kx ?_
  simp only [qy]
  refine rg_assign ?_
  simp only [qz]
  refine rg_nil (ek_next (wk_block ?_))
  refine wk_loopF [6, 7, 8, 15, 16, 17, 18, 19, 20, 21, 22, 23, 24, 25, 26, 27, 28, 29, 30, 31, 32, 33, 34, 35, 36, 37, 38, 39, 40, 41, 42, 43, 44, 45, 46, 47, 48, 49, 50, 51, 52] (fun mz f s => ∃ (i : Nat) (T : Nat → Int) (da : Nat → Option Addr) (dc : Nat → Nat) (u : List Blk), f 6 = .int .i64 i ∧ s = (u ++ ((g4, .cells (wdC T da dc (xk + yk)) 70) :: ((g3, .cells #[.bool false, .slice none 0 0, .bool false, .slice none 0 0, .bool false, .slice none 0 0, .bool false, .slice none 0 0, .int .i64 0] 70) :: ((g2, .cells (wdC Y ya yc yk) 70) :: ((g1, .cells (wdC X xa xc xk) 70) :: []))))) ∧ mz = 4 - i ∧ i ≤ 4 ∧ Hid (acc X Y (i * 4) = T) ∧ (∀ m, m < 4 → SU u (slD T da dc m) (T m).natAbs)) ((fun (i : Nat) (T : Nat → Int) (da : Nat → Option Addr) (dc : Nat → Nat) (u : List Blk) => 4 - i) (0) (fun _ => 0) (fun _ => none) (fun _ => 0) ([])) ?_ Kx ?_
  · exact ⟨0, fun _ => 0, fun _ => none, fun _ => 0, [], rfl, rfl, rfl, by omega, (Lib.hid rfl), (fun m _ => by unfold slD; simp only [Int.natAbs_zero, digs_zero]; exact SU.nil)⟩
  rintro mz f1 s ⟨i, T, da, dc, u, hs1_6, rfl, hn, hd1, hd2, hd3⟩
  simp only [Act.putF, List.foldl_cons, List.foldl_nil, hs1_6, Act.put, Act.eval, q1, q2, q3, q4, q5, q6, q7, q8, q9, q10, q11, q12, q13, q14, q15, q16, q17, q18, Nat.reduceAdd, Bool.not_true, Bool.not_false]
  clear hs1_6
  have hac := hd2
  have hsu := hd3
  clear hd2 hd3
  refine wk_seq (wk_seq ?_)
  refine wk_region [0, 0] rfl Kx ?_
  simp only [qy]
  refine rg_move ?_
  simp only [qz]
  refine rfb_lss rfl rfl rfl rfl ?_
  intro x h1
  cases x
  · (try simp only [qd, ne_eq] at h1)
    simp only [qz]
    refine rg_nil (ek_next (wk_cond_f rfl (wk_exit (ek_then_exit (ek_then_exit (ek_block_exit (ek_next (wk_seq ?_))))))))
    refine wk_region [0, 1] rfl Kx ?_
    simp only [qy]
    refine rf_loadC (n := 9) (vs := [.bool (decide (T 0 < 0)), slD T da dc 0, .bool (decide (T 1 < 0)), slD T da dc 1, .bool (decide (T 2 < 0)), slD T da dc 2, .bool (decide (T 3 < 0)), slD T da dc 3, .int .i64 (xk + yk)]) rfl rfl rfl Try.underlying70 rfl Kx rfl (fun w hw => wd_all (Kn.hd0 (Kn.tlU hw))) ?_
    simp only [qz]
    refine rf_storeR (n := 9) rfl rfl Kx rfl rfl (UpdR.app _ (UpdR.there _ (UpdR.here _ _ _ Nl))) Nz ?_
    simp only [qz, Nat.reduceAdd]
    refine rg_nil (ek_next (wk_ret ?_))
    refine ek_ret (fun w hw => ⟨rfl, _, run_results1 rfl rfl (Kn.hd0 (Kn.tl (Kn.tlU hw))) Try.underlying70 rfl Kx, ?_⟩)
    (try simp only [qz])
    obtain rfl : i = 4 := by omega
    exact ⟨_, u, rfl, ⟨da, dc, by rw [show acc X Y 16 = T from hac.out]; rfl, by rw [show acc X Y 16 = T from hac.out]; exact hsu⟩, hw.made (List.sublist_append_left _ _)⟩
  (try simp only [qd, ne_eq] at h1)
  simp only [qz]
  refine rg_nil (ek_next (wk_cond_t rfl (wk_skip (ek_next (wk_seq (wk_block (wk_seq ?_)))))))
  refine wk_region [0] rfl Kx ?_
  simp only [qy]
  refine rg_assign ?_
  simp only [qz]
  refine rg_nil (ek_next (wk_block ?_))
  refine wk_loopF [7, 8, 19, 20, 21, 22, 23, 24, 25, 26, 27, 28, 29, 30, 31, 32, 33, 34, 35, 36, 37, 38, 39, 40, 41, 42, 43, 44, 45, 46, 47, 48, 49, 50, 51, 52] (fun mz f s => ∃ (k : Nat) (T2 : Nat → Int) (da2 : Nat → Option Addr) (dc2 : Nat → Nat) (u2 : List Blk), f 7 = .int .i64 k ∧ s = (u2 ++ ((g4, .cells (wdC T2 da2 dc2 (xk + yk)) 70) :: ((g3, .cells #[.bool false, .slice none 0 0, .bool false, .slice none 0 0, .bool false, .slice none 0 0, .bool false, .slice none 0 0, .int .i64 0] 70) :: ((g2, .cells (wdC Y ya yc yk) 70) :: ((g1, .cells (wdC X xa xc xk) 70) :: []))))) ∧ mz = 4 - k ∧ k ≤ 4 ∧ Hid (acc X Y (i * 4 + k) = T2) ∧ (∀ m, m < 4 → SU u2 (slD T2 da2 dc2 m) (T2 m).natAbs)) ((fun (k : Nat) (T2 : Nat → Int) (da2 : Nat → Option Addr) (dc2 : Nat → Nat) (u2 : List Blk) => 4 - k) (0) (T) (da) (dc) (u)) ?_ Kx ?_
  · exact ⟨0, T, da, dc, u, rfl, rfl, rfl, by omega, hac, hsu⟩
  rintro mz f2 s ⟨k, T2, da2, dc2, u2, hs2_7, rfl, hn, he1, he2, he3⟩
  simp only [Act.putF, List.foldl_cons, List.foldl_nil, hs2_7, Act.put, Act.eval, q1, q2, q3, q4, q5, q6, q7, q8, q9, q10, q11, q12, q13, q14, q15, q16, q17, q18, Nat.reduceAdd, Bool.not_true, Bool.not_false]
  clear hs2_7
  have hac2 := he2
  have hsu2 := he3
  clear he2 he3
  refine wk_seq (wk_seq ?_)
  refine wk_region [0, 0] rfl Kx ?_
  simp only [qy]
  refine rg_move ?_
  simp only [qz]
  refine rfb_lss rfl rfl rfl rfl ?_
  intro x h2
  cases x
  · (try simp only [qd, ne_eq] at h2)
    simp only [qz]
    refine rg_nil (ek_next (wk_cond_f rfl (wk_exit (ek_then_exit (ek_then_exit (ek_block_exit (ek_block (ek_next ?_))))))))
    refine wk_region [0, 0, 0] rfl Kx ?_
    simp only [qy]
    refine rg_move ?_
    simp only [qz]
    refine rf_add rfl rfl rfl rfl (wrap_ok Ox Ox) ?_
    simp only [qz]
    refine rg_assign ?_
    simp only [qz]
    refine rg_nil ?_
    obtain rfl : k = 4 := by omega
    have hac' : acc X Y ((i + 1) * 4) = T2 := by rw [← hac2.out]; congr 1; omega
    refine ek_roundF (4 - (i + 1)) Ox Kx ?_
    exact ⟨i + 1, T2, da2, dc2, u2, rfl, by rfl, by rfl, Ox, (Lib.hid hac'), hsu2⟩
  (try simp only [qd, ne_eq] at h2)
  simp only [qz]
  refine rg_nil (ek_next (wk_cond_t rfl (wk_skip (ek_next (wk_seq (wk_block ?_))))))
  refine wk_cutF [8, 23, 24, 25, 26, 27, 28, 29, 30, 31] (fun f s => ∃ (gp : Nat) (uq : List Blk) (pa : Option Addr) (pc : Nat), f 8 = .pointer (some ⟨gp, 0, none⟩) ∧ s = ((gp, .cells #[.bool (decide (X i * Y k < 0)), .slice pa (digs (X i * Y k).natAbs).length pc] 67) :: (uq ++ (u2 ++ ((g4, .cells (wdC T2 da2 dc2 (xk + yk)) 70) :: ((g3, .cells #[.bool false, .slice none 0 0, .bool false, .slice none 0 0, .bool false, .slice none 0 0, .bool false, .slice none 0 0, .int .i64 0] 70) :: ((g2, .cells (wdC Y ya yc yk) 70) :: ((g1, .cells (wdC X xa xc xk) 70) :: []))))))) ∧ SU uq (.slice pa (digs (X i * Y k).natAbs).length pc) (X i * Y k).natAbs) ?_ ?_
  · refine wk_rt _ Kx (List.Sublist.append_left (sc _ (sc _ (sc _ (sc _ sn)))) _) ?_
    refine rt_soft (i := 0) rfl Kx (fun c d v a w h => by cases d <;> exact h) (List.Sublist.append_left (sc _ (sc _ (sc _ (sc _ sn)))) _) ?_
    refine rg_move ?_
    simp only [qz]
    refine rg_nil ?_
    refine ek_rt (List.Sublist.append_left (sc _ (sc _ (sc _ (sc _ sn)))) _) ?_
    refine rt_soft (i := 1) rfl Kx (fun c d v a w h => by cases d <;> exact h) (List.Sublist.append_left (sc _ (sc _ (sc _ (sc _ sn)))) _) ?_
    refine rf_field (n := 7) (j := 0) rfl rfl rfl Try.underlying70 rfl Kx rfl ?_
    simp only [qz]
    refine rg_nil ?_
    refine ek_rt (List.Sublist.append_left (sc _ (sc _ (sc _ (sc _ sn)))) _) ?_
    refine rt_soft (i := 2) rfl Kx (fun c d v a w h => by cases d <;> exact h) (List.Sublist.append_left (sc _ (sc _ (sc _ (sc _ sn)))) _) ?_
    refine rf_indexA (n := i) (sz := 2) (j := 0 + i * 2) rfl rfl rfl rfl Try.underlying68 Kx Ox rfl ?_
    simp only [qz]
    refine rg_nil ?_
    refine ek_rt (List.Sublist.append_left (sc _ (sc _ (sc _ (sc _ sn)))) _) ?_
    refine rt_soft (i := 3) rfl Kx (fun c d v a w h => by cases d <;> exact h) (List.Sublist.append_left (sc _ (sc _ (sc _ (sc _ sn)))) _) ?_
    refine rf_loadC (n := 2) (vs := [.bool (decide (X (i) < 0)), slD X xa xc (i)]) rfl rfl rfl Try.underlying67 rfl Kx rfl (fun w hw => wd_row (Kn.hd0 (Kn.tl (Kn.tl (Kn.tl (Kn.tlU hw))))) Ox) ?_
    simp only [qz]
    refine rg_nil ?_
    refine ek_rt (List.Sublist.append_left (sc _ (sc _ (sc _ (sc _ sn)))) _) ?_
    refine rt_soft (i := 4) rfl Kx (fun c d v a w h => by cases d <;> exact h) (List.Sublist.append_left (sc _ (sc _ (sc _ (sc _ sn)))) _) ?_
    refine rg_move ?_
    simp only [qz]
    refine rg_nil ?_
    refine ek_rt (List.Sublist.append_left (sc _ (sc _ (sc _ (sc _ sn)))) _) ?_
    refine rt_soft (i := 5) rfl Kx (fun c d v a w h => by cases d <;> exact h) (List.Sublist.append_left (sc _ (sc _ (sc _ (sc _ sn)))) _) ?_
    refine rf_field (n := 7) (j := 0) rfl rfl rfl Try.underlying70 rfl Kx rfl ?_
    simp only [qz]
    refine rg_nil ?_
    refine ek_rt (List.Sublist.append_left (sc _ (sc _ (sc _ (sc _ sn)))) _) ?_
    refine rt_soft (i := 6) rfl Kx (fun c d v a w h => by cases d <;> exact h) (List.Sublist.append_left (sc _ (sc _ (sc _ (sc _ sn)))) _) ?_
    refine rf_indexA (n := k) (sz := 2) (j := 0 + k * 2) rfl rfl rfl rfl Try.underlying68 Kx Ox rfl ?_
    simp only [qz]
    refine rg_nil ?_
    refine ek_rt (List.Sublist.append_left (sc _ (sc _ (sc _ (sc _ sn)))) _) ?_
    refine rt_soft (i := 7) rfl Kx (fun c d v a w h => by cases d <;> exact h) (List.Sublist.append_left (sc _ (sc _ (sc _ (sc _ sn)))) _) ?_
    refine rf_loadC (n := 2) (vs := [.bool (decide (Y (k) < 0)), slD Y ya yc (k)]) rfl rfl rfl Try.underlying67 rfl Kx rfl (fun w hw => wd_row (Kn.hd0 (Kn.tl (Kn.tl (Kn.tlU hw)))) Ox) ?_
    simp only [qz]
    refine rg_nil ?_
    refine ek_rt (List.Sublist.append_left (sc _ (sc _ (sc _ (sc _ sn)))) _) ?_
    refine rt_hard2 (i := 8) (j := 9) Kx rfl rfl ?_ ?_
    · apply (rg_made (T := fun v u => ∃ s, v = bgV (X i * Y k) s ∧ SU u s (X i * Y k).natAbs)) Rx Kx
      case hargs => exact Ax
      case h => exact fun w hw => bmul_any (X i) (Y k) _ _ (lX i Ox) (lY k Ox) w ((hX i Ox).kn hw) ((hY k Ox).kn hw)
      case hz => exact (fun _ h => by cases h; exact (List.Sublist.append_left (sc _ (sc _ (sc _ (sc _ sn)))) _))
      rintro _ uP ⟨sP, rfl, hSP⟩
      obtain ⟨⟨daP, dcP, rfl⟩, -⟩ := id hSP
      simp only [qz]
      refine rg_nil ?_
      refine ek_rt ((List.Sublist.append_left (sc _ (sc _ (sc _ (sc _ sn)))) _).trans (List.sublist_append_right _ _)) ?_
      refine rt_hard1 (i := 9) Kx rfl ?_
      refine rg_new (cs := ?_) (ty := ?_) Rx (fun w => ?_) (fun _ h => by cases h; exact ((List.Sublist.append_left (sc _ (sc _ (sc _ (sc _ sn)))) _).trans (List.sublist_append_right _ _))) (fun g5 => ?_); rotate_left 2
      focus (go_simp; rfl)
      simp only [qz]
      refine rg_nil ?_
      refine ek_rt (sk _ ((List.Sublist.append_left (sc _ (sc _ (sc _ (sc _ sn)))) _).trans (List.sublist_append_right _ _))) ?_
      refine rt_hard1 (i := 10) Kx rfl ?_
      refine rf_storeR (n := 2) rfl rfl Kx rfl rfl (UpdR.here _ _ _ Nl) (fun _ h => by cases h; exact (sk _ ((List.Sublist.append_left (sc _ (sc _ (sc _ (sc _ sn)))) _).trans (List.sublist_append_right _ _)))) ?_
      simp only [qz, Nat.reduceAdd]
      refine rg_nil ?_
      refine ek_rt (sk _ ((List.Sublist.append_left (sc _ (sc _ (sc _ (sc _ sn)))) _).trans (List.sublist_append_right _ _))) ?_
      refine rt_nil Kx ?_
      refine ek_midF Kx ?_
      exact ⟨g5, uP, daP, dcP, rfl, by rfl, hSP⟩
    refine rg_new (cs := ?_) (ty := ?_) Rx (fun w => ?_) (fun _ h => by cases h; exact (List.Sublist.append_left (sc _ (sc _ (sc _ (sc _ sn)))) _)) (fun g6 => ?_); rotate_left 2
    focus (go_simp; rfl)
    simp only [qz]
    refine rg_nil ?_
    refine ek_rt (sk _ (List.Sublist.append_left (sc _ (sc _ (sc _ (sc _ sn)))) _)) ?_
    refine rt_hard1 (i := 8) Kx rfl ?_
    apply (rg_made (T := fun v u => ∃ s, v = bgV (X i * Y k) s ∧ SU u s (X i * Y k).natAbs)) Rx Kx
    case hargs => exact Ax
    case h => exact fun w hw => bmul_any (X i) (Y k) _ _ (lX i Ox) (lY k Ox) w ((hX i Ox).kn hw) ((hY k Ox).kn hw)
    case hz => exact (fun _ h => by cases h; exact (sk _ (List.Sublist.append_left (sc _ (sc _ (sc _ (sc _ sn)))) _)))
    rintro _ uP ⟨sP, rfl, hSP⟩
    obtain ⟨⟨daP, dcP, rfl⟩, -⟩ := id hSP
    simp only [qz]
    refine rg_nil ?_
    refine ek_rt ((sk _ (List.Sublist.append_left (sc _ (sc _ (sc _ (sc _ sn)))) _)).trans (List.sublist_append_right _ _)) ?_
    refine rt_hard1 (i := 10) Kx rfl ?_
    refine rf_storeR (n := 2) rfl rfl Kx rfl rfl (UpdR.app _ (UpdR.here _ _ _ Nl)) (fun _ h => by cases h; exact ((sk _ (List.Sublist.append_left (sc _ (sc _ (sc _ (sc _ sn)))) _)).trans (List.sublist_append_right _ _))) ?_
    simp only [qz, Nat.reduceAdd]
    refine rg_nil ?_
    refine ek_rt ((sk _ (List.Sublist.append_left (sc _ (sc _ (sc _ (sc _ sn)))) _)).trans (List.sublist_append_right _ _)) ?_
    refine rt_nil Kx ?_
    refine ek_perm (perm_at (l := (uP)) (((((((List.Perm.refl _).cons _).cons _).cons _).cons _).append_left _).append_left _)) ?_
    refine ek_midF Kx ?_
    exact ⟨g6, uP, daP, dcP, rfl, by rfl, hSP⟩
  rintro f3 s ⟨gp, uq, pa, pc, hs3_8, rfl, hSp⟩
  simp only [Act.putF, List.foldl_cons, List.foldl_nil, hs3_8, Act.put, Act.eval, q1, q2, q3, q4, q5, q6, q7, q8, q9, q10, q11, q12, q13, q14, q15, q16, q17, q18, Nat.reduceAdd, Bool.not_true, Bool.not_false]
  clear hs3_8
  have hpp := hP i k Ox Ox
  refine wk_seq (wk_seq ?_)
  refine wk_region [0, 0, 0, 0] rfl Kx ?_
  simp only [qy]
  refine rg_move ?_
  simp only [qz]
  refine rg_move ?_
  simp only [qz]
  refine rf_add rfl rfl rfl rfl (wrap_ok Ox Ox) ?_
  simp only [qz]
  refine rfb_geq rfl rfl rfl rfl ?_
  intro x h3
  cases x
  · (try simp only [qd, ne_eq] at h3)
    simp only [qz]
    refine rg_nil (ek_next (wk_cond_f rfl (wk_skip (ek_next ?_))))
    refine wk_draws_m (hz1 := (sc _ (List.Sublist.append_left (List.Sublist.append_left (sk _ (sc _ (sc _ (sc _ sn)))) _) _))) [(0, 0), (1, 0), (2, 0), (3, 0), (4, 0), (5, 0), (6, 0), (7, 0), (8, 0), (9, 0), (10, 0), (11, 0), (13, 3), (12, 1), (14, 0), (15, 2)] 15 Kx Kx (fun c d v a w h => by cases d <;> exact h) ?_
    simp only [List.map_cons, List.map_nil, List.getD_cons_zero, List.getD_cons_succ]
    refine rg_move ?_
    simp only [qz]
    refine rg_move ?_
    simp only [qz]
    refine rf_add rfl rfl rfl rfl (wrap_ok Ox Ox) ?_
    simp only [qz]
    refine rf_rem (r := (((i + k) % 4 : Nat) : Int)) rfl rfl rfl rfl (by decide) ((rem_ok Ox).trans Ox) ?_
    simp only [qz]
    refine rg_move ?_
    simp only [qz]
    refine rg_move ?_
    simp only [qz]
    refine rf_add rfl rfl rfl rfl (wrap_ok Ox Ox) ?_
    simp only [qz]
    refine rf_rem (r := (((i + k) % 4 : Nat) : Int)) rfl rfl rfl rfl (by decide) ((rem_ok Ox).trans Ox) ?_
    simp only [qz]
    refine rf_field (n := 7) (j := 0) rfl rfl rfl Try.underlying70 rfl Kx rfl ?_
    simp only [qz]
    refine rf_indexA (n := (i + k) % 4) (sz := 2) (j := 0 + ((i + k) % 4) * 2) rfl rfl rfl rfl Try.underlying68 Kx Ox rfl ?_
    simp only [qz]
    refine rf_loadC (n := 2) (vs := [.bool (decide (T2 ((i + k) % 4) < 0)), slD T2 da2 dc2 ((i + k) % 4)]) rfl rfl rfl Try.underlying67 rfl Kx rfl (fun w hw => wd_row (Kn.hd0 (Kn.tlU (Kn.tlU (Kn.tl hw)))) Ox) ?_
    simp only [qz]
    refine rf_loadR (n := 2) rfl rfl rfl Try.underlying67 rfl Kx (fun w hw => Kn.hd0 hw) rfl rfl ?_
    simp only [qz]
    refine rf_field (n := 7) (j := 0) rfl rfl rfl Try.underlying70 rfl Kx rfl ?_
    simp only [qz]
    have hT := acc_bound (X := X) (Y := Y) (by decide) hP (i * 4 + k) ((i + k) % 4) Ox
    rw [hac2.out] at hT
    have hn15 : ((i * 4 + k : Nat) : Int) * 1231312693637327475383720003129487931408741852202045208373384168882678805359287831606695820465153613775207124697088 ≤ 15 * 1231312693637327475383720003129487931408741852202045208373384168882678805359287831606695820465153613775207124697088 := Int.mul_le_mul_of_nonneg_right Ox (by decide)
    have hpp := hP i k Ox Ox
    apply (rg_made (T := fun v u => ∃ s, v = bgV (T2 ((i + k) % 4) + X i * Y k) s ∧ SU u s (T2 ((i + k) % 4) + X i * Y k).natAbs)) Rx Kx
    case hargs => exact Ax
    case h => exact fun w hw => badd_any (T2 ((i + k) % 4)) (X i * Y k) _ _ (len_big Ox Ox) (len_big Ox Ox) w ((hsu2 _ Ox).at hw (List.Sublist.cons _ ((List.sublist_append_left _ _).trans (List.sublist_append_right _ _)))) (hSp.at hw (List.Sublist.cons _ (List.sublist_append_left _ _)))
    case hz => exact (fun _ h => by cases h; exact (sc _ (List.Sublist.append_left (List.Sublist.append_left (sc _ (sc _ (sc _ (sc _ sn)))) _) _)))
    rintro _ uN ⟨sN, rfl, hSN⟩
    obtain ⟨⟨daN, dcN, rfl⟩, -⟩ := id hSN
    simp only [qz]
    refine rf_indexA (n := (i + k) % 4) (sz := 2) (j := 0 + ((i + k) % 4) * 2) rfl rfl rfl rfl Try.underlying68 Kx Ox rfl ?_
    simp only [qz]
    refine rf_storeRM (n := 2) rfl rfl Kx rfl rfl (UpdR.app _ (UpdR.there _ (UpdR.app _ (UpdR.app _ (UpdR.here _ _ _ (show 0 + ((i + k) % 4) * 2 + 2 ≤ 9 by omega)))))) ((sc _ (List.Sublist.append_left (List.Sublist.append_left (sk _ (sc _ (sc _ (sc _ sn)))) _) _)).trans (List.sublist_append_right _ _)) ?_
    simp only [qz, Nat.reduceAdd]
    refine rg_nil (ek_block (ek_next ?_))
    refine wk_region [0, 0, 0] rfl Kx ?_
    simp only [qy]
    refine rg_move ?_
    simp only [qz]
    refine rf_add rfl rfl rfl rfl (wrap_ok Ox Ox) ?_
    simp only [qz]
    refine rg_assign ?_
    simp only [qz]
    refine rg_nil ?_
    refine ek_sub (List.Sublist.append_left (sk _ ((List.Sublist.append_left (sc _ (sc _ (sc _ (sc _ sn)))) _).trans (List.sublist_append_right _ _))) _) ?_
    refine ek_roundF (4 - (k + 1)) Ox Kx ?_
    exact ⟨k + 1, upd T2 ((i + k) % 4) (T2 ((i + k) % 4) + X i * Y k), upd da2 ((i + k) % 4) daN, upd dc2 ((i + k) % 4) dcN, uN ++ u2, rfl, (by rw [List.append_assoc, wd_set' Ox]), by rfl, Ox, (Lib.hid (by rw [acc_step Ox hac2.out, if_neg Ox])), (su_upd hsu2 hSN)⟩
  (try simp only [qd, ne_eq] at h3)
  simp only [qz]
  refine rg_nil (ek_next (wk_cond_t rfl ?_))
  refine wk_region [0, 1, 1] rfl Kx ?_
  simp only [qy]
  refine rf_loadR (n := 2) rfl rfl rfl Try.underlying67 rfl Kx (fun w hw => Kn.hd0 hw) rfl rfl ?_
  simp only [qz]
  apply rg_pure Rx Kx
  case hargs => exact Ax
  case h => exact fun w hw => bneg_any (X i * Y k) _ (len_big Ox Ox) w (hSp.at hw (List.Sublist.cons _ (List.sublist_append_left _ _)))
  case hz => exact Nz
  simp only [qz]
  refine rf_storeR (n := 2) rfl rfl Kx rfl rfl (UpdR.here _ _ _ Nl) Nz ?_
  simp only [qz, Nat.reduceAdd]
  refine rg_nil (ek_next ?_)
  refine wk_draws_m (hz1 := (sc _ (List.Sublist.append_left (List.Sublist.append_left (sk _ (sc _ (sc _ (sc _ sn)))) _) _))) [(0, 0), (1, 0), (2, 0), (3, 0), (4, 0), (5, 0), (6, 0), (7, 0), (8, 0), (9, 0), (10, 0), (11, 0), (13, 3), (12, 1), (14, 0), (15, 2)] 15 Kx Kx (fun c d v a w h => by cases d <;> exact h) ?_
  simp only [List.map_cons, List.map_nil, List.getD_cons_zero, List.getD_cons_succ]
  refine rg_move ?_
  simp only [qz]
  refine rg_move ?_
  simp only [qz]
  refine rf_add rfl rfl rfl rfl (wrap_ok Ox Ox) ?_
  simp only [qz]
  refine rf_rem (r := (((i + k) % 4 : Nat) : Int)) rfl rfl rfl rfl (by decide) ((rem_ok Ox).trans Ox) ?_
  simp only [qz]
  refine rg_move ?_
  simp only [qz]
  refine rg_move ?_
  simp only [qz]
  refine rf_add rfl rfl rfl rfl (wrap_ok Ox Ox) ?_
  simp only [qz]
  refine rf_rem (r := (((i + k) % 4 : Nat) : Int)) rfl rfl rfl rfl (by decide) ((rem_ok Ox).trans Ox) ?_
  simp only [qz]
  refine rf_field (n := 7) (j := 0) rfl rfl rfl Try.underlying70 rfl Kx rfl ?_
  simp only [qz]
  refine rf_indexA (n := (i + k) % 4) (sz := 2) (j := 0 + ((i + k) % 4) * 2) rfl rfl rfl rfl Try.underlying68 Kx Ox rfl ?_
  simp only [qz]
  refine rf_loadC (n := 2) (vs := [.bool (decide (T2 ((i + k) % 4) < 0)), slD T2 da2 dc2 ((i + k) % 4)]) rfl rfl rfl Try.underlying67 rfl Kx rfl (fun w hw => wd_row (Kn.hd0 (Kn.tlU (Kn.tlU (Kn.tl hw)))) Ox) ?_
  simp only [qz]
  refine rf_loadR (n := 2) rfl rfl rfl Try.underlying67 rfl Kx (fun w hw => Kn.hd0 hw) rfl rfl ?_
  simp only [qz]
  refine rf_field (n := 7) (j := 0) rfl rfl rfl Try.underlying70 rfl Kx rfl ?_
  simp only [qz]
  have hT := acc_bound (X := X) (Y := Y) (by decide) hP (i * 4 + k) ((i + k) % 4) Ox
  rw [hac2.out] at hT
  have hn15 : ((i * 4 + k : Nat) : Int) * 1231312693637327475383720003129487931408741852202045208373384168882678805359287831606695820465153613775207124697088 ≤ 15 * 1231312693637327475383720003129487931408741852202045208373384168882678805359287831606695820465153613775207124697088 := Int.mul_le_mul_of_nonneg_right Ox (by decide)
  have hpp := hP i k Ox Ox
  apply (rg_made (T := fun v u => ∃ s, v = bgV (T2 ((i + k) % 4) + -(X i * Y k)) s ∧ SU u s (T2 ((i + k) % 4) + -(X i * Y k)).natAbs)) Rx Kx
  case hargs => exact Ax
  case h => exact fun w hw => badd_any (T2 ((i + k) % 4)) (-(X i * Y k)) _ _ (len_big Ox Ox) (len_big Ox Ox) w ((hsu2 _ Ox).at hw (List.Sublist.cons _ ((List.sublist_append_left _ _).trans (List.sublist_append_right _ _)))) (by rw [Int.natAbs_neg]; exact hSp.at hw (List.Sublist.cons _ (List.sublist_append_left _ _)))
  case hz => exact (fun _ h => by cases h; exact (sc _ (List.Sublist.append_left (List.Sublist.append_left (sc _ (sc _ (sc _ (sc _ sn)))) _) _)))
  rintro _ uN ⟨sN, rfl, hSN⟩
  obtain ⟨⟨daN, dcN, rfl⟩, -⟩ := id hSN
  simp only [qz]
  refine rf_indexA (n := (i + k) % 4) (sz := 2) (j := 0 + ((i + k) % 4) * 2) rfl rfl rfl rfl Try.underlying68 Kx Ox rfl ?_
  simp only [qz]
  refine rf_storeRM (n := 2) rfl rfl Kx rfl rfl (UpdR.app _ (UpdR.there _ (UpdR.app _ (UpdR.app _ (UpdR.here _ _ _ (show 0 + ((i + k) % 4) * 2 + 2 ≤ 9 by omega)))))) ((sc _ (List.Sublist.append_left (List.Sublist.append_left (sk _ (sc _ (sc _ (sc _ sn)))) _) _)).trans (List.sublist_append_right _ _)) ?_
  simp only [qz, Nat.reduceAdd]
  refine rg_nil (ek_block (ek_next ?_))
  refine wk_region [0, 0, 0] rfl Kx ?_
  simp only [qy]
  refine rg_move ?_
  simp only [qz]
  refine rf_add rfl rfl rfl rfl (wrap_ok Ox Ox) ?_
  simp only [qz]
  refine rg_assign ?_
  simp only [qz]
  refine rg_nil ?_
  refine ek_sub (List.Sublist.append_left (sk _ ((List.Sublist.append_left (sc _ (sc _ (sc _ (sc _ sn)))) _).trans (List.sublist_append_right _ _))) _) ?_
  refine ek_roundF (4 - (k + 1)) Ox Kx ?_
  exact ⟨k + 1, upd T2 ((i + k) % 4) (T2 ((i + k) % 4) + -(X i * Y k)), upd da2 ((i + k) % 4) daN, upd dc2 ((i + k) % 4) dcN, uN ++ u2, rfl, (by rw [List.append_assoc, wd_set' Ox]), by rfl, Ox, (Lib.hid (by rw [acc_step Ox hac2.out, if_pos Ox])), (su_upd hsu2 hSN)⟩

def ProdB (x y : Nm) : Prop := ∀ i k, i < 4 → k < 4 → -1231312693637327475383720003129487931408741852202045208373384168882678805359287831606695820465153613775207124697088 ≤ sel4 x.a x.b x.c x.d i * sel4 y.a y.b y.c y.d k ∧ sel4 x.a x.b x.c x.d i * sel4 y.a y.b y.c y.d k ≤ 1231312693637327475383720003129487931408741852202045208373384168882678805359287831606695820465153613775207124697088
theorem prodB_ok {x y : Nm} (hx : x.Fit 1000000000) (hy : y.Fit 1000000000) : ProdB x y := by
  obtain ⟨a1, a2, a3, a4, a5, a6, a7, a8⟩ := hx
  obtain ⟨b1, b2, b3, b4, b5, b6, b7, b8⟩ := hy
  have key : ∀ a b : Int, -1000000000 ≤ a → a ≤ 1000000000 → -1000000000 ≤ b → b ≤ 1000000000 → -1231312693637327475383720003129487931408741852202045208373384168882678805359287831606695820465153613775207124697088 ≤ a * b ∧ a * b ≤ 1231312693637327475383720003129487931408741852202045208373384168882678805359287831606695820465153613775207124697088 := fun a b h1 h2 h3 h4 => by
    have := mul_le h1 h2 h3 h4
    omega
  intro i k hi hk
  rcases lt4 hi with rfl | rfl | rfl | rfl <;> rcases lt4 hk with rfl | rfl | rfl | rfl <;> exact key _ _ (by assumption) (by assumption) (by assumption) (by assumption)
theorem wtimes_any (x y : Nm) (s0 s1 s2 s3 p0 p1 p2 p3 : Value) (hx : x.Fit 9850501549098619803069760025035903451269934817616361666987073351061430442874302652853566563721228910201656997576704) (hy : y.Fit 9850501549098619803069760025035903451269934817616361666987073351061430442874302652853566563721228910201656997576704) (hP : ProdB x y) (hk : 0 ≤ x.k) (hk1 : x.k ≤ 10000) (hk2 : 0 ≤ y.k) (hk3 : y.k ≤ 10000) (w : World) (hs : SA4 w x s0 s1 s2 s3) (hs2 : SA4 w y p0 p1 p2 p3) :
    Calls Try.prog 117 #[wdV x s0 s1 s2 s3, wdV y p0 p1 p2 p3] w fun e w' => RetW w (x.mulR y) e w' := by
  obtain ⟨⟨a0, c0, rfl⟩, ⟨a1, c1, rfl⟩, ⟨a2, c2, rfl⟩, ⟨a3, c3, rfl⟩⟩ := (⟨hs.a.form, hs.b.form, hs.c.form, hs.d.form⟩ : _ ∧ _ ∧ _ ∧ _)
  obtain ⟨⟨b0, d0, rfl⟩, ⟨b1, d1, rfl⟩, ⟨b2, d2, rfl⟩, ⟨b3, d3, rfl⟩⟩ := (⟨hs2.a.form, hs2.b.form, hs2.c.form, hs2.d.form⟩ : _ ∧ _ ∧ _ ∧ _)
  obtain ⟨la, lb, lc, ld⟩ := fit_big hx
  obtain ⟨ma, mb, mc, md⟩ := fit_big hy
  refine (wtimes_core (sel4 x.a x.b x.c x.d) (sel4 y.a y.b y.c y.d) (sel4 a0 a1 a2 a3) (sel4 b0 b1 b2 b3) (sel4 c0 c1 c2 c3) (sel4 d0 d1 d2 d3) x.k y.k (sel_cases la lb lc ld) (sel_cases ma mb mc md) hP hk hk1 hk2 hk3 w (sel_cases hs.a hs.b hs.c hs.d) (sel_cases hs2.a hs2.b hs2.c hs2.d)).mono ?_
  rintro e w' ⟨v, u, he, ⟨sa, sc, hv, hsu⟩, hm⟩
  rw [← acc_16 x y]
  exact ⟨v, u, he, ⟨_, _, _, _, hv, ⟨hsu 0 (by decide), hsu 1 (by decide), hsu 2 (by decide), hsu 3 (by decide)⟩⟩, hm⟩
end Go.Proofs.Ytccbinnlnkpplaa
namespace Go.Proofs.Ytccbinnlnkpplaa
set_option linter.all false
open Go.RowKit

theorem tr_len {z : Nm} (h : z.Fit 9850501549098619803069760025035903451269934817616361666987073351061430442874302652853566563721228910201656997576704) : (digs z.tr.a.natAbs).length ≤ 1000 ∧ (digs z.tr.b.natAbs).length ≤ 1000 ∧ (digs z.tr.c.natAbs).length ≤ 1000 ∧ (digs z.tr.d.natAbs).length ≤ 1000 := by
  obtain ⟨h1, h2, h3, h4, h5, h6, h7, h8⟩ := h
  simp only [Nm.tr]
  exact ⟨len_big Ox Ox, len_big Ox Ox, len_big Ox Ox, len_big Ox Ox⟩
set_option maxRecDepth 100000 in
set_option maxHeartbeats 2000000 in
theorem wnum_any (z : Nm) (s0 s1 s2 s3 : Value) (hz : z.Fit 9850501549098619803069760025035903451269934817616361666987073351061430442874302652853566563721228910201656997576704) (hk : 0 ≤ z.k) (hk1 : z.k ≤ 10000) (w : World) (hs : SA4 w z s0 s1 s2 s3) : Calls Try.prog 53 #[wdV z s0 s1 s2 s3] w fun e w' => e = .returned (.tuple #[nmV (wnum z).1, .bool (wnum z).2]) ∧ Below w.heap.size w w' := by
  obtain ⟨⟨a0, c0, rfl⟩, ⟨a1, c1, rfl⟩, ⟨a2, c2, rfl⟩, ⟨a3, c3, rfl⟩⟩ := (⟨hs.a.form, hs.b.form, hs.c.form, hs.d.form⟩ : _ ∧ _ ∧ _ ∧ _)
  go_enter Try.func53, Try.ntmps53
  refine wk_start ?_
  refine wk_seq ?_
  refine wk_region [1, 1, 0] rfl Kx ?_
  simp only [qy]
  refine Rgn fun g1 => ?_
  simp only [qz]
  refine Rgn fun g2 => ?_
  simp only [qz]
  refine rg_assign ?_
  simp only [qz]
  refine rg_nil (ek_next ?_)
  refine wk_cutF [4, 5, 10, 11, 12, 13, 14, 15, 16, 17, 18, 19, 20, 21, 22, 23, 24, 25, 26, 27, 28, 29, 30, 31, 32, 33, 34, 35, 36, 37, 38, 39, 40, 41, 42, 43, 44, 45, 46, 47, 48, 49, 50, 51] (fun f s => ∃ (y : Nm) (ta0 ta1 ta2 ta3 : Option Addr) (tc0 tc1 tc2 tc3 : Nat) (u : List Blk), s = (u ++ ((g2, .cells #[.int .i64 0, .int .i64 0, .int .i64 0, .int .i64 0, .int .i64 0] 45) :: ((g1, .cells #[.bool (decide (y.a < 0)), .slice ta0 (digs y.a.natAbs).length tc0, .bool (decide (y.b < 0)), .slice ta1 (digs y.b.natAbs).length tc1, .bool (decide (y.c < 0)), .slice ta2 (digs y.c.natAbs).length tc2, .bool (decide (y.d < 0)), .slice ta3 (digs y.d.natAbs).length tc3, .int .i64 y.k] 70) :: []))) ∧ Hid (y.nf = z.nf) ∧ y.nf = y ∧ SK4 w u y (.slice ta0 (digs y.a.natAbs).length tc0) (.slice ta1 (digs y.b.natAbs).length tc1) (.slice ta2 (digs y.c.natAbs).length tc2) (.slice ta3 (digs y.d.natAbs).length tc3) ∧ y.Fit 9850501549098619803069760025035903451269934817616361666987073351061430442874302652853566563721228910201656997576704) ?_ ?_
  · refine wk_block ?_
    refine wk_loopF [4, 5, 10, 11, 12, 13, 14, 15, 16, 17, 18, 19, 20, 21, 22, 23, 24, 25, 26, 27, 28, 29, 30, 31, 32, 33, 34, 35, 36, 37, 38, 39, 40, 41, 42, 43, 44, 45, 46, 47, 48, 49, 50, 51] (fun mz f s => ∃ (y : Nm) (ta0 ta1 ta2 ta3 : Option Addr) (tc0 tc1 tc2 tc3 : Nat) (u : List Blk), s = (u ++ ((g2, .cells #[.int .i64 0, .int .i64 0, .int .i64 0, .int .i64 0, .int .i64 0] 45) :: ((g1, .cells #[.bool (decide (y.a < 0)), .slice ta0 (digs y.a.natAbs).length tc0, .bool (decide (y.b < 0)), .slice ta1 (digs y.b.natAbs).length tc1, .bool (decide (y.c < 0)), .slice ta2 (digs y.c.natAbs).length tc2, .bool (decide (y.d < 0)), .slice ta3 (digs y.d.natAbs).length tc3, .int .i64 y.k] 70) :: []))) ∧ mz = y.k.toNat ∧ Hid (y.nf = z.nf) ∧ SK4 w u y (.slice ta0 (digs y.a.natAbs).length tc0) (.slice ta1 (digs y.b.natAbs).length tc1) (.slice ta2 (digs y.c.natAbs).length tc2) (.slice ta3 (digs y.d.natAbs).length tc3) ∧ y.Fit 9850501549098619803069760025035903451269934817616361666987073351061430442874302652853566563721228910201656997576704 ∧ 0 ≤ y.k ∧ y.k ≤ 10000) ((fun (y : Nm) (ta0 ta1 ta2 ta3 : Option Addr) (tc0 tc1 tc2 tc3 : Nat) (u : List Blk) => y.k.toNat) (z) (a0) (a1) (a2) (a3) (c0) (c1) (c2) (c3) ([])) ?_ Kx ?_
    · exact ⟨z, a0, a1, a2, a3, c0, c1, c2, c3, [], rfl, rfl, Lib.hid rfl, SK4.arg hs, hz, hk, hk1⟩
    rintro mz f1 s ⟨y, ta0, ta1, ta2, ta3, tc0, tc1, tc2, tc3, u, rfl, hn, hd1, hd2, hd3, hd4, hd5⟩
    simp only [Act.putF, List.foldl_cons, List.foldl_nil, Act.put, Act.eval, q1, q2, q3, q4, q5, q6, q7, q8, q9, q10, q11, q12, q13, q14, q15, q16, q17, q18, Nat.reduceAdd, Bool.not_true, Bool.not_false]
    have hnf := hd1
    have hsk := hd2
    have hfit := hd3
    clear hd1 hd2 hd3
    refine wk_seq (wk_seq ?_)
    refine wk_region [0, 0, 0, 0, 0, 0, 0, 0, 0, 0, 1, 1, 0, 0, 0, 0, 0, 0, 0, 0, 1, 1, 0] rfl Kx ?_
    simp only [qy]
    refine rf_field (n := 0) (j := 8) rfl rfl rfl Try.underlying70 rfl Kx rfl ?_
    simp only [qz]
    refine rf_load rfl rfl rfl Try.underlying3 rfl (fun w hw => (Kn.hd0 (Kn.tl (Kn.tlU hw))).at rfl) ?_
    simp only [qz]
    refine rfb_gtr rfl rfl rfl rfl ?_
    intro x h1
    cases x
    · (try simp only [qd, ne_eq] at h1)
      simp only [qz]
      refine rg_move ?_
      simp only [qz]
      refine rg_skip Rx ?_
      simp only [qz]
      refine rg_skip Rx ?_
      simp only [qz]
      refine rg_skip Rx ?_
      simp only [qz]
      refine rg_skip Rx ?_
      simp only [qz]
      refine rg_skip Rx ?_
      simp only [qz]
      refine rg_skip Rx ?_
      simp only [qz]
      refine rg_skip_h Rx Nz ?_
      simp only [qz]
      refine rg_skip_h Rx Nz ?_
      simp only [qz]
      refine rf_pick rfl rfl rfl ?_
      simp only [qz]
      refine rg_move ?_
      simp only [qz]
      refine rg_skip Rx ?_
      simp only [qz]
      refine rg_skip Rx ?_
      simp only [qz]
      refine rg_skip Rx ?_
      simp only [qz]
      refine rg_skip Rx ?_
      simp only [qz]
      refine rg_skip Rx ?_
      simp only [qz]
      refine rg_skip Rx ?_
      simp only [qz]
      refine rg_skip_h Rx Nz ?_
      simp only [qz]
      refine rg_skip_h Rx Nz ?_
      simp only [qz]
      refine rf_pick rfl rfl rfl ?_
      simp only [qz]
      refine rg_nil (ek_next (wk_cond_f rfl (wk_exit (ek_then_exit (ek_then_exit (ek_block_exit ?_))))))
      refine ek_midF Kx ?_
      exact ⟨y, ta0, ta1, ta2, ta3, tc0, tc1, tc2, tc3, u, by rfl, hnf, (nf_stop (fun hh => by have := hh.1; have := hh.2.1; have := hh.2.2; omega)), hsk, hfit⟩
    (try simp only [qd, ne_eq] at h1)
    simp only [qz]
    refine rg_move ?_
    simp only [qz]
    refine rf_field (n := 7) (j := 0) rfl rfl rfl Try.underlying70 rfl Kx rfl ?_
    simp only [qz]
    refine rf_indexA (n := 0) (sz := 2) (j := 0) rfl rfl rfl rfl Try.underlying68 Kx (by decide) rfl ?_
    simp only [qz]
    refine rf_loadR (n := 2) rfl rfl rfl Try.underlying67 rfl Kx (fun w hw => Kn.hd0 (Kn.tl (Kn.tlU hw))) rfl rfl ?_
    simp only [qz]
    refine rf_field (n := 7) (j := 0) rfl rfl rfl Try.underlying70 rfl Kx rfl ?_
    simp only [qz]
    refine rf_indexA (n := 2) (sz := 2) (j := 4) rfl rfl rfl rfl Try.underlying68 Kx (by decide) rfl ?_
    simp only [qz]
    refine rf_loadR (n := 2) rfl rfl rfl Try.underlying67 rfl Kx (fun w hw => Kn.hd0 (Kn.tl (Kn.tlU hw))) rfl rfl ?_
    simp only [qz]
    obtain ⟨la, lb, lc, ld⟩ := fit_big hfit
    obtain ⟨fa0, fa1, fb0, fb1, fc0, fc1, fd0, fd1⟩ := id hfit
    apply (rg_made (T := fun v u => ∃ s, v = bgV (y.a + y.c) s ∧ SU u s (y.a + y.c).natAbs)) Rx Kx
    case hargs => exact Ax
    case h => exact fun w hw => badd_any y.a y.c _ _ la lc w (hsk.a.at hw (List.sublist_append_left _ _)) (hsk.c.at hw (List.sublist_append_left _ _))
    case hz => exact Nz
    rintro _ u3 ⟨s3, rfl, hS3⟩
    obtain ⟨⟨sa3, sc3, rfl⟩, -⟩ := id hS3
    simp only [qz]
    apply rg_pureb Rx Kx
    case hargs => exact Ax
    case h => exact fun w hw => beven_any (y.a + y.c) _ (len_big Ox Ox) w (hS3.at hw (List.sublist_append_left _ _))
    case hz => exact Nz
    intro x h2
    cases x
    · (try simp only [qd, ne_eq] at h2)
      simp only [qz]
      refine rf_pick rfl rfl rfl ?_
      simp only [qz]
      refine rg_move ?_
      simp only [qz]
      refine rg_skip Rx ?_
      simp only [qz]
      refine rg_skip Rx ?_
      simp only [qz]
      refine rg_skip Rx ?_
      simp only [qz]
      refine rg_skip Rx ?_
      simp only [qz]
      refine rg_skip Rx ?_
      simp only [qz]
      refine rg_skip Rx ?_
      simp only [qz]
      refine rg_skip_h Rx Nz ?_
      simp only [qz]
      refine rg_skip_h Rx Nz ?_
      simp only [qz]
      refine rf_pick rfl rfl rfl ?_
      simp only [qz]
      refine rg_nil (ek_next (wk_cond_f rfl (wk_exit (ek_then_exit (ek_then_exit (ek_block_exit ?_))))))
      refine ek_sub ((List.Sublist.append_left (sc _ (sc _ sn)) _).trans (List.sublist_append_right _ _)) ?_
      refine ek_midF Kx ?_
      exact ⟨y, ta0, ta1, ta2, ta3, tc0, tc1, tc2, tc3, u, by rfl, hnf, (nf_stop (fun hh => by have := hh.1; have := hh.2.1; have := hh.2.2; omega)), hsk, hfit⟩
    (try simp only [qd, ne_eq] at h2)
    simp only [qz]
    refine rf_pick rfl rfl rfl ?_
    simp only [qz]
    refine rg_move ?_
    simp only [qz]
    refine rf_field (n := 7) (j := 0) rfl rfl rfl Try.underlying70 rfl Kx rfl ?_
    simp only [qz]
    refine rf_indexA (n := 1) (sz := 2) (j := 2) rfl rfl rfl rfl Try.underlying68 Kx (by decide) rfl ?_
    simp only [qz]
    refine rf_loadR (n := 2) rfl rfl rfl Try.underlying67 rfl Kx (fun w hw => Kn.hd0 (Kn.tl (Kn.tlU (Kn.tlU hw)))) rfl rfl ?_
    simp only [qz]
    refine rf_field (n := 7) (j := 0) rfl rfl rfl Try.underlying70 rfl Kx rfl ?_
    simp only [qz]
    refine rf_indexA (n := 3) (sz := 2) (j := 6) rfl rfl rfl rfl Try.underlying68 Kx (by decide) rfl ?_
    simp only [qz]
    refine rf_loadR (n := 2) rfl rfl rfl Try.underlying67 rfl Kx (fun w hw => Kn.hd0 (Kn.tl (Kn.tlU (Kn.tlU hw)))) rfl rfl ?_
    simp only [qz]
    apply (rg_made (T := fun v u => ∃ s, v = bgV (y.b + y.d) s ∧ SU u s (y.b + y.d).natAbs)) Rx Kx
    case hargs => exact Ax
    case h => exact fun w hw => badd_any y.b y.d _ _ lb ld w (hsk.b.at hw ((List.sublist_append_left _ _).trans (List.sublist_append_right _ _))) (hsk.d.at hw ((List.sublist_append_left _ _).trans (List.sublist_append_right _ _)))
    case hz => exact Nz
    rintro _ u4 ⟨s4, rfl, hS4⟩
    obtain ⟨⟨sa4, sc4, rfl⟩, -⟩ := id hS4
    simp only [qz]
    apply rg_pureb Rx Kx
    case hargs => exact Ax
    case h => exact fun w hw => beven_any (y.b + y.d) _ (len_big Ox Ox) w (hS4.at hw (List.sublist_append_left _ _))
    case hz => exact Nz
    intro x h3
    cases x
    · (try simp only [qd, ne_eq] at h3)
      simp only [qz]
      refine rf_pick rfl rfl rfl ?_
      simp only [qz]
      refine rg_nil (ek_next (wk_cond_f rfl (wk_exit (ek_then_exit (ek_then_exit (ek_block_exit ?_))))))
      refine ek_sub (((List.Sublist.append_left (sc _ (sc _ sn)) _).trans (List.sublist_append_right _ _)).trans (List.sublist_append_right _ _)) ?_
      refine ek_midF Kx ?_
      exact ⟨y, ta0, ta1, ta2, ta3, tc0, tc1, tc2, tc3, u, by rfl, hnf, (nf_stop (fun hh => by have := hh.1; have := hh.2.1; have := hh.2.2; omega)), hsk, hfit⟩
    (try simp only [qd, ne_eq] at h3)
    simp only [qz]
    refine rf_pick rfl rfl rfl ?_
    simp only [qz]
    refine rg_nil (ek_next (wk_cond_t rfl (wk_skip (ek_next (wk_block (wk_seq ?_))))))
    refine wk_region [0, 0, 1, 1, 1] rfl Kx ?_
    simp only [qy]
    refine rf_field (n := 7) (j := 0) rfl rfl rfl Try.underlying70 rfl Kx rfl ?_
    simp only [qz]
    refine rf_loadR (n := 8) rfl rfl rfl Try.underlying68 rfl Kx (fun w hw => Kn.hd0 (Kn.tl (Kn.tlU (Kn.tlU (Kn.tlU hw))))) rfl rfl ?_
    simp only [qz]
    apply (rg_made (T := fun v u => ∃ s0 s1 s2 s3, v = arV (y.tr) s0 s1 s2 s3 ∧ SU4 u (y.tr) s0 s1 s2 s3)) Rx Kx
    case hargs => exact Ax
    case h => exact fun w hw => timesR_any y _ _ _ _ hfit w (hsk.at hw (((List.sublist_append_left _ _).trans (List.sublist_append_right _ _)).trans (List.sublist_append_right _ _)))
    case hz => exact Nz
    rintro _ u5 ⟨t0, t1, t2, t3, rfl, hS5⟩
    obtain ⟨⟨ta5_0, tc5_0, rfl⟩, -⟩ := id hS5.a
    obtain ⟨⟨ta5_1, tc5_1, rfl⟩, -⟩ := id hS5.b
    obtain ⟨⟨ta5_2, tc5_2, rfl⟩, -⟩ := id hS5.c
    obtain ⟨⟨ta5_3, tc5_3, rfl⟩, -⟩ := id hS5.d
    simp only [qz]
    obtain ⟨ma, mb, mc, md⟩ := tr_len hfit
    refine Rgn fun g6 => ?_
    simp only [qz]
    refine rf_storeR (n := 8) rfl rfl Kx rfl rfl (UpdR.here _ _ _ Nl) Nz ?_
    simp only [qz, Nat.reduceAdd]
    refine rg_nil (ek_next (wk_seq (wk_seq ?_)))
    refine wk_region [0] rfl Kx ?_
    simp only [qy]
    refine rg_assign ?_
    simp only [qz]
    refine rg_nil (ek_next (wk_block ?_))
    refine wk_unroll 4 ?_
    refine wk_seq (wk_seq ?_)
    refine wk_region [0, 0] rfl Kx ?_
    simp only [qy]
    refine rg_move ?_
    simp only [qz]
    refine rf_lss (b := true) rfl rfl rfl rfl (by decide) ?_
    simp only [qz]
    refine rg_nil (ek_next (wk_cond_t rfl (wk_skip (ek_next (wk_seq (wk_block ?_))))))
    refine wk_region [0, 0, 0, 0, 1, 0, 1] rfl Kx ?_
    simp only [qy]
    refine rg_move ?_
    simp only [qz]
    refine rg_move ?_
    simp only [qz]
    refine rf_indexA (n := 0) (sz := 2) (j := 0) rfl rfl rfl rfl Try.underlying68 Kx (by decide) rfl ?_
    simp only [qz]
    refine rf_loadR (n := 2) rfl rfl rfl Try.underlying67 rfl Kx (fun w hw => Kn.hd0 hw) rfl rfl ?_
    simp only [qz]
    apply (rg_made (T := fun v u => ∃ s, v = bgV (y.tr.a / 2) s ∧ SU u s (y.tr.a / 2).natAbs)) Rx Kx
    case hargs => exact Ax
    case h => exact fun w hw => bhalf_any y.tr.a _ ma (by simp only [Nm.tr]; omega) w (hS5.a.at hw (List.Sublist.cons _ (List.sublist_append_left _ _)))
    case hz => exact Nz
    rintro _ u7 ⟨s7, rfl, hS7⟩
    obtain ⟨⟨sa7, sc7, rfl⟩, -⟩ := id hS7
    simp only [qz]
    refine rf_indexA (n := 0) (sz := 2) (j := 0) rfl rfl rfl rfl Try.underlying68 Kx (by decide) rfl ?_
    simp only [qz]
    refine rf_storeR (n := 2) rfl rfl Kx rfl rfl (UpdR.app _ (UpdR.here _ _ _ Nl)) Nz ?_
    simp only [qz, Nat.reduceAdd]
    refine rg_nil (ek_block (ek_next ?_))
    refine wk_region [0, 0, 0] rfl Kx ?_
    simp only [qy]
    refine rg_move ?_
    simp only [qz]
    refine rf_add (r := 1) rfl rfl rfl rfl (by decide) ?_
    simp only [qz]
    refine rg_assign ?_
    simp only [qz]
    refine rg_nil (ek_again (wk_seq (wk_seq ?_)))
    refine wk_region [0, 0] rfl Kx ?_
    simp only [qy]
    refine rg_move ?_
    simp only [qz]
    refine rf_lss (b := true) rfl rfl rfl rfl (by decide) ?_
    simp only [qz]
    refine rg_nil (ek_next (wk_cond_t rfl (wk_skip (ek_next (wk_seq (wk_block ?_))))))
    refine wk_region [0, 0, 0, 0, 1, 0, 1] rfl Kx ?_
    simp only [qy]
    refine rg_move ?_
    simp only [qz]
    refine rg_move ?_
    simp only [qz]
    refine rf_indexA (n := 1) (sz := 2) (j := 2) rfl rfl rfl rfl Try.underlying68 Kx (by decide) rfl ?_
    simp only [qz]
    refine rf_loadR (n := 2) rfl rfl rfl Try.underlying67 rfl Kx (fun w hw => Kn.hd0 (Kn.tlU hw)) rfl rfl ?_
    simp only [qz]
    apply (rg_made (T := fun v u => ∃ s, v = bgV (y.tr.b / 2) s ∧ SU u s (y.tr.b / 2).natAbs)) Rx Kx
    case hargs => exact Ax
    case h => exact fun w hw => bhalf_any y.tr.b _ mb (by simp only [Nm.tr]; omega) w (hS5.b.at hw ((List.Sublist.cons _ (List.sublist_append_left _ _)).trans (List.sublist_append_right _ _)))
    case hz => exact Nz
    rintro _ u8 ⟨s8, rfl, hS8⟩
    obtain ⟨⟨sa8, sc8, rfl⟩, -⟩ := id hS8
    simp only [qz]
    refine rf_indexA (n := 1) (sz := 2) (j := 2) rfl rfl rfl rfl Try.underlying68 Kx (by decide) rfl ?_
    simp only [qz]
    refine rf_storeR (n := 2) rfl rfl Kx rfl rfl (UpdR.app _ (UpdR.app _ (UpdR.here _ _ _ Nl))) Nz ?_
    simp only [qz, Nat.reduceAdd]
    refine rg_nil (ek_block (ek_next ?_))
    refine wk_region [0, 0, 0] rfl Kx ?_
    simp only [qy]
    refine rg_move ?_
    simp only [qz]
    refine rf_add (r := 2) rfl rfl rfl rfl (by decide) ?_
    simp only [qz]
    refine rg_assign ?_
    simp only [qz]
    refine rg_nil (ek_again (wk_seq (wk_seq ?_)))
    refine wk_region [0, 0] rfl Kx ?_
    simp only [qy]
    refine rg_move ?_
    simp only [qz]
    refine rf_lss (b := true) rfl rfl rfl rfl (by decide) ?_
    simp only [qz]
    refine rg_nil (ek_next (wk_cond_t rfl (wk_skip (ek_next (wk_seq (wk_block ?_))))))
    refine wk_region [0, 0, 0, 0, 1, 0, 1] rfl Kx ?_
    simp only [qy]
    refine rg_move ?_
    simp only [qz]
    refine rg_move ?_
    simp only [qz]
    refine rf_indexA (n := 2) (sz := 2) (j := 4) rfl rfl rfl rfl Try.underlying68 Kx (by decide) rfl ?_
    simp only [qz]
    refine rf_loadR (n := 2) rfl rfl rfl Try.underlying67 rfl Kx (fun w hw => Kn.hd0 (Kn.tlU (Kn.tlU hw))) rfl rfl ?_
    simp only [qz]
    apply (rg_made (T := fun v u => ∃ s, v = bgV (y.tr.c / 2) s ∧ SU u s (y.tr.c / 2).natAbs)) Rx Kx
    case hargs => exact Ax
    case h => exact fun w hw => bhalf_any y.tr.c _ mc (by simp only [Nm.tr]; omega) w (hS5.c.at hw (((List.Sublist.cons _ (List.sublist_append_left _ _)).trans (List.sublist_append_right _ _)).trans (List.sublist_append_right _ _)))
    case hz => exact Nz
    rintro _ u9 ⟨s9, rfl, hS9⟩
    obtain ⟨⟨sa9, sc9, rfl⟩, -⟩ := id hS9
    simp only [qz]
    refine rf_indexA (n := 2) (sz := 2) (j := 4) rfl rfl rfl rfl Try.underlying68 Kx (by decide) rfl ?_
    simp only [qz]
    refine rf_storeR (n := 2) rfl rfl Kx rfl rfl (UpdR.app _ (UpdR.app _ (UpdR.app _ (UpdR.here _ _ _ Nl)))) Nz ?_
    simp only [qz, Nat.reduceAdd]
    refine rg_nil (ek_block (ek_next ?_))
    refine wk_region [0, 0, 0] rfl Kx ?_
    simp only [qy]
    refine rg_move ?_
    simp only [qz]
    refine rf_add (r := 3) rfl rfl rfl rfl (by decide) ?_
    simp only [qz]
    refine rg_assign ?_
    simp only [qz]
    refine rg_nil (ek_again (wk_seq (wk_seq ?_)))
    refine wk_region [0, 0] rfl Kx ?_
    simp only [qy]
    refine rg_move ?_
    simp only [qz]
    refine rf_lss (b := true) rfl rfl rfl rfl (by decide) ?_
    simp only [qz]
    refine rg_nil (ek_next (wk_cond_t rfl (wk_skip (ek_next (wk_seq (wk_block ?_))))))
    refine wk_region [0, 0, 0, 0, 1, 0, 1] rfl Kx ?_
    simp only [qy]
    refine rg_move ?_
    simp only [qz]
    refine rg_move ?_
    simp only [qz]
    refine rf_indexA (n := 3) (sz := 2) (j := 6) rfl rfl rfl rfl Try.underlying68 Kx (by decide) rfl ?_
    simp only [qz]
    refine rf_loadR (n := 2) rfl rfl rfl Try.underlying67 rfl Kx (fun w hw => Kn.hd0 (Kn.tlU (Kn.tlU (Kn.tlU hw)))) rfl rfl ?_
    simp only [qz]
    apply (rg_made (T := fun v u => ∃ s, v = bgV (y.tr.d / 2) s ∧ SU u s (y.tr.d / 2).natAbs)) Rx Kx
    case hargs => exact Ax
    case h => exact fun w hw => bhalf_any y.tr.d _ md (by simp only [Nm.tr]; omega) w (hS5.d.at hw ((((List.Sublist.cons _ (List.sublist_append_left _ _)).trans (List.sublist_append_right _ _)).trans (List.sublist_append_right _ _)).trans (List.sublist_append_right _ _)))
    case hz => exact Nz
    rintro _ u10 ⟨s10, rfl, hS10⟩
    obtain ⟨⟨sa10, sc10, rfl⟩, -⟩ := id hS10
    simp only [qz]
    refine rf_indexA (n := 3) (sz := 2) (j := 6) rfl rfl rfl rfl Try.underlying68 Kx (by decide) rfl ?_
    simp only [qz]
    refine rf_storeR (n := 2) rfl rfl Kx rfl rfl (UpdR.app _ (UpdR.app _ (UpdR.app _ (UpdR.app _ (UpdR.here _ _ _ Nl))))) Nz ?_
    simp only [qz, Nat.reduceAdd]
    refine rg_nil (ek_block (ek_next ?_))
    refine wk_region [0, 0, 0] rfl Kx ?_
    simp only [qy]
    refine rg_move ?_
    simp only [qz]
    refine rf_add (r := 4) rfl rfl rfl rfl (by decide) ?_
    simp only [qz]
    refine rg_assign ?_
    simp only [qz]
    refine rg_nil (ek_again (wk_seq (wk_seq ?_)))
    refine wk_region [0, 0] rfl Kx ?_
    simp only [qy]
    refine rg_move ?_
    simp only [qz]
    refine rf_lss (b := false) rfl rfl rfl rfl (by decide) ?_
    simp only [qz]
    refine rg_nil (ek_next (wk_cond_f rfl (wk_exit (ek_then_exit (ek_then_exit (ek_block_exit (ek_next ?_)))))))
    refine wk_region [0, 0, 0, 0, 0, 1, 0, 1] rfl Kx ?_
    simp only [qy]
    refine rf_loadR (n := 8) rfl rfl rfl Try.underlying68 rfl Kx (fun w hw => Kn.hd0 (Kn.tlU (Kn.tlU (Kn.tlU (Kn.tlU hw))))) rfl rfl ?_
    simp only [qz]
    refine rf_field (n := 0) (j := 8) rfl rfl rfl Try.underlying70 rfl Kx rfl ?_
    simp only [qz]
    refine rf_load rfl rfl rfl Try.underlying3 rfl (fun w hw => (Kn.hd0 (Kn.tl (Kn.tlU (Kn.tlU (Kn.tlU (Kn.tlU (Kn.tl (Kn.tlU (Kn.tlU (Kn.tlU (Kn.tlU hw))))))))))).at rfl) ?_
    simp only [qz]
    refine rf_sub rfl rfl rfl rfl (wrap_ok Ox Ox) ?_
    simp only [qz]
    refine rf_field (n := 7) (j := 0) rfl rfl rfl Try.underlying70 rfl Kx rfl ?_
    simp only [qz]
    refine rf_storeR (n := 8) rfl rfl Kx rfl rfl (UpdR.app _ (UpdR.app _ (UpdR.app _ (UpdR.app _ (UpdR.there _ (UpdR.app _ (UpdR.app _ (UpdR.app _ (UpdR.app _ (UpdR.there _ (UpdR.here _ _ _ Nl))))))))))) Nz ?_
    simp only [qz, Nat.reduceAdd]
    refine rf_field (n := 0) (j := 8) rfl rfl rfl Try.underlying70 rfl Kx rfl ?_
    simp only [qz]
    refine rf_store rfl rfl Kx rfl rfl (UpdR.app _ (UpdR.app _ (UpdR.app _ (UpdR.app _ (UpdR.there _ (UpdR.app _ (UpdR.app _ (UpdR.app _ (UpdR.app _ (UpdR.there _ (UpdR.here _ _ _ Nl))))))))))) Nz ?_
    simp only [qz]
    refine rg_nil (ek_block ?_)
    refine ek_sub (List.Sublist.append_left (List.Sublist.append_left (List.Sublist.append_left (List.Sublist.append_left (sk _ (((((sc _ (sc _ sn)).trans (List.sublist_append_right _ _)).trans (List.sublist_append_right _ _)).trans (List.sublist_append_right _ _)).trans (List.sublist_append_right _ _))) _) _) _) _) ?_
    refine ek_roundF (y.step.k.toNat) ((by simp only [Nm.step]; omega)) Kx ?_
    exact ⟨y.step, sa7, sa8, sa9, sa10, sc7, sc8, sc9, sc10, (u10 ++ (u9 ++ (u8 ++ u7))), (by simp only [List.append_assoc]; rfl), by rfl, (Lib.hid ((nf_step Ox ⟨by omega, by omega⟩).symm.trans hnf.out)), ⟨(SK.own (hS7.mono ((((List.Sublist.refl _).trans (List.sublist_append_right _ _)).trans (List.sublist_append_right _ _)).trans (List.sublist_append_right _ _)))), (SK.own (hS8.mono (((List.sublist_append_left _ _).trans (List.sublist_append_right _ _)).trans (List.sublist_append_right _ _)))), (SK.own (hS9.mono ((List.sublist_append_left _ _).trans (List.sublist_append_right _ _)))), (SK.own (hS10.mono (List.sublist_append_left _ _)))⟩, (Nm.step_fit hfit), (by simp only [Nm.step]; omega), (by simp only [Nm.step]; omega)⟩
  rintro f1 s ⟨y, ta0, ta1, ta2, ta3, tc0, tc1, tc2, tc3, u, rfl, hnf, hst, hsk, hfit⟩
  simp only [Act.putF, List.foldl_cons, List.foldl_nil, Act.put, Act.eval, q1, q2, q3, q4, q5, q6, q7, q8, q9, q10, q11, q12, q13, q14, q15, q16, q17, q18, Nat.reduceAdd, Bool.not_true, Bool.not_false]
  have hyz : y = z.nf := hst.symm.trans hnf.out
  replace hyz := Lib.hid hyz
  clear hst hnf
  obtain ⟨la, lb, lc, ld⟩ := fit_big hfit
  refine wk_seq ?_
  refine wk_region [0, 0, 0, 1, 1] rfl Kx ?_
  simp only [qy]
  refine rf_field (n := 0) (j := 8) rfl rfl rfl Try.underlying70 rfl Kx rfl ?_
  simp only [qz]
  refine rf_load rfl rfl rfl Try.underlying3 rfl (fun w hw => (Kn.hd0 (Kn.tl (Kn.tlU hw))).at rfl) ?_
  simp only [qz]
  refine rf_build (cs := fun a => #[.int .i64 0, .int .i64 0, .int .i64 0, .int .i64 0, a.eval (.tmp 53)]) rfl rfl Kx ?_
  simp only [qz]
  refine Rgn fun g11 => ?_
  simp only [qz]
  refine rf_storeR (n := 5) rfl rfl Kx rfl rfl (UpdR.here _ _ _ Nl) Nz ?_
  simp only [qz, Nat.reduceAdd]
  refine rg_nil (ek_next (wk_seq (wk_seq ?_)))
  refine wk_region [0] rfl Kx ?_
  simp only [qy]
  refine rg_assign ?_
  simp only [qz]
  refine rg_nil (ek_next (wk_block ?_))
  refine wk_unroll 4 ?_
  refine wk_seq (wk_seq ?_)
  refine wk_region [0, 0] rfl Kx ?_
  simp only [qy]
  refine rg_move ?_
  simp only [qz]
  refine rf_lss (b := true) rfl rfl rfl rfl (by decide) ?_
  simp only [qz]
  refine rg_nil (ek_next (wk_cond_t rfl (wk_skip (ek_next (wk_seq (wk_block (wk_seq ?_)))))))
  refine wk_region [0, 0, 0, 0, 1, 0, 0, 0, 0, 0] rfl Kx ?_
  simp only [qy]
  refine rg_move ?_
  simp only [qz]
  refine rf_field (n := 7) (j := 0) rfl rfl rfl Try.underlying70 rfl Kx rfl ?_
  simp only [qz]
  refine rf_indexA (n := 0) (sz := 2) (j := 0) rfl rfl rfl rfl Try.underlying68 Kx (by decide) rfl ?_
  simp only [qz]
  refine rf_loadR (n := 2) rfl rfl rfl Try.underlying67 rfl Kx (fun w hw => Kn.hd0 (Kn.tl (Kn.tlU (Kn.tl hw)))) rfl rfl ?_
  simp only [qz]
  cases hq0 : smB y.a
  · apply rg_pure Rx Kx
    case hargs => exact Ax
    case h => exact fun w hw => by have := bsmall_any y.a _ la w (hsk.a.at hw (List.Sublist.cons _ (List.sublist_append_left _ _))); rw [hq0] at this; exact this
    case hz => exact Nz
    simp only [qz]
    refine rg_move ?_
    simp only [qz]
    refine rf_extract rfl rfl rfl rfl ?_
    simp only [qz]
    refine rf_extract rfl rfl rfl rfl ?_
    simp only [qz]
    refine rg_assign ?_
    simp only [qz]
    refine rg_assign ?_
    simp only [qz]
    refine rg_nil (ek_next (wk_seq (wk_seq ?_)))
    refine wk_region [0, 0] rfl Kx ?_
    simp only [qy]
    refine rg_move ?_
    simp only [qz]
    refine rf_not rfl rfl rfl ?_
    simp only [qz]
    refine rg_nil (ek_next (wk_cond_t rfl (wk_seq ?_)))
    refine wk_region [0, 1, 0] rfl Kx ?_
    simp only [qy]
    refine rf_build (cs := fun a => #[.int .i64 0, .int .i64 0, .int .i64 0, .int .i64 0, .int .i64 0]) rfl rfl Kx ?_
    simp only [qz]
    refine rf_storeR (n := 5) rfl rfl Kx rfl rfl (UpdR.there _ (UpdR.app _ (UpdR.here _ _ _ Nl))) Nz ?_
    simp only [qz, Nat.reduceAdd]
    refine rg_assign ?_
    simp only [qz]
    refine rg_nil (ek_next (wk_ret (ek_then_ret (ek_block_ret (ek_then_ret (ek_then_ret (ek_block_ret (ek_then_ret ?_))))))))
    refine ek_ret (fun w hw => ⟨rfl, _, run_results2 rfl rfl (Kn.hd0 (Kn.tlU (Kn.tl hw))) Try.underlying45 rfl Kx, ?_⟩)
    (try simp only [qz])
    exact ⟨by unfold wnum; rw [← hyz.out]; unfold numOk; simp [*, Nm.zero], hw.below⟩
  apply rg_pure Rx Kx
  case hargs => exact Ax
  case h => exact fun w hw => by have := bsmall_any y.a _ la w (hsk.a.at hw (List.Sublist.cons _ (List.sublist_append_left _ _))); rw [hq0] at this; exact this
  case hz => exact Nz
  simp only [qz]
  refine rg_move ?_
  simp only [qz]
  refine rf_extract rfl rfl rfl rfl ?_
  simp only [qz]
  refine rf_extract rfl rfl rfl rfl ?_
  simp only [qz]
  refine rg_assign ?_
  simp only [qz]
  refine rg_assign ?_
  simp only [qz]
  refine rg_nil (ek_next (wk_seq (wk_seq ?_)))
  refine wk_region [0, 0] rfl Kx ?_
  simp only [qy]
  refine rg_move ?_
  simp only [qz]
  refine rf_not rfl rfl rfl ?_
  simp only [qz]
  refine rg_nil (ek_next (wk_cond_f rfl (wk_skip (ek_next ?_))))
  refine wk_region [0, 0, 0, 0, 1] rfl Kx ?_
  simp only [qy]
  refine rg_move ?_
  simp only [qz]
  refine rg_move ?_
  simp only [qz]
  refine rf_field (n := 3) (j := 0) rfl rfl rfl Try.underlying45 rfl Kx rfl ?_
  simp only [qz]
  refine rf_indexA (n := 0) (sz := 1) (j := 0) rfl rfl rfl rfl Try.underlying43 Kx (by decide) rfl ?_
  simp only [qz]
  refine rf_store rfl rfl Kx rfl rfl (UpdR.here _ _ _ Nl) Nz ?_
  simp only [qz]
  refine rg_nil (ek_block (ek_next ?_))
  refine wk_region [0, 0, 0] rfl Kx ?_
  simp only [qy]
  refine rg_move ?_
  simp only [qz]
  refine rf_add (r := 1) rfl rfl rfl rfl (by decide) ?_
  simp only [qz]
  refine rg_assign ?_
  simp only [qz]
  refine rg_nil (ek_again (wk_seq (wk_seq ?_)))
  refine wk_region [0, 0] rfl Kx ?_
  simp only [qy]
  refine rg_move ?_
  simp only [qz]
  refine rf_lss (b := true) rfl rfl rfl rfl (by decide) ?_
  simp only [qz]
  refine rg_nil (ek_next (wk_cond_t rfl (wk_skip (ek_next (wk_seq (wk_block (wk_seq ?_)))))))
  refine wk_region [0, 0, 0, 0, 1, 0, 0, 0, 0, 0] rfl Kx ?_
  simp only [qy]
  refine rg_move ?_
  simp only [qz]
  refine rf_field (n := 7) (j := 0) rfl rfl rfl Try.underlying70 rfl Kx rfl ?_
  simp only [qz]
  refine rf_indexA (n := 1) (sz := 2) (j := 2) rfl rfl rfl rfl Try.underlying68 Kx (by decide) rfl ?_
  simp only [qz]
  refine rf_loadR (n := 2) rfl rfl rfl Try.underlying67 rfl Kx (fun w hw => Kn.hd0 (Kn.tl (Kn.tlU (Kn.tl hw)))) rfl rfl ?_
  simp only [qz]
  cases hq1 : smB y.b
  · apply rg_pure Rx Kx
    case hargs => exact Ax
    case h => exact fun w hw => by have := bsmall_any y.b _ lb w (hsk.b.at hw (List.Sublist.cons _ (List.sublist_append_left _ _))); rw [hq1] at this; exact this
    case hz => exact Nz
    simp only [qz]
    refine rg_move ?_
    simp only [qz]
    refine rf_extract rfl rfl rfl rfl ?_
    simp only [qz]
    refine rf_extract rfl rfl rfl rfl ?_
    simp only [qz]
    refine rg_assign ?_
    simp only [qz]
    refine rg_assign ?_
    simp only [qz]
    refine rg_nil (ek_next (wk_seq (wk_seq ?_)))
    refine wk_region [0, 0] rfl Kx ?_
    simp only [qy]
    refine rg_move ?_
    simp only [qz]
    refine rf_not rfl rfl rfl ?_
    simp only [qz]
    refine rg_nil (ek_next (wk_cond_t rfl (wk_seq ?_)))
    refine wk_region [0, 1, 0] rfl Kx ?_
    simp only [qy]
    refine rf_build (cs := fun a => #[.int .i64 0, .int .i64 0, .int .i64 0, .int .i64 0, .int .i64 0]) rfl rfl Kx ?_
    simp only [qz]
    refine rf_storeR (n := 5) rfl rfl Kx rfl rfl (UpdR.there _ (UpdR.app _ (UpdR.here _ _ _ Nl))) Nz ?_
    simp only [qz, Nat.reduceAdd]
    refine rg_assign ?_
    simp only [qz]
    refine rg_nil (ek_next (wk_ret (ek_then_ret (ek_block_ret (ek_then_ret (ek_then_ret (ek_block_ret (ek_then_ret ?_))))))))
    refine ek_ret (fun w hw => ⟨rfl, _, run_results2 rfl rfl (Kn.hd0 (Kn.tlU (Kn.tl hw))) Try.underlying45 rfl Kx, ?_⟩)
    (try simp only [qz])
    exact ⟨by unfold wnum; rw [← hyz.out]; unfold numOk; simp [*, Nm.zero], hw.below⟩
  apply rg_pure Rx Kx
  case hargs => exact Ax
  case h => exact fun w hw => by have := bsmall_any y.b _ lb w (hsk.b.at hw (List.Sublist.cons _ (List.sublist_append_left _ _))); rw [hq1] at this; exact this
  case hz => exact Nz
  simp only [qz]
  refine rg_move ?_
  simp only [qz]
  refine rf_extract rfl rfl rfl rfl ?_
  simp only [qz]
  refine rf_extract rfl rfl rfl rfl ?_
  simp only [qz]
  refine rg_assign ?_
  simp only [qz]
  refine rg_assign ?_
  simp only [qz]
  refine rg_nil (ek_next (wk_seq (wk_seq ?_)))
  refine wk_region [0, 0] rfl Kx ?_
  simp only [qy]
  refine rg_move ?_
  simp only [qz]
  refine rf_not rfl rfl rfl ?_
  simp only [qz]
  refine rg_nil (ek_next (wk_cond_f rfl (wk_skip (ek_next ?_))))
  refine wk_region [0, 0, 0, 0, 1] rfl Kx ?_
  simp only [qy]
  refine rg_move ?_
  simp only [qz]
  refine rg_move ?_
  simp only [qz]
  refine rf_field (n := 3) (j := 0) rfl rfl rfl Try.underlying45 rfl Kx rfl ?_
  simp only [qz]
  refine rf_indexA (n := 1) (sz := 1) (j := 1) rfl rfl rfl rfl Try.underlying43 Kx (by decide) rfl ?_
  simp only [qz]
  refine rf_store rfl rfl Kx rfl rfl (UpdR.here _ _ _ Nl) Nz ?_
  simp only [qz]
  refine rg_nil (ek_block (ek_next ?_))
  refine wk_region [0, 0, 0] rfl Kx ?_
  simp only [qy]
  refine rg_move ?_
  simp only [qz]
  refine rf_add (r := 2) rfl rfl rfl rfl (by decide) ?_
  simp only [qz]
  refine rg_assign ?_
  simp only [qz]
  refine rg_nil (ek_again (wk_seq (wk_seq ?_)))
  refine wk_region [0, 0] rfl Kx ?_
  simp only [qy]
  refine rg_move ?_
  simp only [qz]
  refine rf_lss (b := true) rfl rfl rfl rfl (by decide) ?_
  simp only [qz]
  refine rg_nil (ek_next (wk_cond_t rfl (wk_skip (ek_next (wk_seq (wk_block (wk_seq ?_)))))))
  refine wk_region [0, 0, 0, 0, 1, 0, 0, 0, 0, 0] rfl Kx ?_
  simp only [qy]
  refine rg_move ?_
  simp only [qz]
  refine rf_field (n := 7) (j := 0) rfl rfl rfl Try.underlying70 rfl Kx rfl ?_
  simp only [qz]
  refine rf_indexA (n := 2) (sz := 2) (j := 4) rfl rfl rfl rfl Try.underlying68 Kx (by decide) rfl ?_
  simp only [qz]
  refine rf_loadR (n := 2) rfl rfl rfl Try.underlying67 rfl Kx (fun w hw => Kn.hd0 (Kn.tl (Kn.tlU (Kn.tl hw)))) rfl rfl ?_
  simp only [qz]
  cases hq2 : smB y.c
  · apply rg_pure Rx Kx
    case hargs => exact Ax
    case h => exact fun w hw => by have := bsmall_any y.c _ lc w (hsk.c.at hw (List.Sublist.cons _ (List.sublist_append_left _ _))); rw [hq2] at this; exact this
    case hz => exact Nz
    simp only [qz]
    refine rg_move ?_
    simp only [qz]
    refine rf_extract rfl rfl rfl rfl ?_
    simp only [qz]
    refine rf_extract rfl rfl rfl rfl ?_
    simp only [qz]
    refine rg_assign ?_
    simp only [qz]
    refine rg_assign ?_
    simp only [qz]
    refine rg_nil (ek_next (wk_seq (wk_seq ?_)))
    refine wk_region [0, 0] rfl Kx ?_
    simp only [qy]
    refine rg_move ?_
    simp only [qz]
    refine rf_not rfl rfl rfl ?_
    simp only [qz]
    refine rg_nil (ek_next (wk_cond_t rfl (wk_seq ?_)))
    refine wk_region [0, 1, 0] rfl Kx ?_
    simp only [qy]
    refine rf_build (cs := fun a => #[.int .i64 0, .int .i64 0, .int .i64 0, .int .i64 0, .int .i64 0]) rfl rfl Kx ?_
    simp only [qz]
    refine rf_storeR (n := 5) rfl rfl Kx rfl rfl (UpdR.there _ (UpdR.app _ (UpdR.here _ _ _ Nl))) Nz ?_
    simp only [qz, Nat.reduceAdd]
    refine rg_assign ?_
    simp only [qz]
    refine rg_nil (ek_next (wk_ret (ek_then_ret (ek_block_ret (ek_then_ret (ek_then_ret (ek_block_ret (ek_then_ret ?_))))))))
    refine ek_ret (fun w hw => ⟨rfl, _, run_results2 rfl rfl (Kn.hd0 (Kn.tlU (Kn.tl hw))) Try.underlying45 rfl Kx, ?_⟩)
    (try simp only [qz])
    exact ⟨by unfold wnum; rw [← hyz.out]; unfold numOk; simp [*, Nm.zero], hw.below⟩
  apply rg_pure Rx Kx
  case hargs => exact Ax
  case h => exact fun w hw => by have := bsmall_any y.c _ lc w (hsk.c.at hw (List.Sublist.cons _ (List.sublist_append_left _ _))); rw [hq2] at this; exact this
  case hz => exact Nz
  simp only [qz]
  refine rg_move ?_
  simp only [qz]
  refine rf_extract rfl rfl rfl rfl ?_
  simp only [qz]
  refine rf_extract rfl rfl rfl rfl ?_
  simp only [qz]
  refine rg_assign ?_
  simp only [qz]
  refine rg_assign ?_
  simp only [qz]
  refine rg_nil (ek_next (wk_seq (wk_seq ?_)))
  refine wk_region [0, 0] rfl Kx ?_
  simp only [qy]
  refine rg_move ?_
  simp only [qz]
  refine rf_not rfl rfl rfl ?_
  simp only [qz]
  refine rg_nil (ek_next (wk_cond_f rfl (wk_skip (ek_next ?_))))
  refine wk_region [0, 0, 0, 0, 1] rfl Kx ?_
  simp only [qy]
  refine rg_move ?_
  simp only [qz]
  refine rg_move ?_
  simp only [qz]
  refine rf_field (n := 3) (j := 0) rfl rfl rfl Try.underlying45 rfl Kx rfl ?_
  simp only [qz]
  refine rf_indexA (n := 2) (sz := 1) (j := 2) rfl rfl rfl rfl Try.underlying43 Kx (by decide) rfl ?_
  simp only [qz]
  refine rf_store rfl rfl Kx rfl rfl (UpdR.here _ _ _ Nl) Nz ?_
  simp only [qz]
  refine rg_nil (ek_block (ek_next ?_))
  refine wk_region [0, 0, 0] rfl Kx ?_
  simp only [qy]
  refine rg_move ?_
  simp only [qz]
  refine rf_add (r := 3) rfl rfl rfl rfl (by decide) ?_
  simp only [qz]
  refine rg_assign ?_
  simp only [qz]
  refine rg_nil (ek_again (wk_seq (wk_seq ?_)))
  refine wk_region [0, 0] rfl Kx ?_
  simp only [qy]
  refine rg_move ?_
  simp only [qz]
  refine rf_lss (b := true) rfl rfl rfl rfl (by decide) ?_
  simp only [qz]
  refine rg_nil (ek_next (wk_cond_t rfl (wk_skip (ek_next (wk_seq (wk_block (wk_seq ?_)))))))
  refine wk_region [0, 0, 0, 0, 1, 0, 0, 0, 0, 0] rfl Kx ?_
  simp only [qy]
  refine rg_move ?_
  simp only [qz]
  refine rf_field (n := 7) (j := 0) rfl rfl rfl Try.underlying70 rfl Kx rfl ?_
  simp only [qz]
  refine rf_indexA (n := 3) (sz := 2) (j := 6) rfl rfl rfl rfl Try.underlying68 Kx (by decide) rfl ?_
  simp only [qz]
  refine rf_loadR (n := 2) rfl rfl rfl Try.underlying67 rfl Kx (fun w hw => Kn.hd0 (Kn.tl (Kn.tlU (Kn.tl hw)))) rfl rfl ?_
  simp only [qz]
  cases hq3 : smB y.d
  · apply rg_pure Rx Kx
    case hargs => exact Ax
    case h => exact fun w hw => by have := bsmall_any y.d _ ld w (hsk.d.at hw (List.Sublist.cons _ (List.sublist_append_left _ _))); rw [hq3] at this; exact this
    case hz => exact Nz
    simp only [qz]
    refine rg_move ?_
    simp only [qz]
    refine rf_extract rfl rfl rfl rfl ?_
    simp only [qz]
    refine rf_extract rfl rfl rfl rfl ?_
    simp only [qz]
    refine rg_assign ?_
    simp only [qz]
    refine rg_assign ?_
    simp only [qz]
    refine rg_nil (ek_next (wk_seq (wk_seq ?_)))
    refine wk_region [0, 0] rfl Kx ?_
    simp only [qy]
    refine rg_move ?_
    simp only [qz]
    refine rf_not rfl rfl rfl ?_
    simp only [qz]
    refine rg_nil (ek_next (wk_cond_t rfl (wk_seq ?_)))
    refine wk_region [0, 1, 0] rfl Kx ?_
    simp only [qy]
    refine rf_build (cs := fun a => #[.int .i64 0, .int .i64 0, .int .i64 0, .int .i64 0, .int .i64 0]) rfl rfl Kx ?_
    simp only [qz]
    refine rf_storeR (n := 5) rfl rfl Kx rfl rfl (UpdR.there _ (UpdR.app _ (UpdR.here _ _ _ Nl))) Nz ?_
    simp only [qz, Nat.reduceAdd]
    refine rg_assign ?_
    simp only [qz]
    refine rg_nil (ek_next (wk_ret (ek_then_ret (ek_block_ret (ek_then_ret (ek_then_ret (ek_block_ret (ek_then_ret ?_))))))))
    refine ek_ret (fun w hw => ⟨rfl, _, run_results2 rfl rfl (Kn.hd0 (Kn.tlU (Kn.tl hw))) Try.underlying45 rfl Kx, ?_⟩)
    (try simp only [qz])
    exact ⟨by unfold wnum; rw [← hyz.out]; unfold numOk; simp [*, Nm.zero], hw.below⟩
  apply rg_pure Rx Kx
  case hargs => exact Ax
  case h => exact fun w hw => by have := bsmall_any y.d _ ld w (hsk.d.at hw (List.Sublist.cons _ (List.sublist_append_left _ _))); rw [hq3] at this; exact this
  case hz => exact Nz
  simp only [qz]
  refine rg_move ?_
  simp only [qz]
  refine rf_extract rfl rfl rfl rfl ?_
  simp only [qz]
  refine rf_extract rfl rfl rfl rfl ?_
  simp only [qz]
  refine rg_assign ?_
  simp only [qz]
  refine rg_assign ?_
  simp only [qz]
  refine rg_nil (ek_next (wk_seq (wk_seq ?_)))
  refine wk_region [0, 0] rfl Kx ?_
  simp only [qy]
  refine rg_move ?_
  simp only [qz]
  refine rf_not rfl rfl rfl ?_
  simp only [qz]
  refine rg_nil (ek_next (wk_cond_f rfl (wk_skip (ek_next ?_))))
  refine wk_region [0, 0, 0, 0, 1] rfl Kx ?_
  simp only [qy]
  refine rg_move ?_
  simp only [qz]
  refine rg_move ?_
  simp only [qz]
  refine rf_field (n := 3) (j := 0) rfl rfl rfl Try.underlying45 rfl Kx rfl ?_
  simp only [qz]
  refine rf_indexA (n := 3) (sz := 1) (j := 3) rfl rfl rfl rfl Try.underlying43 Kx (by decide) rfl ?_
  simp only [qz]
  refine rf_store rfl rfl Kx rfl rfl (UpdR.here _ _ _ Nl) Nz ?_
  simp only [qz]
  refine rg_nil (ek_block (ek_next ?_))
  refine wk_region [0, 0, 0] rfl Kx ?_
  simp only [qy]
  refine rg_move ?_
  simp only [qz]
  refine rf_add (r := 4) rfl rfl rfl rfl (by decide) ?_
  simp only [qz]
  refine rg_assign ?_
  simp only [qz]
  refine rg_nil (ek_again (wk_seq (wk_seq ?_)))
  refine wk_region [0, 0] rfl Kx ?_
  simp only [qy]
  refine rg_move ?_
  simp only [qz]
  refine rf_lss (b := false) rfl rfl rfl rfl (by decide) ?_
  simp only [qz]
  refine rg_nil (ek_next (wk_cond_f rfl (wk_exit (ek_then_exit (ek_then_exit (ek_block_exit (ek_next (wk_seq ?_))))))))
  refine wk_draws_m (hz1 := (sc _ (List.Sublist.append_left (sk _ (sc _ sn)) _))) [(0, 0), (1, 3), (2, 3), (3, 3), (4, 2), (5, 0)] 4 Kx Kx (fun c d v a w h => by cases d <;> exact h) ?_
  simp only [List.map_cons, List.map_nil, List.getD_cons_zero, List.getD_cons_succ]
  refine rf_loadR (n := 5) rfl rfl rfl Try.underlying45 rfl Kx (fun w hw => Kn.hd0 hw) rfl rfl ?_
  simp only [qz]
  refine rf_field (n := 0) (j := 8) rfl rfl rfl Try.underlying70 rfl Kx rfl ?_
  simp only [qz]
  refine rf_load rfl rfl rfl Try.underlying3 rfl (fun w hw => (Kn.hd0 (Kn.tlU (Kn.tl hw))).at rfl) ?_
  simp only [qz]
  refine rf_leq rfl rfl rfl rfl rfl ?_
  simp only [qz]
  refine rf_storeRM (n := 5) rfl rfl Kx rfl rfl (UpdR.there _ (UpdR.app _ (UpdR.here _ _ _ Nl))) (sc _ (List.Sublist.append_left (sk _ (sc _ sn)) _)) ?_
  simp only [qz, Nat.reduceAdd]
  refine rg_assign ?_
  simp only [qz]
  refine rg_nil (ek_next (wk_ret ?_))
  refine ek_ret (fun w hw => ⟨rfl, _, run_results2 rfl rfl (Kn.hd0 (Kn.tlU (Kn.tl hw))) Try.underlying45 rfl Kx, ?_⟩)
  (try simp only [qz])
  exact ⟨by unfold wnum; rw [← hyz.out]; unfold numOk; simp [*, Nm.zero], hw.below⟩

end Go.Proofs.Ytccbinnlnkpplaa
namespace Go.Proofs.Ytccbinnlnkpplaa
set_option linter.all false
open Go.RowKit

theorem fit382 {z : Nm} (h : z.Fit 1000000000) : z.Fit 9850501549098619803069760025035903451269934817616361666987073351061430442874302652853566563721228910201656997576704 := Nm.fit_mono h (by decide)
theorem to_fit {z : Nm} {m : Int} (h : z.Fit 1000000000) (h0 : z.k ≤ m) (h1 : m - z.k ≤ 40) : (z.to m).Fit 9850501549098619803069760025035903451269934817616361666987073351061430442874302652853566563721228910201656997576704 := by
  unfold Nm.to
  exact Nm.fit_mono (Nm.up40_fit (n := (m - z.k).toNat) h Ox) (by decide)
theorem addR_fitW {x y : Nm} (hx : x.Ok) (hy : y.Ok) : (x.addR y).Fit 9850501549098619803069760025035903451269934817616361666987073351061430442874302652853566563721228910201656997576704 := Nm.fit_mono (addR_fit hx hy) (by decide)
theorem mulR_fitW {x y : Nm} (hx : x.Ok) (hy : y.Ok) : (x.mulR y).Fit 9850501549098619803069760025035903451269934817616361666987073351061430442874302652853566563721228910201656997576704 := Nm.fit_mono (mulR_fit hx.fit hy.fit) (by decide)
end Go.Proofs.Ytccbinnlnkpplaa
namespace Go.Proofs.Ytccbinnlnkpplaa
set_option linter.all false
open Go.RowKit

set_option maxRecDepth 100000 in
set_option maxHeartbeats 1000000 in
theorem rAt_any (N i k : Nat) (xs : List Nm) (a : Option Addr) (c : Nat) (hl : xs.length = N * N) (hN : N ≤ 6) (hi : i < N) (hk : k < N) (w : World) (hA : AS w a (nms xs)) : Calls Try.prog 115 #[.agg #[.int .i64 N, .slice a xs.length c], .int .i64 i, .int .i64 k] w fun e w' => e = .returned (nmV (nm xs (i * N + k))) ∧ Below w.heap.size w w' := by
  have hm := ix_small hi hN
  have hc0 : ((i * N : Nat) : Int) = (i : Int) * N := Int.natCast_mul i N
  obtain ⟨b, off, rfl, hlt, hcell⟩ := AS.openN hA Ox
  go_enter Try.func115, Try.ntmps115
  refine wk_start ?_
  refine wk_seq ?_
  refine wk_region [1, 1] rfl Kx ?_
  simp only [qy]
  refine Rgn fun g1 => ?_
  simp only [qz]
  refine Rgn fun g2 => ?_
  simp only [qz]
  refine rg_nil (ek_next (wk_seq ?_))
  refine wk_region [0, 0, 0, 0, 0, 0, 0, 0, 0, 0, 1] rfl Kx ?_
  simp only [qy]
  refine rf_field (n := 0) (j := 1) rfl rfl rfl Try.underlying38 rfl Kx rfl ?_
  simp only [qz]
  refine rf_load rfl rfl rfl Try.underlying36 rfl (fun w hw => (Kn.hd0 (Kn.tl hw)).at rfl) ?_
  simp only [qz]
  refine rg_move ?_
  simp only [qz]
  refine rf_field (n := 0) (j := 0) rfl rfl rfl Try.underlying38 rfl Kx rfl ?_
  simp only [qz]
  refine rf_load rfl rfl rfl Try.underlying3 rfl (fun w hw => (Kn.hd0 (Kn.tl hw)).at rfl) ?_
  simp only [qz]
  refine rf_mul rfl rfl rfl rfl (wrap_ok Ox Ox) ?_
  simp only [qz]
  refine rg_move ?_
  simp only [qz]
  refine rf_add rfl rfl rfl rfl (wrap_ok Ox Ox) ?_
  simp only [qz]
  refine rf_indexS (n := i * N + k) (sz := 5) (j := off + (i * N + k) * 5) rfl rfl rfl rfl Try.underlying36 Kx (by rw [Int.natCast_add, Int.natCast_mul]) Ox rfl ?_
  simp only [qz]
  refine rf_loadC (n := 5) (vs := nmC (nm xs (i * N + k))) rfl rfl rfl Try.underlying45 rfl Kx rfl (fun w hw => atN_range ((hcell _ Ox).kn hw hlt (by simp))) ?_
  simp only [qz]
  refine rf_storeR (n := 5) rfl rfl Kx rfl rfl (UpdR.here _ _ _ Nl) Nz ?_
  simp only [qz, Nat.reduceAdd]
  refine rg_nil (ek_next (wk_ret ?_))
  refine ek_ret (fun w hw => ⟨rfl, _, run_results1 rfl rfl (Kn.hd0 hw) Try.underlying45 rfl Kx, ?_⟩)
  (try simp only [qz])
  first | exact ⟨rfl, hw.below⟩ | exact ⟨trivial, hw.below⟩ | exact hw.below

set_option maxRecDepth 100000 in
set_option maxHeartbeats 1000000 in
theorem rOne_any  (w : World) : Calls Try.prog 54 #[] w fun e w' => e = .returned (nmV Nm.one) ∧ Below w.heap.size w w' := by
  go_enter Try.func54, Try.ntmps54
  refine wk_start ?_
  refine wk_seq ?_
  refine wk_region [1] rfl Kx ?_
  simp only [qy]
  refine Rgn fun g1 => ?_
  simp only [qz]
  refine rg_nil (ek_next (wk_seq ?_))
  refine wk_region [0, 0, 1] rfl Kx ?_
  simp only [qy]
  refine rf_build (cs := fun a => #[a.eval (.const (.int .i64 1)), .int .i64 0, .int .i64 0, .int .i64 0]) rfl rfl Kx ?_
  simp only [qz]
  refine rf_build (cs := fun a => #[cellAt (a.eval (.tmp 1)) 0, cellAt (a.eval (.tmp 1)) 1, cellAt (a.eval (.tmp 1)) 2, cellAt (a.eval (.tmp 1)) 3, .int .i64 0]) rfl rfl Kx ?_
  simp only [qz]
  refine rf_storeR (n := 5) rfl rfl Kx rfl rfl (UpdR.here _ _ _ Nl) Nz ?_
  simp only [qz, Nat.reduceAdd]
  refine rg_nil (ek_next (wk_ret ?_))
  refine ek_ret (fun w hw => ⟨rfl, _, run_results1 rfl rfl (Kn.hd0 hw) Try.underlying45 rfl Kx, ?_⟩)
  (try simp only [qz])
  first | exact ⟨rfl, hw.below⟩ | exact ⟨trivial, hw.below⟩ | exact hw.below

end Go.Proofs.Ytccbinnlnkpplaa
namespace Go.Proofs.Ytccbinnlnkpplaa
set_option linter.all false
open Go.RowKit

theorem SA4.cj {w : World} {z : Nm} {s0 s1 s2 s3 : Value} (h : SA4 w z s0 s1 s2 s3) : SA4 w z.conj s0 s3 s2 s1 :=
  ⟨h.a, by simp only [Nm.conj, Int.natAbs_neg]; exact h.d, by simp only [Nm.conj, Int.natAbs_neg]; exact h.c, by simp only [Nm.conj, Int.natAbs_neg]; exact h.b⟩
theorem conj_fitC {M : Int} {z : Nm} (h : z.Fit M) : z.conj.Fit M := by
  obtain ⟨h1, h2, h3, h4, h5, h6, h7, h8⟩ := h
  unfold Nm.conj
  exact ⟨h1, h2, by dsimp only; omega, by dsimp only; omega, by dsimp only; omega, by dsimp only; omega, by dsimp only; omega, by dsimp only; omega⟩
theorem to_0 {z : Nm} {m : Int} (h : z.k = m) : z.to m = z := by
  unfold Nm.to
  rw [h, Int.sub_self]
  rfl
set_option maxRecDepth 100000 in
set_option maxHeartbeats 1000000 in
theorem rbarw_any (m : Nat) (hm : m ≤ 7) (w : World) : Calls Try.prog 70 #[.int .i64 (m : Int)] w fun e w' => RetW w (barW m) e w' := by
  obtain ⟨hft, hk0, hk1, hk2, hk3⟩ := bar_fit m hm
  simp only [Bool.and_eq_true] at hft
  obtain ⟨ht, hs_, hx, hb⟩ := hft
  have ft := fitC_fit ht
  have fs := fitC_fit hs_
  have fx := fitC_fit hx
  have fm : (⟨-1, 0, 0, 0, 0⟩ : Nm).Fit 10 := fitC_fit (by decide)
  have fh : (⟨1, 0, 0, 0, 2⟩ : Nm).Fit 10 := fitC_fit (by decide)
  clear ht hs_ hx hb
  go_enter Try.func70, Try.ntmps70
  refine wk_start ?_
  refine wk_seq ?_
  refine wk_region [1] rfl Kx ?_
  simp only [qy]
  refine Rgn fun g1 => ?_
  simp only [qz]
  refine rg_nil (ek_next (wk_seq ?_))
  refine wk_region [0, 0, 1, 1] rfl Kx ?_
  simp only [qy]
  refine rf_build (cs := fun a => #[a.eval (.const (.int .i64 (-1))), .int .i64 0, .int .i64 0, .int .i64 0]) rfl rfl Kx ?_
  simp only [qz]
  refine rf_build (cs := fun a => #[cellAt (a.eval (.tmp 6)) 0, cellAt (a.eval (.tmp 6)) 1, cellAt (a.eval (.tmp 6)) 2, cellAt (a.eval (.tmp 6)) 3, .int .i64 0]) rfl rfl Kx ?_
  simp only [qz]
  refine Rgn fun g2 => ?_
  simp only [qz]
  refine rf_storeR (n := 5) rfl rfl Kx rfl rfl (UpdR.here _ _ _ Nl) Nz ?_
  simp only [qz, Nat.reduceAdd]
  refine rg_nil (ek_next (wk_seq ?_))
  refine wk_region [0, 0, 1, 1, 1] rfl Kx ?_
  simp only [qy]
  refine rf_build (cs := fun a => #[a.eval (.const (.int .i64 1)), .int .i64 0, .int .i64 0, .int .i64 0]) rfl rfl Kx ?_
  simp only [qz]
  refine rf_build (cs := fun a => #[cellAt (a.eval (.tmp 8)) 0, cellAt (a.eval (.tmp 8)) 1, cellAt (a.eval (.tmp 8)) 2, cellAt (a.eval (.tmp 8)) 3, a.eval (.const (.int .i64 2))]) rfl rfl Kx ?_
  simp only [qz]
  apply (rg_made (T := fun v u => ∃ s0 s1 s2 s3, v = wdV ((⟨1, 0, 0, 0, 2⟩ : Nm)) s0 s1 s2 s3 ∧ SU4 u ((⟨1, 0, 0, 0, 2⟩ : Nm)) s0 s1 s2 s3)) Rx Kx
  case hargs => exact Ax
  case h => exact fun w hw => wideOf_any ((⟨1, 0, 0, 0, 2⟩ : Nm)) (Nm.fit_mono fh (by decide)) w
  case hz => exact Nz
  rintro _ u3 ⟨t0, t1, t2, t3, rfl, hS3⟩
  obtain ⟨⟨ta3_0, tc3_0, rfl⟩, -⟩ := id hS3.a
  obtain ⟨⟨ta3_1, tc3_1, rfl⟩, -⟩ := id hS3.b
  obtain ⟨⟨ta3_2, tc3_2, rfl⟩, -⟩ := id hS3.c
  obtain ⟨⟨ta3_3, tc3_3, rfl⟩, -⟩ := id hS3.d
  simp only [qz]
  refine Rgn fun g4 => ?_
  simp only [qz]
  refine rf_storeR (n := 9) rfl rfl Kx rfl rfl (UpdR.here _ _ _ Nl) Nz ?_
  simp only [qz, Nat.reduceAdd]
  refine rg_nil (ek_next ?_)
  refine wk_cutF [5, 11, 12, 13, 14, 15, 16, 17, 18, 19] (fun f s => ∃ (gx : Nat) (u90 : List Blk) (ta90_0 ta90_1 ta90_2 ta90_3 : Option Addr) (tc90_0 tc90_1 tc90_2 tc90_3 : Nat), f 5 = .pointer (some ⟨gx, 0, none⟩) ∧ s = ((gx, .cells #[.bool (decide ((barX m).a < 0)), .slice ta90_0 (digs (barX m).a.natAbs).length tc90_0, .bool (decide ((barX m).b < 0)), .slice ta90_1 (digs (barX m).b.natAbs).length tc90_1, .bool (decide ((barX m).c < 0)), .slice ta90_2 (digs (barX m).c.natAbs).length tc90_2, .bool (decide ((barX m).d < 0)), .slice ta90_3 (digs (barX m).d.natAbs).length tc90_3, .int .i64 (barX m).k] 70) :: (u90 ++ ((g1, .cells #[.bool false, .slice none 0 0, .bool false, .slice none 0 0, .bool false, .slice none 0 0, .bool false, .slice none 0 0, .int .i64 0] 70) :: []))) ∧ SU4 u90 (barX m) (.slice ta90_0 (digs (barX m).a.natAbs).length tc90_0) (.slice ta90_1 (digs (barX m).b.natAbs).length tc90_1) (.slice ta90_2 (digs (barX m).c.natAbs).length tc90_2) (.slice ta90_3 (digs (barX m).d.natAbs).length tc90_3)) ?_ ?_
  · refine wk_rt _ Kx (sc _ (List.Sublist.append_left (sc _ (sc _ sn)) _)) ?_
    refine rt_soft (i := 1) rfl Kx (fun c d v a w h => by cases d <;> exact h) (sc _ (List.Sublist.append_left (sc _ (sc _ sn)) _)) ?_
    refine rg_move ?_
    simp only [qz]
    refine rg_nil ?_
    refine ek_rt (sc _ (List.Sublist.append_left (sc _ (sc _ sn)) _)) ?_
    refine rt_soft (i := 4) rfl Kx (fun c d v a w h => by cases d <;> exact h) (sc _ (List.Sublist.append_left (sc _ (sc _ sn)) _)) ?_
    refine rf_loadR (n := 5) rfl rfl rfl Try.underlying45 rfl Kx (fun w hw => Kn.hd0 (Kn.tlU (Kn.tl hw))) rfl rfl ?_
    simp only [qz]
    refine rg_nil ?_
    refine ek_rt (sc _ (List.Sublist.append_left (sc _ (sc _ sn)) _)) ?_
    refine rt_soft (i := 7) rfl Kx (fun c d v a w h => by cases d <;> exact h) (sc _ (List.Sublist.append_left (sc _ (sc _ sn)) _)) ?_
    refine rf_loadR (n := 9) rfl rfl rfl Try.underlying70 rfl Kx (fun w hw => Kn.hd0 hw) rfl rfl ?_
    simp only [qz]
    refine rg_nil ?_
    refine ek_rt (sc _ (List.Sublist.append_left (sc _ (sc _ sn)) _)) ?_
    refine rt_hard2 (i := 0) (j := 9) Kx rfl rfl ?_ ?_
    · apply rg_pure Rx Kx
      case hargs => exact Ax
      case h => exact fun w hw => rOne_any w
      case hz => exact (fun _ h => by cases h; exact (sc _ (List.Sublist.append_left (sc _ (sc _ sn)) _)))
      simp only [qz]
      refine rg_nil ?_
      refine ek_rt (sc _ (List.Sublist.append_left (sc _ (sc _ sn)) _)) ?_
      refine rt_hard2 (i := 2) (j := 9) Kx rfl rfl ?_ ?_
      · apply rg_pure Rx Kx
        case hargs => exact Ax
        case h => exact fun w hw => rTurned_any Nm.one m one_ok Ox w
        case hz => exact (fun _ h => by cases h; exact (sc _ (List.Sublist.append_left (sc _ (sc _ sn)) _)))
        simp only [qz]
        refine rg_nil ?_
        refine ek_rt (sc _ (List.Sublist.append_left (sc _ (sc _ sn)) _)) ?_
        refine rt_hard2 (i := 3) (j := 9) Kx rfl rfl ?_ ?_
        · apply (rg_made (T := fun v u => ∃ s0 s1 s2 s3, v = wdV (Nm.turn m Nm.one) s0 s1 s2 s3 ∧ SU4 u (Nm.turn m Nm.one) s0 s1 s2 s3)) Rx Kx
          case hargs => exact Ax
          case h => exact fun w hw => wideOf_any (Nm.turn m Nm.one) (Nm.fit_mono ft (by decide)) w
          case hz => exact (fun _ h => by cases h; exact (sc _ (List.Sublist.append_left (sc _ (sc _ sn)) _)))
          rintro _ u5 ⟨t0, t1, t2, t3, rfl, hS5⟩
          obtain ⟨⟨ta5_0, tc5_0, rfl⟩, -⟩ := id hS5.a
          obtain ⟨⟨ta5_1, tc5_1, rfl⟩, -⟩ := id hS5.b
          obtain ⟨⟨ta5_2, tc5_2, rfl⟩, -⟩ := id hS5.c
          obtain ⟨⟨ta5_3, tc5_3, rfl⟩, -⟩ := id hS5.d
          simp only [qz]
          refine rg_nil ?_
          refine ek_rt ((sc _ (List.Sublist.append_left (sc _ (sc _ sn)) _)).trans (List.sublist_append_right _ _)) ?_
          refine rt_hard2 (i := 5) (j := 9) Kx rfl rfl ?_ ?_
          · apply (rg_made (T := fun v u => ∃ s0 s1 s2 s3, v = wdV ((⟨-1, 0, 0, 0, 0⟩ : Nm)) s0 s1 s2 s3 ∧ SU4 u ((⟨-1, 0, 0, 0, 0⟩ : Nm)) s0 s1 s2 s3)) Rx Kx
            case hargs => exact Ax
            case h => exact fun w hw => wideOf_any ((⟨-1, 0, 0, 0, 0⟩ : Nm)) (Nm.fit_mono fm (by decide)) w
            case hz => exact (fun _ h => by cases h; exact ((sc _ (List.Sublist.append_left (sc _ (sc _ sn)) _)).trans (List.sublist_append_right _ _)))
            rintro _ u6 ⟨t0, t1, t2, t3, rfl, hS6⟩
            obtain ⟨⟨ta6_0, tc6_0, rfl⟩, -⟩ := id hS6.a
            obtain ⟨⟨ta6_1, tc6_1, rfl⟩, -⟩ := id hS6.b
            obtain ⟨⟨ta6_2, tc6_2, rfl⟩, -⟩ := id hS6.c
            obtain ⟨⟨ta6_3, tc6_3, rfl⟩, -⟩ := id hS6.d
            simp only [qz]
            refine rg_nil ?_
            refine ek_rt (((sc _ (List.Sublist.append_left (sc _ (sc _ sn)) _)).trans (List.sublist_append_right _ _)).trans (List.sublist_append_right _ _)) ?_
            refine rt_hard2 (i := 6) (j := 9) Kx rfl rfl ?_ ?_
            · apply (rg_made (T := fun v u => ∃ s0 s1 s2 s3, v = wdV ((Nm.turn m Nm.one).addR ⟨-1, 0, 0, 0, 0⟩) s0 s1 s2 s3 ∧ SU4 u ((Nm.turn m Nm.one).addR ⟨-1, 0, 0, 0, 0⟩) s0 s1 s2 s3)) Rx Kx
              case hargs => exact Ax
              case h => exact fun w hw => wplus_any (Nm.turn m Nm.one) (⟨-1, 0, 0, 0, 0⟩ : Nm) _ _ _ _ _ _ _ _ (by rw [hk0, show max (0 : Int) ((⟨-1, 0, 0, 0, 0⟩ : Nm)).k = 0 from rfl, to_0 hk0]; exact (Nm.fit_mono ft (by decide))) (by rw [hk0]; exact (Nm.fit_mono fm (by decide))) Ox Ox (by decide) (by decide) w (hS5.at hw ((List.sublist_append_left _ _).trans (List.sublist_append_right _ _))) (hS6.at hw (List.sublist_append_left _ _))
              case hz => exact (fun _ h => by cases h; exact (((sc _ (List.Sublist.append_left (sc _ (sc _ sn)) _)).trans (List.sublist_append_right _ _)).trans (List.sublist_append_right _ _)))
              rintro _ u7 ⟨t0, t1, t2, t3, rfl, hS7⟩
              obtain ⟨⟨ta7_0, tc7_0, rfl⟩, -⟩ := id hS7.a
              obtain ⟨⟨ta7_1, tc7_1, rfl⟩, -⟩ := id hS7.b
              obtain ⟨⟨ta7_2, tc7_2, rfl⟩, -⟩ := id hS7.c
              obtain ⟨⟨ta7_3, tc7_3, rfl⟩, -⟩ := id hS7.d
              simp only [qz]
              refine rg_nil ?_
              refine ek_rt ((((sc _ (List.Sublist.append_left (sc _ (sc _ sn)) _)).trans (List.sublist_append_right _ _)).trans (List.sublist_append_right _ _)).trans (List.sublist_append_right _ _)) ?_
              refine rt_hard2 (i := 8) (j := 9) Kx rfl rfl ?_ ?_
              · apply (rg_made (T := fun v u => ∃ s0 s1 s2 s3, v = wdV (barX m) s0 s1 s2 s3 ∧ SU4 u (barX m) s0 s1 s2 s3)) Rx Kx
                case hargs => exact Ax
                case h => exact fun w hw => wtimes_any ((Nm.turn m Nm.one).addR ⟨-1, 0, 0, 0, 0⟩) (⟨1, 0, 0, 0, 2⟩ : Nm) _ _ _ _ _ _ _ _ (Nm.fit_mono fs (by decide)) (Nm.fit_mono fh (by decide)) (prodB_ok (Nm.fit_mono fs (by decide)) (Nm.fit_mono fh (by decide))) Ox Ox (by decide) (by decide) w (hS7.at hw (List.sublist_append_left _ _)) (hS3.at hw ((((List.Sublist.cons _ (List.sublist_append_left _ _)).trans (List.sublist_append_right _ _)).trans (List.sublist_append_right _ _)).trans (List.sublist_append_right _ _)))
                case hz => exact (fun _ h => by cases h; exact ((((sc _ (List.Sublist.append_left (sc _ (sc _ sn)) _)).trans (List.sublist_append_right _ _)).trans (List.sublist_append_right _ _)).trans (List.sublist_append_right _ _)))
                rintro _ u8 ⟨t0, t1, t2, t3, rfl, hS8⟩
                obtain ⟨⟨ta8_0, tc8_0, rfl⟩, -⟩ := id hS8.a
                obtain ⟨⟨ta8_1, tc8_1, rfl⟩, -⟩ := id hS8.b
                obtain ⟨⟨ta8_2, tc8_2, rfl⟩, -⟩ := id hS8.c
                obtain ⟨⟨ta8_3, tc8_3, rfl⟩, -⟩ := id hS8.d
                simp only [qz]
                refine rg_nil ?_
                refine ek_rt (((((sc _ (List.Sublist.append_left (sc _ (sc _ sn)) _)).trans (List.sublist_append_right _ _)).trans (List.sublist_append_right _ _)).trans (List.sublist_append_right _ _)).trans (List.sublist_append_right _ _)) ?_
                refine rt_hard1 (i := 9) Kx rfl ?_
                refine rg_new (cs := ?_) (ty := ?_) Rx (fun w => ?_) (fun _ h => by cases h; exact (((((sc _ (List.Sublist.append_left (sc _ (sc _ sn)) _)).trans (List.sublist_append_right _ _)).trans (List.sublist_append_right _ _)).trans (List.sublist_append_right _ _)).trans (List.sublist_append_right _ _))) (fun g9 => ?_); rotate_left 2
                focus (go_simp; rfl)
                simp only [qz]
                refine rg_nil ?_
                refine ek_rt (sk _ (((((sc _ (List.Sublist.append_left (sc _ (sc _ sn)) _)).trans (List.sublist_append_right _ _)).trans (List.sublist_append_right _ _)).trans (List.sublist_append_right _ _)).trans (List.sublist_append_right _ _))) ?_
                refine rt_hard1 (i := 10) Kx rfl ?_
                refine rf_storeR (n := 9) rfl rfl Kx rfl rfl (UpdR.here _ _ _ Nl) (fun _ h => by cases h; exact (sk _ (((((sc _ (List.Sublist.append_left (sc _ (sc _ sn)) _)).trans (List.sublist_append_right _ _)).trans (List.sublist_append_right _ _)).trans (List.sublist_append_right _ _)).trans (List.sublist_append_right _ _)))) ?_
                simp only [qz, Nat.reduceAdd]
                refine rg_nil ?_
                refine ek_rt (sk _ (((((sc _ (List.Sublist.append_left (sc _ (sc _ sn)) _)).trans (List.sublist_append_right _ _)).trans (List.sublist_append_right _ _)).trans (List.sublist_append_right _ _)).trans (List.sublist_append_right _ _))) ?_
                refine rt_nil Kx ?_
                refine ek_sub (sc _ (List.Sublist.append_left ((((sk _ ((sk _ (sc _ sn)).trans (List.sublist_append_right _ _))).trans (List.sublist_append_right _ _)).trans (List.sublist_append_right _ _)).trans (List.sublist_append_right _ _)) _)) ?_
                refine ek_midF Kx ?_
                exact ⟨g9, u8, ta8_0, ta8_1, ta8_2, ta8_3, tc8_0, tc8_1, tc8_2, tc8_3, rfl, by rfl, hS8⟩
              refine rg_new (cs := ?_) (ty := ?_) Rx (fun w => ?_) (fun _ h => by cases h; exact ((((sc _ (List.Sublist.append_left (sc _ (sc _ sn)) _)).trans (List.sublist_append_right _ _)).trans (List.sublist_append_right _ _)).trans (List.sublist_append_right _ _))) (fun g10 => ?_); rotate_left 2
              focus (go_simp; rfl)
              simp only [qz]
              refine rg_nil ?_
              refine ek_rt (sk _ ((((sc _ (List.Sublist.append_left (sc _ (sc _ sn)) _)).trans (List.sublist_append_right _ _)).trans (List.sublist_append_right _ _)).trans (List.sublist_append_right _ _))) ?_
              refine rt_hard1 (i := 8) Kx rfl ?_
              apply (rg_made (T := fun v u => ∃ s0 s1 s2 s3, v = wdV (barX m) s0 s1 s2 s3 ∧ SU4 u (barX m) s0 s1 s2 s3)) Rx Kx
              case hargs => exact Ax
              case h => exact fun w hw => wtimes_any ((Nm.turn m Nm.one).addR ⟨-1, 0, 0, 0, 0⟩) (⟨1, 0, 0, 0, 2⟩ : Nm) _ _ _ _ _ _ _ _ (Nm.fit_mono fs (by decide)) (Nm.fit_mono fh (by decide)) (prodB_ok (Nm.fit_mono fs (by decide)) (Nm.fit_mono fh (by decide))) Ox Ox (by decide) (by decide) w (hS7.at hw (List.Sublist.cons _ (List.sublist_append_left _ _))) (hS3.at hw (List.Sublist.cons _ ((((List.Sublist.cons _ (List.sublist_append_left _ _)).trans (List.sublist_append_right _ _)).trans (List.sublist_append_right _ _)).trans (List.sublist_append_right _ _))))
              case hz => exact (fun _ h => by cases h; exact (sk _ ((((sc _ (List.Sublist.append_left (sc _ (sc _ sn)) _)).trans (List.sublist_append_right _ _)).trans (List.sublist_append_right _ _)).trans (List.sublist_append_right _ _))))
              rintro _ u11 ⟨t0, t1, t2, t3, rfl, hS11⟩
              obtain ⟨⟨ta11_0, tc11_0, rfl⟩, -⟩ := id hS11.a
              obtain ⟨⟨ta11_1, tc11_1, rfl⟩, -⟩ := id hS11.b
              obtain ⟨⟨ta11_2, tc11_2, rfl⟩, -⟩ := id hS11.c
              obtain ⟨⟨ta11_3, tc11_3, rfl⟩, -⟩ := id hS11.d
              simp only [qz]
              refine rg_nil ?_
              refine ek_rt ((sk _ ((((sc _ (List.Sublist.append_left (sc _ (sc _ sn)) _)).trans (List.sublist_append_right _ _)).trans (List.sublist_append_right _ _)).trans (List.sublist_append_right _ _))).trans (List.sublist_append_right _ _)) ?_
              refine rt_hard1 (i := 10) Kx rfl ?_
              refine rf_storeR (n := 9) rfl rfl Kx rfl rfl (UpdR.app _ (UpdR.here _ _ _ Nl)) (fun _ h => by cases h; exact ((sk _ ((((sc _ (List.Sublist.append_left (sc _ (sc _ sn)) _)).trans (List.sublist_append_right _ _)).trans (List.sublist_append_right _ _)).trans (List.sublist_append_right _ _))).trans (List.sublist_append_right _ _))) ?_
              simp only [qz, Nat.reduceAdd]
              refine rg_nil ?_
              refine ek_rt ((sk _ ((((sc _ (List.Sublist.append_left (sc _ (sc _ sn)) _)).trans (List.sublist_append_right _ _)).trans (List.sublist_append_right _ _)).trans (List.sublist_append_right _ _))).trans (List.sublist_append_right _ _)) ?_
              refine rt_nil Kx ?_
              refine ek_sub (List.Sublist.append_left (sc _ ((((sk _ ((sk _ (sc _ sn)).trans (List.sublist_append_right _ _))).trans (List.sublist_append_right _ _)).trans (List.sublist_append_right _ _)).trans (List.sublist_append_right _ _))) _) ?_
              refine ek_perm ((((List.Perm.refl _).append_left _).trans (List.perm_middle (l₁ := u11))).trans ((List.Perm.refl _).cons _)) ?_
              refine ek_midF Kx ?_
              exact ⟨g10, u11, ta11_0, ta11_1, ta11_2, ta11_3, tc11_0, tc11_1, tc11_2, tc11_3, rfl, by rfl, hS11⟩
            refine rg_new (cs := ?_) (ty := ?_) Rx (fun w => ?_) (fun _ h => by cases h; exact (((sc _ (List.Sublist.append_left (sc _ (sc _ sn)) _)).trans (List.sublist_append_right _ _)).trans (List.sublist_append_right _ _))) (fun g12 => ?_); rotate_left 2
            focus (go_simp; rfl)
            simp only [qz]
            refine rg_nil ?_
            refine ek_rt (sk _ (((sc _ (List.Sublist.append_left (sc _ (sc _ sn)) _)).trans (List.sublist_append_right _ _)).trans (List.sublist_append_right _ _))) ?_
            refine rt_hard1 (i := 6) Kx rfl ?_
            apply (rg_made (T := fun v u => ∃ s0 s1 s2 s3, v = wdV ((Nm.turn m Nm.one).addR ⟨-1, 0, 0, 0, 0⟩) s0 s1 s2 s3 ∧ SU4 u ((Nm.turn m Nm.one).addR ⟨-1, 0, 0, 0, 0⟩) s0 s1 s2 s3)) Rx Kx
            case hargs => exact Ax
            case h => exact fun w hw => wplus_any (Nm.turn m Nm.one) (⟨-1, 0, 0, 0, 0⟩ : Nm) _ _ _ _ _ _ _ _ (by rw [hk0, show max (0 : Int) ((⟨-1, 0, 0, 0, 0⟩ : Nm)).k = 0 from rfl, to_0 hk0]; exact (Nm.fit_mono ft (by decide))) (by rw [hk0]; exact (Nm.fit_mono fm (by decide))) Ox Ox (by decide) (by decide) w (hS5.at hw (List.Sublist.cons _ ((List.sublist_append_left _ _).trans (List.sublist_append_right _ _)))) (hS6.at hw (List.Sublist.cons _ (List.sublist_append_left _ _)))
            case hz => exact (fun _ h => by cases h; exact (sk _ (((sc _ (List.Sublist.append_left (sc _ (sc _ sn)) _)).trans (List.sublist_append_right _ _)).trans (List.sublist_append_right _ _))))
            rintro _ u13 ⟨t0, t1, t2, t3, rfl, hS13⟩
            obtain ⟨⟨ta13_0, tc13_0, rfl⟩, -⟩ := id hS13.a
            obtain ⟨⟨ta13_1, tc13_1, rfl⟩, -⟩ := id hS13.b
            obtain ⟨⟨ta13_2, tc13_2, rfl⟩, -⟩ := id hS13.c
            obtain ⟨⟨ta13_3, tc13_3, rfl⟩, -⟩ := id hS13.d
            simp only [qz]
            refine rg_nil ?_
            refine ek_rt ((sk _ (((sc _ (List.Sublist.append_left (sc _ (sc _ sn)) _)).trans (List.sublist_append_right _ _)).trans (List.sublist_append_right _ _))).trans (List.sublist_append_right _ _)) ?_
            refine rt_hard1 (i := 8) Kx rfl ?_
            apply (rg_made (T := fun v u => ∃ s0 s1 s2 s3, v = wdV (barX m) s0 s1 s2 s3 ∧ SU4 u (barX m) s0 s1 s2 s3)) Rx Kx
            case hargs => exact Ax
            case h => exact fun w hw => wtimes_any ((Nm.turn m Nm.one).addR ⟨-1, 0, 0, 0, 0⟩) (⟨1, 0, 0, 0, 2⟩ : Nm) _ _ _ _ _ _ _ _ (Nm.fit_mono fs (by decide)) (Nm.fit_mono fh (by decide)) (prodB_ok (Nm.fit_mono fs (by decide)) (Nm.fit_mono fh (by decide))) Ox Ox (by decide) (by decide) w (hS13.at hw (List.sublist_append_left _ _)) (hS3.at hw ((List.Sublist.cons _ (((List.Sublist.cons _ (List.sublist_append_left _ _)).trans (List.sublist_append_right _ _)).trans (List.sublist_append_right _ _))).trans (List.sublist_append_right _ _)))
            case hz => exact (fun _ h => by cases h; exact ((sk _ (((sc _ (List.Sublist.append_left (sc _ (sc _ sn)) _)).trans (List.sublist_append_right _ _)).trans (List.sublist_append_right _ _))).trans (List.sublist_append_right _ _)))
            rintro _ u14 ⟨t0, t1, t2, t3, rfl, hS14⟩
            obtain ⟨⟨ta14_0, tc14_0, rfl⟩, -⟩ := id hS14.a
            obtain ⟨⟨ta14_1, tc14_1, rfl⟩, -⟩ := id hS14.b
            obtain ⟨⟨ta14_2, tc14_2, rfl⟩, -⟩ := id hS14.c
            obtain ⟨⟨ta14_3, tc14_3, rfl⟩, -⟩ := id hS14.d
            simp only [qz]
            refine rg_nil ?_
            refine ek_rt (((sk _ (((sc _ (List.Sublist.append_left (sc _ (sc _ sn)) _)).trans (List.sublist_append_right _ _)).trans (List.sublist_append_right _ _))).trans (List.sublist_append_right _ _)).trans (List.sublist_append_right _ _)) ?_
            refine rt_hard1 (i := 10) Kx rfl ?_
            refine rf_storeR (n := 9) rfl rfl Kx rfl rfl (UpdR.app _ (UpdR.app _ (UpdR.here _ _ _ Nl))) (fun _ h => by cases h; exact (((sk _ (((sc _ (List.Sublist.append_left (sc _ (sc _ sn)) _)).trans (List.sublist_append_right _ _)).trans (List.sublist_append_right _ _))).trans (List.sublist_append_right _ _)).trans (List.sublist_append_right _ _))) ?_
            simp only [qz, Nat.reduceAdd]
            refine rg_nil ?_
            refine ek_rt (((sk _ (((sc _ (List.Sublist.append_left (sc _ (sc _ sn)) _)).trans (List.sublist_append_right _ _)).trans (List.sublist_append_right _ _))).trans (List.sublist_append_right _ _)).trans (List.sublist_append_right _ _)) ?_
            refine rt_nil Kx ?_
            refine ek_sub (List.Sublist.append_left ((sc _ (((sk _ ((sk _ (sc _ sn)).trans (List.sublist_append_right _ _))).trans (List.sublist_append_right _ _)).trans (List.sublist_append_right _ _))).trans (List.sublist_append_right _ _)) _) ?_
            refine ek_perm ((((List.Perm.refl _).append_left _).trans (List.perm_middle (l₁ := u14))).trans ((List.Perm.refl _).cons _)) ?_
            refine ek_midF Kx ?_
            exact ⟨g12, u14, ta14_0, ta14_1, ta14_2, ta14_3, tc14_0, tc14_1, tc14_2, tc14_3, rfl, by rfl, hS14⟩
          refine rg_new (cs := ?_) (ty := ?_) Rx (fun w => ?_) (fun _ h => by cases h; exact ((sc _ (List.Sublist.append_left (sc _ (sc _ sn)) _)).trans (List.sublist_append_right _ _))) (fun g15 => ?_); rotate_left 2
          focus (go_simp; rfl)
          simp only [qz]
          refine rg_nil ?_
          refine ek_rt (sk _ ((sc _ (List.Sublist.append_left (sc _ (sc _ sn)) _)).trans (List.sublist_append_right _ _))) ?_
          refine rt_hard1 (i := 5) Kx rfl ?_
          apply (rg_made (T := fun v u => ∃ s0 s1 s2 s3, v = wdV ((⟨-1, 0, 0, 0, 0⟩ : Nm)) s0 s1 s2 s3 ∧ SU4 u ((⟨-1, 0, 0, 0, 0⟩ : Nm)) s0 s1 s2 s3)) Rx Kx
          case hargs => exact Ax
          case h => exact fun w hw => wideOf_any ((⟨-1, 0, 0, 0, 0⟩ : Nm)) (Nm.fit_mono fm (by decide)) w
          case hz => exact (fun _ h => by cases h; exact (sk _ ((sc _ (List.Sublist.append_left (sc _ (sc _ sn)) _)).trans (List.sublist_append_right _ _))))
          rintro _ u16 ⟨t0, t1, t2, t3, rfl, hS16⟩
          obtain ⟨⟨ta16_0, tc16_0, rfl⟩, -⟩ := id hS16.a
          obtain ⟨⟨ta16_1, tc16_1, rfl⟩, -⟩ := id hS16.b
          obtain ⟨⟨ta16_2, tc16_2, rfl⟩, -⟩ := id hS16.c
          obtain ⟨⟨ta16_3, tc16_3, rfl⟩, -⟩ := id hS16.d
          simp only [qz]
          refine rg_nil ?_
          refine ek_rt ((sk _ ((sc _ (List.Sublist.append_left (sc _ (sc _ sn)) _)).trans (List.sublist_append_right _ _))).trans (List.sublist_append_right _ _)) ?_
          refine rt_hard1 (i := 6) Kx rfl ?_
          apply (rg_made (T := fun v u => ∃ s0 s1 s2 s3, v = wdV ((Nm.turn m Nm.one).addR ⟨-1, 0, 0, 0, 0⟩) s0 s1 s2 s3 ∧ SU4 u ((Nm.turn m Nm.one).addR ⟨-1, 0, 0, 0, 0⟩) s0 s1 s2 s3)) Rx Kx
          case hargs => exact Ax
          case h => exact fun w hw => wplus_any (Nm.turn m Nm.one) (⟨-1, 0, 0, 0, 0⟩ : Nm) _ _ _ _ _ _ _ _ (by rw [hk0, show max (0 : Int) ((⟨-1, 0, 0, 0, 0⟩ : Nm)).k = 0 from rfl, to_0 hk0]; exact (Nm.fit_mono ft (by decide))) (by rw [hk0]; exact (Nm.fit_mono fm (by decide))) Ox Ox (by decide) (by decide) w (hS5.at hw ((List.Sublist.cons _ (List.sublist_append_left _ _)).trans (List.sublist_append_right _ _))) (hS16.at hw (List.sublist_append_left _ _))
          case hz => exact (fun _ h => by cases h; exact ((sk _ ((sc _ (List.Sublist.append_left (sc _ (sc _ sn)) _)).trans (List.sublist_append_right _ _))).trans (List.sublist_append_right _ _)))
          rintro _ u17 ⟨t0, t1, t2, t3, rfl, hS17⟩
          obtain ⟨⟨ta17_0, tc17_0, rfl⟩, -⟩ := id hS17.a
          obtain ⟨⟨ta17_1, tc17_1, rfl⟩, -⟩ := id hS17.b
          obtain ⟨⟨ta17_2, tc17_2, rfl⟩, -⟩ := id hS17.c
          obtain ⟨⟨ta17_3, tc17_3, rfl⟩, -⟩ := id hS17.d
          simp only [qz]
          refine rg_nil ?_
          refine ek_rt (((sk _ ((sc _ (List.Sublist.append_left (sc _ (sc _ sn)) _)).trans (List.sublist_append_right _ _))).trans (List.sublist_append_right _ _)).trans (List.sublist_append_right _ _)) ?_
          refine rt_hard1 (i := 8) Kx rfl ?_
          apply (rg_made (T := fun v u => ∃ s0 s1 s2 s3, v = wdV (barX m) s0 s1 s2 s3 ∧ SU4 u (barX m) s0 s1 s2 s3)) Rx Kx
          case hargs => exact Ax
          case h => exact fun w hw => wtimes_any ((Nm.turn m Nm.one).addR ⟨-1, 0, 0, 0, 0⟩) (⟨1, 0, 0, 0, 2⟩ : Nm) _ _ _ _ _ _ _ _ (Nm.fit_mono fs (by decide)) (Nm.fit_mono fh (by decide)) (prodB_ok (Nm.fit_mono fs (by decide)) (Nm.fit_mono fh (by decide))) Ox Ox (by decide) (by decide) w (hS17.at hw (List.sublist_append_left _ _)) (hS3.at hw (((List.Sublist.cons _ ((List.Sublist.cons _ (List.sublist_append_left _ _)).trans (List.sublist_append_right _ _))).trans (List.sublist_append_right _ _)).trans (List.sublist_append_right _ _)))
          case hz => exact (fun _ h => by cases h; exact (((sk _ ((sc _ (List.Sublist.append_left (sc _ (sc _ sn)) _)).trans (List.sublist_append_right _ _))).trans (List.sublist_append_right _ _)).trans (List.sublist_append_right _ _)))
          rintro _ u18 ⟨t0, t1, t2, t3, rfl, hS18⟩
          obtain ⟨⟨ta18_0, tc18_0, rfl⟩, -⟩ := id hS18.a
          obtain ⟨⟨ta18_1, tc18_1, rfl⟩, -⟩ := id hS18.b
          obtain ⟨⟨ta18_2, tc18_2, rfl⟩, -⟩ := id hS18.c
          obtain ⟨⟨ta18_3, tc18_3, rfl⟩, -⟩ := id hS18.d
          simp only [qz]
          refine rg_nil ?_
          refine ek_rt ((((sk _ ((sc _ (List.Sublist.append_left (sc _ (sc _ sn)) _)).trans (List.sublist_append_right _ _))).trans (List.sublist_append_right _ _)).trans (List.sublist_append_right _ _)).trans (List.sublist_append_right _ _)) ?_
          refine rt_hard1 (i := 10) Kx rfl ?_
          refine rf_storeR (n := 9) rfl rfl Kx rfl rfl (UpdR.app _ (UpdR.app _ (UpdR.app _ (UpdR.here _ _ _ Nl)))) (fun _ h => by cases h; exact ((((sk _ ((sc _ (List.Sublist.append_left (sc _ (sc _ sn)) _)).trans (List.sublist_append_right _ _))).trans (List.sublist_append_right _ _)).trans (List.sublist_append_right _ _)).trans (List.sublist_append_right _ _))) ?_
          simp only [qz, Nat.reduceAdd]
          refine rg_nil ?_
          refine ek_rt ((((sk _ ((sc _ (List.Sublist.append_left (sc _ (sc _ sn)) _)).trans (List.sublist_append_right _ _))).trans (List.sublist_append_right _ _)).trans (List.sublist_append_right _ _)).trans (List.sublist_append_right _ _)) ?_
          refine rt_nil Kx ?_
          refine ek_sub (List.Sublist.append_left (((sc _ ((sk _ ((sk _ (sc _ sn)).trans (List.sublist_append_right _ _))).trans (List.sublist_append_right _ _))).trans (List.sublist_append_right _ _)).trans (List.sublist_append_right _ _)) _) ?_
          refine ek_perm ((((List.Perm.refl _).append_left _).trans (List.perm_middle (l₁ := u18))).trans ((List.Perm.refl _).cons _)) ?_
          refine ek_midF Kx ?_
          exact ⟨g15, u18, ta18_0, ta18_1, ta18_2, ta18_3, tc18_0, tc18_1, tc18_2, tc18_3, rfl, by rfl, hS18⟩
        refine rg_new (cs := ?_) (ty := ?_) Rx (fun w => ?_) (fun _ h => by cases h; exact (sc _ (List.Sublist.append_left (sc _ (sc _ sn)) _))) (fun g19 => ?_); rotate_left 2
        focus (go_simp; rfl)
        simp only [qz]
        refine rg_nil ?_
        refine ek_rt (sk _ (sc _ (List.Sublist.append_left (sc _ (sc _ sn)) _))) ?_
        refine rt_hard1 (i := 3) Kx rfl ?_
        apply (rg_made (T := fun v u => ∃ s0 s1 s2 s3, v = wdV (Nm.turn m Nm.one) s0 s1 s2 s3 ∧ SU4 u (Nm.turn m Nm.one) s0 s1 s2 s3)) Rx Kx
        case hargs => exact Ax
        case h => exact fun w hw => wideOf_any (Nm.turn m Nm.one) (Nm.fit_mono ft (by decide)) w
        case hz => exact (fun _ h => by cases h; exact (sk _ (sc _ (List.Sublist.append_left (sc _ (sc _ sn)) _))))
        rintro _ u20 ⟨t0, t1, t2, t3, rfl, hS20⟩
        obtain ⟨⟨ta20_0, tc20_0, rfl⟩, -⟩ := id hS20.a
        obtain ⟨⟨ta20_1, tc20_1, rfl⟩, -⟩ := id hS20.b
        obtain ⟨⟨ta20_2, tc20_2, rfl⟩, -⟩ := id hS20.c
        obtain ⟨⟨ta20_3, tc20_3, rfl⟩, -⟩ := id hS20.d
        simp only [qz]
        refine rg_nil ?_
        refine ek_rt ((sk _ (sc _ (List.Sublist.append_left (sc _ (sc _ sn)) _))).trans (List.sublist_append_right _ _)) ?_
        refine rt_hard1 (i := 5) Kx rfl ?_
        apply (rg_made (T := fun v u => ∃ s0 s1 s2 s3, v = wdV ((⟨-1, 0, 0, 0, 0⟩ : Nm)) s0 s1 s2 s3 ∧ SU4 u ((⟨-1, 0, 0, 0, 0⟩ : Nm)) s0 s1 s2 s3)) Rx Kx
        case hargs => exact Ax
        case h => exact fun w hw => wideOf_any ((⟨-1, 0, 0, 0, 0⟩ : Nm)) (Nm.fit_mono fm (by decide)) w
        case hz => exact (fun _ h => by cases h; exact ((sk _ (sc _ (List.Sublist.append_left (sc _ (sc _ sn)) _))).trans (List.sublist_append_right _ _)))
        rintro _ u21 ⟨t0, t1, t2, t3, rfl, hS21⟩
        obtain ⟨⟨ta21_0, tc21_0, rfl⟩, -⟩ := id hS21.a
        obtain ⟨⟨ta21_1, tc21_1, rfl⟩, -⟩ := id hS21.b
        obtain ⟨⟨ta21_2, tc21_2, rfl⟩, -⟩ := id hS21.c
        obtain ⟨⟨ta21_3, tc21_3, rfl⟩, -⟩ := id hS21.d
        simp only [qz]
        refine rg_nil ?_
        refine ek_rt (((sk _ (sc _ (List.Sublist.append_left (sc _ (sc _ sn)) _))).trans (List.sublist_append_right _ _)).trans (List.sublist_append_right _ _)) ?_
        refine rt_hard1 (i := 6) Kx rfl ?_
        apply (rg_made (T := fun v u => ∃ s0 s1 s2 s3, v = wdV ((Nm.turn m Nm.one).addR ⟨-1, 0, 0, 0, 0⟩) s0 s1 s2 s3 ∧ SU4 u ((Nm.turn m Nm.one).addR ⟨-1, 0, 0, 0, 0⟩) s0 s1 s2 s3)) Rx Kx
        case hargs => exact Ax
        case h => exact fun w hw => wplus_any (Nm.turn m Nm.one) (⟨-1, 0, 0, 0, 0⟩ : Nm) _ _ _ _ _ _ _ _ (by rw [hk0, show max (0 : Int) ((⟨-1, 0, 0, 0, 0⟩ : Nm)).k = 0 from rfl, to_0 hk0]; exact (Nm.fit_mono ft (by decide))) (by rw [hk0]; exact (Nm.fit_mono fm (by decide))) Ox Ox (by decide) (by decide) w (hS20.at hw ((List.sublist_append_left _ _).trans (List.sublist_append_right _ _))) (hS21.at hw (List.sublist_append_left _ _))
        case hz => exact (fun _ h => by cases h; exact (((sk _ (sc _ (List.Sublist.append_left (sc _ (sc _ sn)) _))).trans (List.sublist_append_right _ _)).trans (List.sublist_append_right _ _)))
        rintro _ u22 ⟨t0, t1, t2, t3, rfl, hS22⟩
        obtain ⟨⟨ta22_0, tc22_0, rfl⟩, -⟩ := id hS22.a
        obtain ⟨⟨ta22_1, tc22_1, rfl⟩, -⟩ := id hS22.b
        obtain ⟨⟨ta22_2, tc22_2, rfl⟩, -⟩ := id hS22.c
        obtain ⟨⟨ta22_3, tc22_3, rfl⟩, -⟩ := id hS22.d
        simp only [qz]
        refine rg_nil ?_
        refine ek_rt ((((sk _ (sc _ (List.Sublist.append_left (sc _ (sc _ sn)) _))).trans (List.sublist_append_right _ _)).trans (List.sublist_append_right _ _)).trans (List.sublist_append_right _ _)) ?_
        refine rt_hard1 (i := 8) Kx rfl ?_
        apply (rg_made (T := fun v u => ∃ s0 s1 s2 s3, v = wdV (barX m) s0 s1 s2 s3 ∧ SU4 u (barX m) s0 s1 s2 s3)) Rx Kx
        case hargs => exact Ax
        case h => exact fun w hw => wtimes_any ((Nm.turn m Nm.one).addR ⟨-1, 0, 0, 0, 0⟩) (⟨1, 0, 0, 0, 2⟩ : Nm) _ _ _ _ _ _ _ _ (Nm.fit_mono fs (by decide)) (Nm.fit_mono fh (by decide)) (prodB_ok (Nm.fit_mono fs (by decide)) (Nm.fit_mono fh (by decide))) Ox Ox (by decide) (by decide) w (hS22.at hw (List.sublist_append_left _ _)) (hS3.at hw ((((List.Sublist.cons _ (List.Sublist.cons _ (List.sublist_append_left _ _))).trans (List.sublist_append_right _ _)).trans (List.sublist_append_right _ _)).trans (List.sublist_append_right _ _)))
        case hz => exact (fun _ h => by cases h; exact ((((sk _ (sc _ (List.Sublist.append_left (sc _ (sc _ sn)) _))).trans (List.sublist_append_right _ _)).trans (List.sublist_append_right _ _)).trans (List.sublist_append_right _ _)))
        rintro _ u23 ⟨t0, t1, t2, t3, rfl, hS23⟩
        obtain ⟨⟨ta23_0, tc23_0, rfl⟩, -⟩ := id hS23.a
        obtain ⟨⟨ta23_1, tc23_1, rfl⟩, -⟩ := id hS23.b
        obtain ⟨⟨ta23_2, tc23_2, rfl⟩, -⟩ := id hS23.c
        obtain ⟨⟨ta23_3, tc23_3, rfl⟩, -⟩ := id hS23.d
        simp only [qz]
        refine rg_nil ?_
        refine ek_rt (((((sk _ (sc _ (List.Sublist.append_left (sc _ (sc _ sn)) _))).trans (List.sublist_append_right _ _)).trans (List.sublist_append_right _ _)).trans (List.sublist_append_right _ _)).trans (List.sublist_append_right _ _)) ?_
        refine rt_hard1 (i := 10) Kx rfl ?_
        refine rf_storeR (n := 9) rfl rfl Kx rfl rfl (UpdR.app _ (UpdR.app _ (UpdR.app _ (UpdR.app _ (UpdR.here _ _ _ Nl))))) (fun _ h => by cases h; exact (((((sk _ (sc _ (List.Sublist.append_left (sc _ (sc _ sn)) _))).trans (List.sublist_append_right _ _)).trans (List.sublist_append_right _ _)).trans (List.sublist_append_right _ _)).trans (List.sublist_append_right _ _))) ?_
        simp only [qz, Nat.reduceAdd]
        refine rg_nil ?_
        refine ek_rt (((((sk _ (sc _ (List.Sublist.append_left (sc _ (sc _ sn)) _))).trans (List.sublist_append_right _ _)).trans (List.sublist_append_right _ _)).trans (List.sublist_append_right _ _)).trans (List.sublist_append_right _ _)) ?_
        refine rt_nil Kx ?_
        refine ek_sub (List.Sublist.append_left ((((sc _ (sk _ ((sk _ (sc _ sn)).trans (List.sublist_append_right _ _)))).trans (List.sublist_append_right _ _)).trans (List.sublist_append_right _ _)).trans (List.sublist_append_right _ _)) _) ?_
        refine ek_perm ((((List.Perm.refl _).append_left _).trans (List.perm_middle (l₁ := u23))).trans ((List.Perm.refl _).cons _)) ?_
        refine ek_midF Kx ?_
        exact ⟨g19, u23, ta23_0, ta23_1, ta23_2, ta23_3, tc23_0, tc23_1, tc23_2, tc23_3, rfl, by rfl, hS23⟩
      refine rg_new (cs := ?_) (ty := ?_) Rx (fun w => ?_) (fun _ h => by cases h; exact (sc _ (List.Sublist.append_left (sc _ (sc _ sn)) _))) (fun g24 => ?_); rotate_left 2
      focus (go_simp; rfl)
      simp only [qz]
      refine rg_nil ?_
      refine ek_rt (sk _ (sc _ (List.Sublist.append_left (sc _ (sc _ sn)) _))) ?_
      refine rt_hard1 (i := 2) Kx rfl ?_
      apply rg_pure Rx Kx
      case hargs => exact Ax
      case h => exact fun w hw => rTurned_any Nm.one m one_ok Ox w
      case hz => exact (fun _ h => by cases h; exact (sk _ (sc _ (List.Sublist.append_left (sc _ (sc _ sn)) _))))
      simp only [qz]
      refine rg_nil ?_
      refine ek_rt (sk _ (sc _ (List.Sublist.append_left (sc _ (sc _ sn)) _))) ?_
      refine rt_hard1 (i := 3) Kx rfl ?_
      apply (rg_made (T := fun v u => ∃ s0 s1 s2 s3, v = wdV (Nm.turn m Nm.one) s0 s1 s2 s3 ∧ SU4 u (Nm.turn m Nm.one) s0 s1 s2 s3)) Rx Kx
      case hargs => exact Ax
      case h => exact fun w hw => wideOf_any (Nm.turn m Nm.one) (Nm.fit_mono ft (by decide)) w
      case hz => exact (fun _ h => by cases h; exact (sk _ (sc _ (List.Sublist.append_left (sc _ (sc _ sn)) _))))
      rintro _ u25 ⟨t0, t1, t2, t3, rfl, hS25⟩
      obtain ⟨⟨ta25_0, tc25_0, rfl⟩, -⟩ := id hS25.a
      obtain ⟨⟨ta25_1, tc25_1, rfl⟩, -⟩ := id hS25.b
      obtain ⟨⟨ta25_2, tc25_2, rfl⟩, -⟩ := id hS25.c
      obtain ⟨⟨ta25_3, tc25_3, rfl⟩, -⟩ := id hS25.d
      simp only [qz]
      refine rg_nil ?_
      refine ek_rt ((sk _ (sc _ (List.Sublist.append_left (sc _ (sc _ sn)) _))).trans (List.sublist_append_right _ _)) ?_
      refine rt_hard1 (i := 5) Kx rfl ?_
      apply (rg_made (T := fun v u => ∃ s0 s1 s2 s3, v = wdV ((⟨-1, 0, 0, 0, 0⟩ : Nm)) s0 s1 s2 s3 ∧ SU4 u ((⟨-1, 0, 0, 0, 0⟩ : Nm)) s0 s1 s2 s3)) Rx Kx
      case hargs => exact Ax
      case h => exact fun w hw => wideOf_any ((⟨-1, 0, 0, 0, 0⟩ : Nm)) (Nm.fit_mono fm (by decide)) w
      case hz => exact (fun _ h => by cases h; exact ((sk _ (sc _ (List.Sublist.append_left (sc _ (sc _ sn)) _))).trans (List.sublist_append_right _ _)))
      rintro _ u26 ⟨t0, t1, t2, t3, rfl, hS26⟩
      obtain ⟨⟨ta26_0, tc26_0, rfl⟩, -⟩ := id hS26.a
      obtain ⟨⟨ta26_1, tc26_1, rfl⟩, -⟩ := id hS26.b
      obtain ⟨⟨ta26_2, tc26_2, rfl⟩, -⟩ := id hS26.c
      obtain ⟨⟨ta26_3, tc26_3, rfl⟩, -⟩ := id hS26.d
      simp only [qz]
      refine rg_nil ?_
      refine ek_rt (((sk _ (sc _ (List.Sublist.append_left (sc _ (sc _ sn)) _))).trans (List.sublist_append_right _ _)).trans (List.sublist_append_right _ _)) ?_
      refine rt_hard1 (i := 6) Kx rfl ?_
      apply (rg_made (T := fun v u => ∃ s0 s1 s2 s3, v = wdV ((Nm.turn m Nm.one).addR ⟨-1, 0, 0, 0, 0⟩) s0 s1 s2 s3 ∧ SU4 u ((Nm.turn m Nm.one).addR ⟨-1, 0, 0, 0, 0⟩) s0 s1 s2 s3)) Rx Kx
      case hargs => exact Ax
      case h => exact fun w hw => wplus_any (Nm.turn m Nm.one) (⟨-1, 0, 0, 0, 0⟩ : Nm) _ _ _ _ _ _ _ _ (by rw [hk0, show max (0 : Int) ((⟨-1, 0, 0, 0, 0⟩ : Nm)).k = 0 from rfl, to_0 hk0]; exact (Nm.fit_mono ft (by decide))) (by rw [hk0]; exact (Nm.fit_mono fm (by decide))) Ox Ox (by decide) (by decide) w (hS25.at hw ((List.sublist_append_left _ _).trans (List.sublist_append_right _ _))) (hS26.at hw (List.sublist_append_left _ _))
      case hz => exact (fun _ h => by cases h; exact (((sk _ (sc _ (List.Sublist.append_left (sc _ (sc _ sn)) _))).trans (List.sublist_append_right _ _)).trans (List.sublist_append_right _ _)))
      rintro _ u27 ⟨t0, t1, t2, t3, rfl, hS27⟩
      obtain ⟨⟨ta27_0, tc27_0, rfl⟩, -⟩ := id hS27.a
      obtain ⟨⟨ta27_1, tc27_1, rfl⟩, -⟩ := id hS27.b
      obtain ⟨⟨ta27_2, tc27_2, rfl⟩, -⟩ := id hS27.c
      obtain ⟨⟨ta27_3, tc27_3, rfl⟩, -⟩ := id hS27.d
      simp only [qz]
      refine rg_nil ?_
      refine ek_rt ((((sk _ (sc _ (List.Sublist.append_left (sc _ (sc _ sn)) _))).trans (List.sublist_append_right _ _)).trans (List.sublist_append_right _ _)).trans (List.sublist_append_right _ _)) ?_
      refine rt_hard1 (i := 8) Kx rfl ?_
      apply (rg_made (T := fun v u => ∃ s0 s1 s2 s3, v = wdV (barX m) s0 s1 s2 s3 ∧ SU4 u (barX m) s0 s1 s2 s3)) Rx Kx
      case hargs => exact Ax
      case h => exact fun w hw => wtimes_any ((Nm.turn m Nm.one).addR ⟨-1, 0, 0, 0, 0⟩) (⟨1, 0, 0, 0, 2⟩ : Nm) _ _ _ _ _ _ _ _ (Nm.fit_mono fs (by decide)) (Nm.fit_mono fh (by decide)) (prodB_ok (Nm.fit_mono fs (by decide)) (Nm.fit_mono fh (by decide))) Ox Ox (by decide) (by decide) w (hS27.at hw (List.sublist_append_left _ _)) (hS3.at hw ((((List.Sublist.cons _ (List.Sublist.cons _ (List.sublist_append_left _ _))).trans (List.sublist_append_right _ _)).trans (List.sublist_append_right _ _)).trans (List.sublist_append_right _ _)))
      case hz => exact (fun _ h => by cases h; exact ((((sk _ (sc _ (List.Sublist.append_left (sc _ (sc _ sn)) _))).trans (List.sublist_append_right _ _)).trans (List.sublist_append_right _ _)).trans (List.sublist_append_right _ _)))
      rintro _ u28 ⟨t0, t1, t2, t3, rfl, hS28⟩
      obtain ⟨⟨ta28_0, tc28_0, rfl⟩, -⟩ := id hS28.a
      obtain ⟨⟨ta28_1, tc28_1, rfl⟩, -⟩ := id hS28.b
      obtain ⟨⟨ta28_2, tc28_2, rfl⟩, -⟩ := id hS28.c
      obtain ⟨⟨ta28_3, tc28_3, rfl⟩, -⟩ := id hS28.d
      simp only [qz]
      refine rg_nil ?_
      refine ek_rt (((((sk _ (sc _ (List.Sublist.append_left (sc _ (sc _ sn)) _))).trans (List.sublist_append_right _ _)).trans (List.sublist_append_right _ _)).trans (List.sublist_append_right _ _)).trans (List.sublist_append_right _ _)) ?_
      refine rt_hard1 (i := 10) Kx rfl ?_
      refine rf_storeR (n := 9) rfl rfl Kx rfl rfl (UpdR.app _ (UpdR.app _ (UpdR.app _ (UpdR.app _ (UpdR.here _ _ _ Nl))))) (fun _ h => by cases h; exact (((((sk _ (sc _ (List.Sublist.append_left (sc _ (sc _ sn)) _))).trans (List.sublist_append_right _ _)).trans (List.sublist_append_right _ _)).trans (List.sublist_append_right _ _)).trans (List.sublist_append_right _ _))) ?_
      simp only [qz, Nat.reduceAdd]
      refine rg_nil ?_
      refine ek_rt (((((sk _ (sc _ (List.Sublist.append_left (sc _ (sc _ sn)) _))).trans (List.sublist_append_right _ _)).trans (List.sublist_append_right _ _)).trans (List.sublist_append_right _ _)).trans (List.sublist_append_right _ _)) ?_
      refine rt_nil Kx ?_
      refine ek_sub (List.Sublist.append_left ((((sc _ (sk _ ((sk _ (sc _ sn)).trans (List.sublist_append_right _ _)))).trans (List.sublist_append_right _ _)).trans (List.sublist_append_right _ _)).trans (List.sublist_append_right _ _)) _) ?_
      refine ek_perm ((((List.Perm.refl _).append_left _).trans (List.perm_middle (l₁ := u28))).trans ((List.Perm.refl _).cons _)) ?_
      refine ek_midF Kx ?_
      exact ⟨g24, u28, ta28_0, ta28_1, ta28_2, ta28_3, tc28_0, tc28_1, tc28_2, tc28_3, rfl, by rfl, hS28⟩
    refine rg_new (cs := ?_) (ty := ?_) Rx (fun w => ?_) (fun _ h => by cases h; exact (sc _ (List.Sublist.append_left (sc _ (sc _ sn)) _))) (fun g29 => ?_); rotate_left 2
    focus (go_simp; rfl)
    simp only [qz]
    refine rg_nil ?_
    refine ek_rt (sk _ (sc _ (List.Sublist.append_left (sc _ (sc _ sn)) _))) ?_
    refine rt_hard1 (i := 0) Kx rfl ?_
    apply rg_pure Rx Kx
    case hargs => exact Ax
    case h => exact fun w hw => rOne_any w
    case hz => exact (fun _ h => by cases h; exact (sk _ (sc _ (List.Sublist.append_left (sc _ (sc _ sn)) _))))
    simp only [qz]
    refine rg_nil ?_
    refine ek_rt (sk _ (sc _ (List.Sublist.append_left (sc _ (sc _ sn)) _))) ?_
    refine rt_hard1 (i := 2) Kx rfl ?_
    apply rg_pure Rx Kx
    case hargs => exact Ax
    case h => exact fun w hw => rTurned_any Nm.one m one_ok Ox w
    case hz => exact (fun _ h => by cases h; exact (sk _ (sc _ (List.Sublist.append_left (sc _ (sc _ sn)) _))))
    simp only [qz]
    refine rg_nil ?_
    refine ek_rt (sk _ (sc _ (List.Sublist.append_left (sc _ (sc _ sn)) _))) ?_
    refine rt_hard1 (i := 3) Kx rfl ?_
    apply (rg_made (T := fun v u => ∃ s0 s1 s2 s3, v = wdV (Nm.turn m Nm.one) s0 s1 s2 s3 ∧ SU4 u (Nm.turn m Nm.one) s0 s1 s2 s3)) Rx Kx
    case hargs => exact Ax
    case h => exact fun w hw => wideOf_any (Nm.turn m Nm.one) (Nm.fit_mono ft (by decide)) w
    case hz => exact (fun _ h => by cases h; exact (sk _ (sc _ (List.Sublist.append_left (sc _ (sc _ sn)) _))))
    rintro _ u30 ⟨t0, t1, t2, t3, rfl, hS30⟩
    obtain ⟨⟨ta30_0, tc30_0, rfl⟩, -⟩ := id hS30.a
    obtain ⟨⟨ta30_1, tc30_1, rfl⟩, -⟩ := id hS30.b
    obtain ⟨⟨ta30_2, tc30_2, rfl⟩, -⟩ := id hS30.c
    obtain ⟨⟨ta30_3, tc30_3, rfl⟩, -⟩ := id hS30.d
    simp only [qz]
    refine rg_nil ?_
    refine ek_rt ((sk _ (sc _ (List.Sublist.append_left (sc _ (sc _ sn)) _))).trans (List.sublist_append_right _ _)) ?_
    refine rt_hard1 (i := 5) Kx rfl ?_
    apply (rg_made (T := fun v u => ∃ s0 s1 s2 s3, v = wdV ((⟨-1, 0, 0, 0, 0⟩ : Nm)) s0 s1 s2 s3 ∧ SU4 u ((⟨-1, 0, 0, 0, 0⟩ : Nm)) s0 s1 s2 s3)) Rx Kx
    case hargs => exact Ax
    case h => exact fun w hw => wideOf_any ((⟨-1, 0, 0, 0, 0⟩ : Nm)) (Nm.fit_mono fm (by decide)) w
    case hz => exact (fun _ h => by cases h; exact ((sk _ (sc _ (List.Sublist.append_left (sc _ (sc _ sn)) _))).trans (List.sublist_append_right _ _)))
    rintro _ u31 ⟨t0, t1, t2, t3, rfl, hS31⟩
    obtain ⟨⟨ta31_0, tc31_0, rfl⟩, -⟩ := id hS31.a
    obtain ⟨⟨ta31_1, tc31_1, rfl⟩, -⟩ := id hS31.b
    obtain ⟨⟨ta31_2, tc31_2, rfl⟩, -⟩ := id hS31.c
    obtain ⟨⟨ta31_3, tc31_3, rfl⟩, -⟩ := id hS31.d
    simp only [qz]
    refine rg_nil ?_
    refine ek_rt (((sk _ (sc _ (List.Sublist.append_left (sc _ (sc _ sn)) _))).trans (List.sublist_append_right _ _)).trans (List.sublist_append_right _ _)) ?_
    refine rt_hard1 (i := 6) Kx rfl ?_
    apply (rg_made (T := fun v u => ∃ s0 s1 s2 s3, v = wdV ((Nm.turn m Nm.one).addR ⟨-1, 0, 0, 0, 0⟩) s0 s1 s2 s3 ∧ SU4 u ((Nm.turn m Nm.one).addR ⟨-1, 0, 0, 0, 0⟩) s0 s1 s2 s3)) Rx Kx
    case hargs => exact Ax
    case h => exact fun w hw => wplus_any (Nm.turn m Nm.one) (⟨-1, 0, 0, 0, 0⟩ : Nm) _ _ _ _ _ _ _ _ (by rw [hk0, show max (0 : Int) ((⟨-1, 0, 0, 0, 0⟩ : Nm)).k = 0 from rfl, to_0 hk0]; exact (Nm.fit_mono ft (by decide))) (by rw [hk0]; exact (Nm.fit_mono fm (by decide))) Ox Ox (by decide) (by decide) w (hS30.at hw ((List.sublist_append_left _ _).trans (List.sublist_append_right _ _))) (hS31.at hw (List.sublist_append_left _ _))
    case hz => exact (fun _ h => by cases h; exact (((sk _ (sc _ (List.Sublist.append_left (sc _ (sc _ sn)) _))).trans (List.sublist_append_right _ _)).trans (List.sublist_append_right _ _)))
    rintro _ u32 ⟨t0, t1, t2, t3, rfl, hS32⟩
    obtain ⟨⟨ta32_0, tc32_0, rfl⟩, -⟩ := id hS32.a
    obtain ⟨⟨ta32_1, tc32_1, rfl⟩, -⟩ := id hS32.b
    obtain ⟨⟨ta32_2, tc32_2, rfl⟩, -⟩ := id hS32.c
    obtain ⟨⟨ta32_3, tc32_3, rfl⟩, -⟩ := id hS32.d
    simp only [qz]
    refine rg_nil ?_
    refine ek_rt ((((sk _ (sc _ (List.Sublist.append_left (sc _ (sc _ sn)) _))).trans (List.sublist_append_right _ _)).trans (List.sublist_append_right _ _)).trans (List.sublist_append_right _ _)) ?_
    refine rt_hard1 (i := 8) Kx rfl ?_
    apply (rg_made (T := fun v u => ∃ s0 s1 s2 s3, v = wdV (barX m) s0 s1 s2 s3 ∧ SU4 u (barX m) s0 s1 s2 s3)) Rx Kx
    case hargs => exact Ax
    case h => exact fun w hw => wtimes_any ((Nm.turn m Nm.one).addR ⟨-1, 0, 0, 0, 0⟩) (⟨1, 0, 0, 0, 2⟩ : Nm) _ _ _ _ _ _ _ _ (Nm.fit_mono fs (by decide)) (Nm.fit_mono fh (by decide)) (prodB_ok (Nm.fit_mono fs (by decide)) (Nm.fit_mono fh (by decide))) Ox Ox (by decide) (by decide) w (hS32.at hw (List.sublist_append_left _ _)) (hS3.at hw ((((List.Sublist.cons _ (List.Sublist.cons _ (List.sublist_append_left _ _))).trans (List.sublist_append_right _ _)).trans (List.sublist_append_right _ _)).trans (List.sublist_append_right _ _)))
    case hz => exact (fun _ h => by cases h; exact ((((sk _ (sc _ (List.Sublist.append_left (sc _ (sc _ sn)) _))).trans (List.sublist_append_right _ _)).trans (List.sublist_append_right _ _)).trans (List.sublist_append_right _ _)))
    rintro _ u33 ⟨t0, t1, t2, t3, rfl, hS33⟩
    obtain ⟨⟨ta33_0, tc33_0, rfl⟩, -⟩ := id hS33.a
    obtain ⟨⟨ta33_1, tc33_1, rfl⟩, -⟩ := id hS33.b
    obtain ⟨⟨ta33_2, tc33_2, rfl⟩, -⟩ := id hS33.c
    obtain ⟨⟨ta33_3, tc33_3, rfl⟩, -⟩ := id hS33.d
    simp only [qz]
    refine rg_nil ?_
    refine ek_rt (((((sk _ (sc _ (List.Sublist.append_left (sc _ (sc _ sn)) _))).trans (List.sublist_append_right _ _)).trans (List.sublist_append_right _ _)).trans (List.sublist_append_right _ _)).trans (List.sublist_append_right _ _)) ?_
    refine rt_hard1 (i := 10) Kx rfl ?_
    refine rf_storeR (n := 9) rfl rfl Kx rfl rfl (UpdR.app _ (UpdR.app _ (UpdR.app _ (UpdR.app _ (UpdR.here _ _ _ Nl))))) (fun _ h => by cases h; exact (((((sk _ (sc _ (List.Sublist.append_left (sc _ (sc _ sn)) _))).trans (List.sublist_append_right _ _)).trans (List.sublist_append_right _ _)).trans (List.sublist_append_right _ _)).trans (List.sublist_append_right _ _))) ?_
    simp only [qz, Nat.reduceAdd]
    refine rg_nil ?_
    refine ek_rt (((((sk _ (sc _ (List.Sublist.append_left (sc _ (sc _ sn)) _))).trans (List.sublist_append_right _ _)).trans (List.sublist_append_right _ _)).trans (List.sublist_append_right _ _)).trans (List.sublist_append_right _ _)) ?_
    refine rt_nil Kx ?_
    refine ek_sub (List.Sublist.append_left ((((sc _ (sk _ ((sk _ (sc _ sn)).trans (List.sublist_append_right _ _)))).trans (List.sublist_append_right _ _)).trans (List.sublist_append_right _ _)).trans (List.sublist_append_right _ _)) _) ?_
    refine ek_perm ((((List.Perm.refl _).append_left _).trans (List.perm_middle (l₁ := u33))).trans ((List.Perm.refl _).cons _)) ?_
    refine ek_midF Kx ?_
    exact ⟨g29, u33, ta33_0, ta33_1, ta33_2, ta33_3, tc33_0, tc33_1, tc33_2, tc33_3, rfl, by rfl, hS33⟩
  rintro f1 s ⟨gx, u90, ta90_0, ta90_1, ta90_2, ta90_3, tc90_0, tc90_1, tc90_2, tc90_3, hs1_5, rfl, hS90⟩
  simp only [Act.putF, List.foldl_cons, List.foldl_nil, hs1_5, Act.put, Act.eval, q1, q2, q3, q4, q5, q6, q7, q8, q9, q10, q11, q12, q13, q14, q15, q16, q17, q18, Nat.reduceAdd, Bool.not_true, Bool.not_false]
  clear hs1_5
  refine wk_seq ?_
  refine wk_draws_m (hz1 := (sc _ (List.Sublist.append_left (sk _ sn) _))) [(0, 0), (1, 0), (2, 1), (3, 1), (4, 2)] 4 Kx Kx (fun c d v a w h => by cases d <;> exact h) ?_
  simp only [List.map_cons, List.map_nil, List.getD_cons_zero, List.getD_cons_succ]
  refine rf_loadR (n := 9) rfl rfl rfl Try.underlying70 rfl Kx (fun w hw => Kn.hd0 hw) rfl rfl ?_
  simp only [qz]
  refine rf_loadR (n := 9) rfl rfl rfl Try.underlying70 rfl Kx (fun w hw => Kn.hd0 hw) rfl rfl ?_
  simp only [qz]
  apply rg_pure Rx Kx
  case hargs => exact Ax
  case h => exact fun w hw => wconj_any (barX m) _ _ _ _ (Nm.fit_mono fx (by decide)) w (hS90.at hw (List.Sublist.cons _ (List.sublist_append_left _ _)))
  case hz => exact (fun _ h => by cases h; exact (sc _ (List.Sublist.append_left (sc _ sn) _)))
  simp only [qz]
  apply (rg_made (T := fun v u => ∃ s0 s1 s2 s3, v = wdV (barW m) s0 s1 s2 s3 ∧ SU4 u (barW m) s0 s1 s2 s3)) Rx Kx
  case hargs => exact Ax
  case h => exact fun w hw => wtimes_any (barX m) (barX m).conj _ _ _ _ _ _ _ _ (Nm.fit_mono fx (by decide)) (Nm.fit_mono (conj_fitC fx) (by decide)) (prodB_ok (Nm.fit_mono fx (by decide)) (Nm.fit_mono (conj_fitC fx) (by decide))) Ox Ox (by show 0 ≤ (barX m).k; omega) (by show (barX m).k ≤ 10000; omega) w (hS90.at hw (List.Sublist.cons _ (List.sublist_append_left _ _))) (hS90.at hw (List.Sublist.cons _ (List.sublist_append_left _ _))).cj
  case hz => exact (fun _ h => by cases h; exact (sc _ (List.Sublist.append_left (sc _ sn) _)))
  rintro _ u34 ⟨t0, t1, t2, t3, rfl, hS34⟩
  obtain ⟨⟨ta34_0, tc34_0, rfl⟩, -⟩ := id hS34.a
  obtain ⟨⟨ta34_1, tc34_1, rfl⟩, -⟩ := id hS34.b
  obtain ⟨⟨ta34_2, tc34_2, rfl⟩, -⟩ := id hS34.c
  obtain ⟨⟨ta34_3, tc34_3, rfl⟩, -⟩ := id hS34.d
  simp only [qz]
  refine rf_storeRM (n := 9) rfl rfl Kx rfl rfl (UpdR.app _ (UpdR.there _ (UpdR.app _ (UpdR.here _ _ _ Nl)))) ((sc _ (List.Sublist.append_left (sk _ sn) _)).trans (List.sublist_append_right _ _)) ?_
  simp only [qz, Nat.reduceAdd]
  refine rg_nil (ek_next (wk_ret ?_))
  refine ek_ret (fun w hw => ⟨rfl, _, run_results1 rfl rfl (Kn.hd0 (Kn.tlU (Kn.tl (Kn.tlU hw)))) Try.underlying70 rfl Kx, ?_⟩)
  (try simp only [qz])
  exact ⟨_, u34, rfl, ⟨_, _, _, _, rfl, hS34⟩, hw.made (List.sublist_append_left _ _)⟩

set_option maxRecDepth 100000 in
set_option maxHeartbeats 1000000 in
theorem rbar_any (n : Int) (w : World) : Calls Try.prog 28 #[.int .i64 n] w fun e w' => e = .returned (numV (barR n)) ∧ Below w.heap.size w w' := by
  go_enter Try.func28, Try.ntmps28
  refine wk_start ?_
  refine wk_seq ?_
  refine wk_region [1, 0] rfl Kx ?_
  simp only [qy]
  refine Rgn fun g1 => ?_
  simp only [qz]
  refine rg_assign ?_
  simp only [qz]
  refine rg_nil (ek_next (wk_seq (wk_seq ?_)))
  refine wk_region [0, 0, 0, 0, 0, 0] rfl Kx ?_
  simp only [qy]
  refine rg_move ?_
  simp only [qz]
  refine rfb_lss rfl rfl rfl rfl ?_
  intro x h1
  cases x
  · (try simp only [qd, ne_eq] at h1)
    simp only [qz]
    refine rg_move ?_
    simp only [qz]
    apply rg_soft_g
    case hg => rfl
    case hy => (intro w hw; go_simp; (try go_bits); exact Yld.mk _ _)
    simp only [qz]
    refine rfb_gtr rfl rfl rfl rfl ?_
    intro x h2
    cases x
    · (try simp only [qd, ne_eq] at h2)
      simp only [qz]
      refine rf_pick rfl rfl rfl ?_
      simp only [qz]
      refine rg_nil (ek_next (wk_cond_f rfl (wk_skip (ek_next (wk_seq ?_)))))
      refine wk_region [0, 1, 1, 0, 0, 0, 1, 1, 0] rfl Kx ?_
      simp only [qy]
      refine rg_move ?_
      simp only [qz]
      obtain ⟨m, rfl⟩ : ∃ m : Nat, n = m := ⟨n.toNat, by omega⟩
      have hm7 : m ≤ 7 := by omega
      obtain ⟨hft, -, -, -, hk3⟩ := bar_fit m hm7
      simp only [Bool.and_eq_true] at hft
      have fb := fitC_fit hft.2.2.2
      clear hft
      apply (rg_made (T := fun v u => ∃ s0 s1 s2 s3, v = wdV (barW m) s0 s1 s2 s3 ∧ SU4 u (barW m) s0 s1 s2 s3)) Rx Kx
      case hargs => exact Ax
      case h => exact fun w hw => rbarw_any m hm7 w
      case hz => exact Nz
      rintro _ u2 ⟨t0, t1, t2, t3, rfl, hS2⟩
      obtain ⟨⟨ta2_0, tc2_0, rfl⟩, -⟩ := id hS2.a
      obtain ⟨⟨ta2_1, tc2_1, rfl⟩, -⟩ := id hS2.b
      obtain ⟨⟨ta2_2, tc2_2, rfl⟩, -⟩ := id hS2.c
      obtain ⟨⟨ta2_3, tc2_3, rfl⟩, -⟩ := id hS2.d
      simp only [qz]
      apply rg_pure Rx Kx
      case hargs => exact Ax
      case h => exact fun w hw => wnum_any (barW m) _ _ _ _ (Nm.fit_mono fb (by decide)) Ox Ox w (hS2.at hw (List.sublist_append_left _ _))
      case hz => exact Nz
      simp only [qz]
      refine rg_move ?_
      simp only [qz]
      refine rf_extract rfl rfl rfl rfl ?_
      simp only [qz]
      refine rf_extract rfl rfl rfl rfl ?_
      simp only [qz]
      refine Rgn fun g3 => ?_
      simp only [qz]
      refine rf_storeR (n := 5) rfl rfl Kx rfl rfl (UpdR.here _ _ _ Nl) Nz ?_
      simp only [qz, Nat.reduceAdd]
      refine rg_assign ?_
      simp only [qz]
      refine rg_nil (ek_next (wk_seq ?_))
      refine wk_region [0, 1, 0] rfl Kx ?_
      simp only [qy]
      refine rf_loadR (n := 5) rfl rfl rfl Try.underlying45 rfl Kx (fun w hw => Kn.hd0 hw) rfl rfl ?_
      simp only [qz]
      refine rf_storeR (n := 5) rfl rfl Kx rfl rfl (UpdR.there _ (UpdR.app _ (UpdR.here _ _ _ Nl))) Nz ?_
      simp only [qz, Nat.reduceAdd]
      refine rg_assign ?_
      simp only [qz]
      refine rg_nil (ek_next (wk_ret ?_))
      refine ek_ret (fun w hw => ⟨rfl, _, run_results2 rfl rfl (Kn.hd0 (Kn.tlU (Kn.tl hw))) Try.underlying45 rfl Kx, ?_⟩)
      (try simp only [qz])
      exact ⟨by unfold barR; rw [if_pos Ox, Int.toNat_natCast]; rfl, hw.below⟩
    (try simp only [qd, ne_eq] at h2)
    simp only [qz]
    refine rf_pick rfl rfl rfl ?_
    simp only [qz]
    refine rg_nil (ek_next (wk_cond_t rfl (wk_seq ?_)))
    refine wk_region [0, 1, 0] rfl Kx ?_
    simp only [qy]
    refine rf_build (cs := fun a => #[.int .i64 0, .int .i64 0, .int .i64 0, .int .i64 0, .int .i64 0]) rfl rfl Kx ?_
    simp only [qz]
    refine rf_storeR (n := 5) rfl rfl Kx rfl rfl (UpdR.here _ _ _ Nl) Nz ?_
    simp only [qz, Nat.reduceAdd]
    refine rg_assign ?_
    simp only [qz]
    refine rg_nil (ek_next (wk_ret (ek_then_ret ?_)))
    refine ek_ret (fun w hw => ⟨rfl, _, run_results2 rfl rfl (Kn.hd0 hw) Try.underlying45 rfl Kx, ?_⟩)
    (try simp only [qz])
    exact ⟨by unfold barR; rw [if_neg Ox]; rfl, hw.below⟩
  (try simp only [qd, ne_eq] at h1)
  simp only [qz]
  refine rg_move ?_
  simp only [qz]
  refine rg_skip Rx ?_
  simp only [qz]
  refine rg_skip Rx ?_
  simp only [qz]
  refine rf_pick rfl rfl rfl ?_
  simp only [qz]
  refine rg_nil (ek_next (wk_cond_t rfl (wk_seq ?_)))
  refine wk_region [0, 1, 0] rfl Kx ?_
  simp only [qy]
  refine rf_build (cs := fun a => #[.int .i64 0, .int .i64 0, .int .i64 0, .int .i64 0, .int .i64 0]) rfl rfl Kx ?_
  simp only [qz]
  refine rf_storeR (n := 5) rfl rfl Kx rfl rfl (UpdR.here _ _ _ Nl) Nz ?_
  simp only [qz, Nat.reduceAdd]
  refine rg_assign ?_
  simp only [qz]
  refine rg_nil (ek_next (wk_ret (ek_then_ret ?_)))
  refine ek_ret (fun w hw => ⟨rfl, _, run_results2 rfl rfl (Kn.hd0 hw) Try.underlying45 rfl Kx, ?_⟩)
  (try simp only [qz])
  exact ⟨by unfold barR; rw [if_neg Ox]; rfl, hw.below⟩

end Go.Proofs.Ytccbinnlnkpplaa
namespace Go.Proofs.Ytccbinnlnkpplaa
set_option linter.all false
open Go.RowKit

structure Md (z : Nm) : Prop where
  fit : z.Fit 1000000000
  k0 : 0 ≤ z.k
  k1 : z.k ≤ 40
theorem Md.big {z : Nm} (h : Md z) : z.Fit 9850501549098619803069760025035903451269934817616361666987073351061430442874302652853566563721228910201656997576704 := Nm.fit_mono h.fit (by decide)
theorem Md.to {x : Nm} {m : Int} (h : Md x) (h1 : x.k ≤ m) (h2 : m ≤ 40) : (x.to m).Fit 9850501549098619803069760025035903451269934817616361666987073351061430442874302652853566563721228910201656997576704 := by
  have := h.k0
  unfold Nm.to
  exact Nm.fit_mono (Nm.up40_fit h.fit Ox) (by decide)
theorem Md.neg {z : Nm} (h : Md z) : Md z.neg := by
  obtain ⟨a0, a1, b0, b1, c0, c1, d0, d1⟩ := h.fit
  exact ⟨⟨by show _ ≤ -z.a; omega, by show -z.a ≤ _; omega, by show _ ≤ -z.b; omega, by show -z.b ≤ _; omega, by show _ ≤ -z.c; omega, by show -z.c ≤ _; omega, by show _ ≤ -z.d; omega, by show -z.d ≤ _; omega⟩, h.k0, h.k1⟩
theorem Md.dif {x y : Nm} (hx : Md x) (hy : Md y) : (x.addR y).Fit 2097152000000000 := by
  have k0 := hx.k0; have k1 := hx.k1; have l0 := hy.k0; have l1 := hy.k1
  have h1 : (x.to (max x.k y.k)).Fit 1048576000000000 := by unfold Nm.to; exact Nm.up40_fit hx.fit Ox
  have h2 : (y.to (max x.k y.k)).Fit 1048576000000000 := by unfold Nm.to; exact Nm.up40_fit hy.fit Ox
  obtain ⟨a0, a1, b0, b1, c0, c1, d0, d1⟩ := h1
  obtain ⟨p0, p1, q0, q1, r0, r1, s0, s1⟩ := h2
  exact ⟨by show _ ≤ _ + _; omega, by show _ + _ ≤ _; omega, by show _ ≤ _ + _; omega, by show _ + _ ≤ _; omega, by show _ ≤ _ + _; omega, by show _ + _ ≤ _; omega, by show _ ≤ _ + _; omega, by show _ + _ ≤ _; omega⟩
theorem Nm.neg_fit {z : Nm} {n : Int} (h : z.Fit n) : z.neg.Fit n := by
  obtain ⟨a0, a1, b0, b1, c0, c1, d0, d1⟩ := h
  exact ⟨by show _ ≤ -z.a; omega, by show -z.a ≤ _; omega, by show _ ≤ -z.b; omega, by show -z.b ≤ _; omega, by show _ ≤ -z.c; omega, by show -z.c ≤ _; omega, by show _ ≤ -z.d; omega, by show -z.d ≤ _; omega⟩
theorem Nm.add_fit {x y : Nm} {n : Int} (h : x.Fit n) (k : y.Fit n) (e : x.k = y.k) : (x.addR y).Fit (n + n) := by
  have e1 : x.to (max x.k y.k) = x := to_0 Ox
  have e2 : y.to (max x.k y.k) = y := to_0 Ox
  obtain ⟨a0, a1, b0, b1, c0, c1, d0, d1⟩ := h
  obtain ⟨p0, p1, q0, q1, r0, r1, s0, s1⟩ := k
  refine ⟨?_, ?_, ?_, ?_, ?_, ?_, ?_, ?_⟩
  · show _ ≤ (x.to _).a + (y.to _).a; rw [e1, e2]; omega
  · show (x.to _).a + (y.to _).a ≤ _; rw [e1, e2]; omega
  · show _ ≤ (x.to _).b + (y.to _).b; rw [e1, e2]; omega
  · show (x.to _).b + (y.to _).b ≤ _; rw [e1, e2]; omega
  · show _ ≤ (x.to _).c + (y.to _).c; rw [e1, e2]; omega
  · show (x.to _).c + (y.to _).c ≤ _; rw [e1, e2]; omega
  · show _ ≤ (x.to _).d + (y.to _).d; rw [e1, e2]; omega
  show (x.to _).d + (y.to _).d ≤ _; rw [e1, e2]; omega
theorem dW_md {x y : Nm} (hx : Md x) (hy : Md y) : (dW x y).Fit 2097152000000000 ∧ (dW x y).k = max x.k y.k := by
  unfold dW
  split
  · exact ⟨hy.dif hx.neg, by show max y.k x.k = _; omega⟩
  exact ⟨hx.dif hy.neg, rfl⟩
theorem bar_md {m : Nat} (h : m ≤ 7) : Md (barW m) ∧ (barW m).k = 4 := by
  obtain ⟨hft, -, -, -, hk3⟩ := bar_fit m h
  simp only [Bool.and_eq_true] at hft
  exact ⟨⟨Nm.fit_mono (fitC_fit hft.2.2.2) (by decide), by omega, by omega⟩, hk3⟩
/-- Nearest, as the document answers. -/
def nearV (z : Nm) : Value := if z.okB = true then (if z.c = 0 ∧ z.b + z.d = 0 then .tuple #[.int .i64 (bestD z 4), .int .i64 0] else .tuple #[.int .i64 0, .int .i64 11]) else .tuple #[.int .i64 0, .int .i64 10]
set_option maxRecDepth 100000 in
set_option maxHeartbeats 2000000 in
theorem rdist_any (x y : Nm) (s0 s1 s2 s3 : Value) (p0 p1 p2 p3 : Value) (hx : Md x) (hy : Md y) (w : World) (hs : SA4 w x s0 s1 s2 s3) (hs2 : SA4 w y p0 p1 p2 p3) : Calls Try.prog 86 #[wdV x s0 s1 s2 s3, wdV y p0 p1 p2 p3] w fun e w' => RetW w (dW x y) e w' := by
  obtain ⟨⟨a0, c0, rfl⟩, ⟨a1, c1, rfl⟩, ⟨a2, c2, rfl⟩, ⟨a3, c3, rfl⟩⟩ := (⟨hs.a.form, hs.b.form, hs.c.form, hs.d.form⟩ : _ ∧ _ ∧ _ ∧ _)
  obtain ⟨⟨b0, d0, rfl⟩, ⟨b1, d1, rfl⟩, ⟨b2, d2, rfl⟩, ⟨b3, d3, rfl⟩⟩ := (⟨hs2.a.form, hs2.b.form, hs2.c.form, hs2.d.form⟩ : _ ∧ _ ∧ _ ∧ _)
  go_enter Try.func86, Try.ntmps86
  refine wk_start ?_
  refine wk_seq ?_
  refine wk_region [1, 1, 1] rfl Kx ?_
  simp only [qy]
  refine Rgn fun g1 => ?_
  simp only [qz]
  refine Rgn fun g2 => ?_
  simp only [qz]
  refine Rgn fun g3 => ?_
  simp only [qz]
  refine rg_nil (ek_next (wk_seq ?_))
  refine wk_region [0, 0, 1, 1, 1] rfl Kx ?_
  simp only [qy]
  refine rf_loadR (n := 9) rfl rfl rfl Try.underlying70 rfl Kx (fun w hw => Kn.hd0 (Kn.tl (Kn.tl hw))) rfl rfl ?_
  simp only [qz]
  refine rf_loadR (n := 9) rfl rfl rfl Try.underlying70 rfl Kx (fun w hw => Kn.hd0 (Kn.tl hw)) rfl rfl ?_
  simp only [qz]
  apply (rg_made (T := fun v u => ∃ s0 s1 s2 s3, v = wdV (x.addR y.neg) s0 s1 s2 s3 ∧ SU4 u (x.addR y.neg) s0 s1 s2 s3)) Rx Kx
  case hargs => exact Ax
  case h => exact fun w hw => wminus_any (x) (y) _ _ _ _ _ _ _ _ hy.big (hx.to Ox (by have := hx.k1; have := hy.k1; omega)) (hy.neg.to (by show (y).k ≤ _; omega) (by have := hx.k1; have := hy.k1; omega)) hx.k0 (by have := hx.k1; omega) hy.k0 (by have := hy.k1; omega) w (hs.kn hw) (hs2.kn hw)
  case hz => exact Nz
  rintro _ u4 ⟨t0, t1, t2, t3, rfl, hS4⟩
  obtain ⟨⟨ta4_0, tc4_0, rfl⟩, -⟩ := id hS4.a
  obtain ⟨⟨ta4_1, tc4_1, rfl⟩, -⟩ := id hS4.b
  obtain ⟨⟨ta4_2, tc4_2, rfl⟩, -⟩ := id hS4.c
  obtain ⟨⟨ta4_3, tc4_3, rfl⟩, -⟩ := id hS4.d
  simp only [qz]
  refine Rgn fun g5 => ?_
  simp only [qz]
  refine rf_storeR (n := 9) rfl rfl Kx rfl rfl (UpdR.here _ _ _ Nl) Nz ?_
  simp only [qz, Nat.reduceAdd]
  refine rg_nil (ek_next (wk_seq (wk_seq ?_)))
  refine wk_region [0, 1, 0] rfl Kx ?_
  simp only [qy]
  refine rf_loadR (n := 9) rfl rfl rfl Try.underlying70 rfl Kx (fun w hw => Kn.hd0 hw) rfl rfl ?_
  simp only [qz]
  apply rg_pure Rx Kx
  case hargs => exact Ax
  case h => exact fun w hw => wsign_any (x.addR y.neg) _ _ _ _ (Nm.fit_mono (hx.dif hy.neg) (by decide)) w (hS4.at hw (List.Sublist.cons _ (List.sublist_append_left _ _)))
  case hz => exact Nz
  simp only [qz]
  refine rfb_lss rfl rfl rfl rfl ?_
  intro x h1
  cases x
  · (try simp only [qd, ne_eq] at h1)
    simp only [qz]
    refine rg_nil (ek_next (wk_cond_f rfl (wk_skip (ek_next (wk_seq ?_)))))
    refine wk_region [0, 1] rfl Kx ?_
    simp only [qy]
    refine rf_loadR (n := 9) rfl rfl rfl Try.underlying70 rfl Kx (fun w hw => Kn.hd0 hw) rfl rfl ?_
    simp only [qz]
    refine rf_storeR (n := 9) rfl rfl Kx rfl rfl (UpdR.there _ (UpdR.app _ (UpdR.here _ _ _ Nl))) Nz ?_
    simp only [qz, Nat.reduceAdd]
    refine rg_nil (ek_next (wk_ret ?_))
    refine ek_ret (fun w hw => ⟨rfl, _, run_results1 rfl rfl (Kn.hd0 (Kn.tlU (Kn.tl hw))) Try.underlying70 rfl Kx, ?_⟩)
    (try simp only [qz])
    have e : dW x y = x.addR y.neg := by (unfold dW; rw [if_neg Ox])
    rw [e]
    exact ⟨_, u4, rfl, ⟨_, _, _, _, rfl, hS4⟩, hw.made (List.Sublist.cons _ (List.sublist_append_left _ _))⟩
  (try simp only [qd, ne_eq] at h1)
  simp only [qz]
  refine rg_nil (ek_next (wk_cond_t rfl (wk_seq ?_)))
  refine wk_region [0, 0, 1, 1] rfl Kx ?_
  simp only [qy]
  refine rf_loadR (n := 9) rfl rfl rfl Try.underlying70 rfl Kx (fun w hw => Kn.hd0 (Kn.tl (Kn.tlU (Kn.tl hw)))) rfl rfl ?_
  simp only [qz]
  refine rf_loadR (n := 9) rfl rfl rfl Try.underlying70 rfl Kx (fun w hw => Kn.hd0 (Kn.tl (Kn.tl (Kn.tlU (Kn.tl hw))))) rfl rfl ?_
  simp only [qz]
  apply (rg_made (T := fun v u => ∃ s0 s1 s2 s3, v = wdV (y.addR x.neg) s0 s1 s2 s3 ∧ SU4 u (y.addR x.neg) s0 s1 s2 s3)) Rx Kx
  case hargs => exact Ax
  case h => exact fun w hw => wminus_any (y) (x) _ _ _ _ _ _ _ _ hx.big (hy.to Ox (by have := hy.k1; have := hx.k1; omega)) (hx.neg.to (by show (x).k ≤ _; omega) (by have := hy.k1; have := hx.k1; omega)) hy.k0 (by have := hy.k1; omega) hx.k0 (by have := hx.k1; omega) w (hs2.kn hw) (hs.kn hw)
  case hz => exact Nz
  rintro _ u6 ⟨t0, t1, t2, t3, rfl, hS6⟩
  obtain ⟨⟨ta6_0, tc6_0, rfl⟩, -⟩ := id hS6.a
  obtain ⟨⟨ta6_1, tc6_1, rfl⟩, -⟩ := id hS6.b
  obtain ⟨⟨ta6_2, tc6_2, rfl⟩, -⟩ := id hS6.c
  obtain ⟨⟨ta6_3, tc6_3, rfl⟩, -⟩ := id hS6.d
  simp only [qz]
  refine rf_storeR (n := 9) rfl rfl Kx rfl rfl (UpdR.app _ (UpdR.there _ (UpdR.app _ (UpdR.here _ _ _ Nl)))) Nz ?_
  simp only [qz, Nat.reduceAdd]
  refine rg_nil (ek_next (wk_ret (ek_then_ret ?_)))
  refine ek_ret (fun w hw => ⟨rfl, _, run_results1 rfl rfl (Kn.hd0 (Kn.tlU (Kn.tl (Kn.tlU hw)))) Try.underlying70 rfl Kx, ?_⟩)
  (try simp only [qz])
  have e : dW x y = y.addR x.neg := by (unfold dW; rw [if_pos Ox])
  rw [e]
  exact ⟨_, u6, rfl, ⟨_, _, _, _, rfl, hS6⟩, hw.made (List.sublist_append_left _ _)⟩

set_option maxRecDepth 100000 in
set_option maxHeartbeats 4000000 in
theorem rnear_any (z : Nm) (w : World) : Calls Try.prog 47 #[nmV z] w fun e w' => e = .returned (nearV z) ∧ Below w.heap.size w w' := by
  go_enter Try.func47, Try.ntmps47
  refine wk_start ?_
  refine wk_seq ?_
  refine wk_region [1, 0, 0] rfl Kx ?_
  simp only [qy]
  refine Rgn fun g1 => ?_
  simp only [qz]
  refine rg_assign ?_
  simp only [qz]
  refine rg_assign ?_
  simp only [qz]
  refine rg_nil (ek_next (wk_seq (wk_seq ?_)))
  refine wk_region [0, 1, 0] rfl Kx ?_
  simp only [qy]
  refine rf_loadR (n := 5) rfl rfl rfl Try.underlying45 rfl Kx (fun w hw => Kn.hd0 hw) rfl rfl ?_
  simp only [qz]
  apply rg_pureb Rx Kx
  case hargs => exact Ax
  case h => exact fun w hw => rValidNum_any z w
  case hz => exact Nz
  intro x h1
  cases x
  · (try simp only [qd, ne_eq] at h1)
    simp only [qz]
    refine rf_not rfl rfl rfl ?_
    simp only [qz]
    refine rg_nil (ek_next (wk_cond_t rfl (wk_seq ?_)))
    refine wk_region [0, 0] rfl Kx ?_
    simp only [qy]
    refine rg_assign ?_
    simp only [qz]
    refine rg_assign ?_
    simp only [qz]
    refine rg_nil (ek_next (wk_ret (ek_then_ret ?_)))
    refine ek_ret (fun w hw => ⟨rfl, _, res_tt _ _ rfl, ?_⟩)
    (try simp only [qz])
    exact ⟨by unfold nearV; rw [h1]; rfl, hw.below⟩
  (try simp only [qd, ne_eq] at h1)
  simp only [qz]
  have hz := okB_iff.1 h1
  have hv8 := Lib.hid h1
  clear h1
  have hm : Md z := ⟨hz.fit, hz.k0, hz.k1⟩
  refine rf_not rfl rfl rfl ?_
  simp only [qz]
  refine rg_nil (ek_next (wk_cond_f rfl (wk_skip (ek_next (wk_seq ?_)))))
  refine wk_region [0, 1, 1, 1] rfl Kx ?_
  simp only [qy]
  refine rf_loadR (n := 5) rfl rfl rfl Try.underlying45 rfl Kx (fun w hw => Kn.hd0 hw) rfl rfl ?_
  simp only [qz]
  apply (rg_made (T := fun v u => ∃ s0 s1 s2 s3, v = wdV (z) s0 s1 s2 s3 ∧ SU4 u (z) s0 s1 s2 s3)) Rx Kx
  case hargs => exact Ax
  case h => exact fun w hw => wideOf_any z (Nm.fit_mono hz.fit (by decide)) w
  case hz => exact Nz
  rintro _ u2 ⟨t0, t1, t2, t3, rfl, hS2⟩
  obtain ⟨⟨ta2_0, tc2_0, rfl⟩, -⟩ := id hS2.a
  obtain ⟨⟨ta2_1, tc2_1, rfl⟩, -⟩ := id hS2.b
  obtain ⟨⟨ta2_2, tc2_2, rfl⟩, -⟩ := id hS2.c
  obtain ⟨⟨ta2_3, tc2_3, rfl⟩, -⟩ := id hS2.d
  simp only [qz]
  refine Rgn fun g3 => ?_
  simp only [qz]
  refine rf_storeR (n := 9) rfl rfl Kx rfl rfl (UpdR.here _ _ _ Nl) Nz ?_
  simp only [qz, Nat.reduceAdd]
  refine rg_nil (ek_next (wk_seq (wk_seq ?_)))
  refine wk_region [0, 1, 0] rfl Kx ?_
  simp only [qy]
  refine rf_loadR (n := 9) rfl rfl rfl Try.underlying70 rfl Kx (fun w hw => Kn.hd0 hw) rfl rfl ?_
  simp only [qz]
  apply rg_pureb Rx Kx
  case hargs => exact Ax
  case h => exact fun w hw => wreal_any z _ _ _ _ (Nm.fit_mono hz.fit (by decide)) w (hS2.at hw (List.Sublist.cons _ (List.sublist_append_left _ _)))
  case hz => exact Nz
  intro x h2
  cases x
  · (try simp only [qd, ne_eq] at h2)
    simp only [qz]
    refine rf_not rfl rfl rfl ?_
    simp only [qz]
    refine rg_nil (ek_next (wk_cond_t rfl (wk_seq ?_)))
    refine wk_region [0, 0] rfl Kx ?_
    simp only [qy]
    refine rg_assign ?_
    simp only [qz]
    refine rg_assign ?_
    simp only [qz]
    refine rg_nil (ek_next (wk_ret (ek_then_ret ?_)))
    refine ek_ret (fun w hw => ⟨rfl, _, res_tt _ _ rfl, ?_⟩)
    (try simp only [qz])
    exact ⟨by unfold nearV; rw [hv8.out, if_pos rfl, if_neg (by simpa using h2)], hw.below⟩
  (try simp only [qd, ne_eq] at h2)
  simp only [qz]
  refine rf_not rfl rfl rfl ?_
  simp only [qz]
  refine rg_nil (ek_next (wk_cond_f rfl (wk_skip (ek_next (wk_seq ?_)))))
  refine wk_region [0] rfl Kx ?_
  simp only [qy]
  refine rg_assign ?_
  simp only [qz]
  refine rg_nil (ek_next (wk_seq (wk_seq ?_)))
  refine wk_region [0] rfl Kx ?_
  simp only [qy]
  refine rg_assign ?_
  simp only [qz]
  refine rg_nil (ek_next (wk_block ?_))
  have hSP := hS2
  clear hS2
  refine wk_loopF [5, 6, 15, 16, 17, 18, 19, 20, 21, 22, 23, 24, 25, 26, 27, 28, 29, 30] (fun mz f s => ∃ (n bt : Nat), f 5 = .int .i64 bt ∧ f 6 = .int .i64 n ∧ s = ((g3, .cells #[.bool (decide (z.a < 0)), .slice ta2_0 (digs z.a.natAbs).length tc2_0, .bool (decide (z.b < 0)), .slice ta2_1 (digs z.b.natAbs).length tc2_1, .bool (decide (z.c < 0)), .slice ta2_2 (digs z.c.natAbs).length tc2_2, .bool (decide (z.d < 0)), .slice ta2_3 (digs z.d.natAbs).length tc2_3, .int .i64 z.k] 70) :: (u2 ++ ((g1, .cells #[.int .i64 z.a, .int .i64 z.b, .int .i64 z.c, .int .i64 z.d, .int .i64 z.k] 45) :: []))) ∧ mz = 5 - n ∧ 1 ≤ n ∧ n ≤ 5 ∧ bt < n ∧ Hid (bestD z (n - 1) = bt)) ((fun (n bt : Nat) => 5 - n) (1) (0)) ?_ Kx ?_
  · exact ⟨1, 0, rfl, rfl, rfl, rfl, by decide, by decide, by decide, Lib.hid rfl⟩
  rintro mz f1 s ⟨n, bt, hs1_5, hs1_6, rfl, hn, hl1, hl2, hl3, hl4⟩
  simp only [Act.putF, List.foldl_cons, List.foldl_nil, hs1_5, hs1_6, Act.put, Act.eval, q1, q2, q3, q4, q5, q6, q7, q8, q9, q10, q11, q12, q13, q14, q15, q16, q17, q18, Nat.reduceAdd, Bool.not_true, Bool.not_false]
  clear hs1_5 hs1_6
  refine wk_seq (wk_seq ?_)
  refine wk_region [0, 0] rfl Kx ?_
  simp only [qy]
  refine rg_move ?_
  simp only [qz]
  refine rfb_leq rfl rfl rfl rfl ?_
  intro x h3
  cases x
  · (try simp only [qd, ne_eq] at h3)
    simp only [qz]
    refine rg_nil (ek_next (wk_cond_f rfl (wk_exit (ek_then_exit (ek_then_exit (ek_block_exit (ek_next (wk_seq ?_))))))))
    refine wk_region [0, 0, 0] rfl Kx ?_
    simp only [qy]
    refine rg_move ?_
    simp only [qz]
    refine rg_assign ?_
    simp only [qz]
    refine rg_assign ?_
    simp only [qz]
    refine rg_nil (ek_next (wk_ret ?_))
    refine ek_ret (fun w hw => ⟨rfl, _, res_tt _ _ rfl, ?_⟩)
    (try simp only [qz])
    obtain rfl : n = 5 := by omega
    have hl5 : bestD z 4 = bt := hl4.out
    have hr := h2
    exact ⟨by unfold nearV; rw [hv8.out, if_pos rfl, if_pos (by simpa using hr), hl5], hw.below⟩
  (try simp only [qd, ne_eq] at h3)
  simp only [qz]
  refine rg_nil (ek_next (wk_cond_t rfl (wk_skip (ek_next (wk_seq (wk_block (wk_seq ?_)))))))
  have hb1 := bar_md (m := n) Ox
  have hb2 := bar_md (m := bt) Ox
  have hd1 := dW_md hm hb1.1
  have hd2 := dW_md hm hb2.1
  have hb1k := hb1.2
  have hb2k := hb2.2
  have hd1k := hd1.2
  have hd2k := hd2.2
  have hzk := hm.k1
  have hzk0 := hm.k0
  rw [hb1k] at hd1k
  rw [hb2k] at hd2k
  have hl2 := hl4
  refine wk_draws _ _ [(0, 0), (1, 0), (4, 0), (5, 0), (2, 1), (3, 1), (6, 1), (7, 1), (8, 1), (9, 1), (10, 0)] [] Kx Kx (fun c d v a w h => by cases d <;> exact h) ((sc _ (List.Sublist.append_left (sc _ sn) _))) (fun e => by first | exact absurd e (by decide) | rfl) ?_
  simp only [List.map_cons, List.map_nil, List.getD_cons_zero, List.getD_cons_succ]
  refine rf_loadR (n := 9) rfl rfl rfl Try.underlying70 rfl Kx (fun w hw => Kn.hd0 hw) rfl rfl ?_
  simp only [qz]
  refine rg_move ?_
  simp only [qz]
  refine rf_loadR (n := 9) rfl rfl rfl Try.underlying70 rfl Kx (fun w hw => Kn.hd0 hw) rfl rfl ?_
  simp only [qz]
  refine rg_move ?_
  simp only [qz]
  apply (rg_made (T := fun v u => ∃ s0 s1 s2 s3, v = wdV (barW n) s0 s1 s2 s3 ∧ SU4 u (barW n) s0 s1 s2 s3)) Rx Kx
  case hargs => exact Ax
  case h => exact fun w hw => rbarw_any n Ox w
  case hz => exact (fun _ h => by cases h; exact (sc _ (List.Sublist.append_left (sc _ sn) _)))
  rintro _ u4 ⟨t0, t1, t2, t3, rfl, hS4⟩
  obtain ⟨⟨ta4_0, tc4_0, rfl⟩, -⟩ := id hS4.a
  obtain ⟨⟨ta4_1, tc4_1, rfl⟩, -⟩ := id hS4.b
  obtain ⟨⟨ta4_2, tc4_2, rfl⟩, -⟩ := id hS4.c
  obtain ⟨⟨ta4_3, tc4_3, rfl⟩, -⟩ := id hS4.d
  simp only [qz]
  apply (rg_made (T := fun v u => ∃ s0 s1 s2 s3, v = wdV (dW z (barW n)) s0 s1 s2 s3 ∧ SU4 u (dW z (barW n)) s0 s1 s2 s3)) Rx Kx
  case hargs => exact Ax
  case h => exact fun w hw => rdist_any z (barW n) _ _ _ _ _ _ _ _ hm hb1.1 w (hSP.at hw ((List.Sublist.cons _ (List.sublist_append_left _ _)).trans (List.sublist_append_right _ _))) (hS4.at hw (List.sublist_append_left _ _))
  case hz => exact (fun _ h => by cases h; exact ((sc _ (List.Sublist.append_left (sc _ sn) _)).trans (List.sublist_append_right _ _)))
  rintro _ u5 ⟨t0, t1, t2, t3, rfl, hS5⟩
  obtain ⟨⟨ta5_0, tc5_0, rfl⟩, -⟩ := id hS5.a
  obtain ⟨⟨ta5_1, tc5_1, rfl⟩, -⟩ := id hS5.b
  obtain ⟨⟨ta5_2, tc5_2, rfl⟩, -⟩ := id hS5.c
  obtain ⟨⟨ta5_3, tc5_3, rfl⟩, -⟩ := id hS5.d
  simp only [qz]
  apply (rg_made (T := fun v u => ∃ s0 s1 s2 s3, v = wdV (barW bt) s0 s1 s2 s3 ∧ SU4 u (barW bt) s0 s1 s2 s3)) Rx Kx
  case hargs => exact Ax
  case h => exact fun w hw => rbarw_any bt Ox w
  case hz => exact (fun _ h => by cases h; exact (((sc _ (List.Sublist.append_left (sc _ sn) _)).trans (List.sublist_append_right _ _)).trans (List.sublist_append_right _ _)))
  rintro _ u6 ⟨t0, t1, t2, t3, rfl, hS6⟩
  obtain ⟨⟨ta6_0, tc6_0, rfl⟩, -⟩ := id hS6.a
  obtain ⟨⟨ta6_1, tc6_1, rfl⟩, -⟩ := id hS6.b
  obtain ⟨⟨ta6_2, tc6_2, rfl⟩, -⟩ := id hS6.c
  obtain ⟨⟨ta6_3, tc6_3, rfl⟩, -⟩ := id hS6.d
  simp only [qz]
  apply (rg_made (T := fun v u => ∃ s0 s1 s2 s3, v = wdV (dW z (barW bt)) s0 s1 s2 s3 ∧ SU4 u (dW z (barW bt)) s0 s1 s2 s3)) Rx Kx
  case hargs => exact Ax
  case h => exact fun w hw => rdist_any z (barW bt) _ _ _ _ _ _ _ _ hm hb2.1 w (hSP.at hw ((((List.Sublist.cons _ (List.sublist_append_left _ _)).trans (List.sublist_append_right _ _)).trans (List.sublist_append_right _ _)).trans (List.sublist_append_right _ _))) (hS6.at hw (List.sublist_append_left _ _))
  case hz => exact (fun _ h => by cases h; exact ((((sc _ (List.Sublist.append_left (sc _ sn) _)).trans (List.sublist_append_right _ _)).trans (List.sublist_append_right _ _)).trans (List.sublist_append_right _ _)))
  rintro _ u7 ⟨t0, t1, t2, t3, rfl, hS7⟩
  obtain ⟨⟨ta7_0, tc7_0, rfl⟩, -⟩ := id hS7.a
  obtain ⟨⟨ta7_1, tc7_1, rfl⟩, -⟩ := id hS7.b
  obtain ⟨⟨ta7_2, tc7_2, rfl⟩, -⟩ := id hS7.c
  obtain ⟨⟨ta7_3, tc7_3, rfl⟩, -⟩ := id hS7.d
  simp only [qz]
  apply (rg_made (T := fun v u => ∃ s0 s1 s2 s3, v = wdV ((dW z (barW n)).addR (dW z (barW bt)).neg) s0 s1 s2 s3 ∧ SU4 u ((dW z (barW n)).addR (dW z (barW bt)).neg) s0 s1 s2 s3)) Rx Kx
  case hargs => exact Ax
  case h => exact fun w hw => wminus_any (dW z (barW n)) (dW z (barW bt)) _ _ _ _ _ _ _ _ (Nm.fit_mono hd2.1 (by decide)) (by rw [to_0 Ox]; exact Nm.fit_mono hd1.1 (by decide)) (by rw [to_0 (by show (dW z (barW bt)).k = _; omega)]; exact Nm.neg_fit (Nm.fit_mono hd2.1 (by decide))) Ox Ox Ox Ox w (hS5.at hw (((List.sublist_append_left _ _).trans (List.sublist_append_right _ _)).trans (List.sublist_append_right _ _))) (hS7.at hw (List.sublist_append_left _ _))
  case hz => exact (fun _ h => by cases h; exact (((((sc _ (List.Sublist.append_left (sc _ sn) _)).trans (List.sublist_append_right _ _)).trans (List.sublist_append_right _ _)).trans (List.sublist_append_right _ _)).trans (List.sublist_append_right _ _)))
  rintro _ u8 ⟨t0, t1, t2, t3, rfl, hS8⟩
  obtain ⟨⟨ta8_0, tc8_0, rfl⟩, -⟩ := id hS8.a
  obtain ⟨⟨ta8_1, tc8_1, rfl⟩, -⟩ := id hS8.b
  obtain ⟨⟨ta8_2, tc8_2, rfl⟩, -⟩ := id hS8.c
  obtain ⟨⟨ta8_3, tc8_3, rfl⟩, -⟩ := id hS8.d
  simp only [qz]
  apply rg_pure Rx Kx
  case hargs => exact Ax
  case h => exact fun w hw => wsign_any ((dW z (barW n)).addR (dW z (barW bt)).neg) _ _ _ _ (Nm.fit_mono (Nm.add_fit hd1.1 (Nm.neg_fit hd2.1) (by show (dW z (barW n)).k = (dW z (barW bt)).k; omega)) (by decide)) w (hS8.at hw (List.sublist_append_left _ _))
  case hz => exact (fun _ h => by cases h; exact ((((((sc _ (List.Sublist.append_left (sc _ sn) _)).trans (List.sublist_append_right _ _)).trans (List.sublist_append_right _ _)).trans (List.sublist_append_right _ _)).trans (List.sublist_append_right _ _)).trans (List.sublist_append_right _ _)))
  simp only [qz]
  refine rfb_lss rfl rfl rfl rfl ?_
  intro x h4
  cases x
  · (try simp only [qd, ne_eq] at h4)
    simp only [qz]
    refine rg_nil (ek_next (wk_cond_f rfl (wk_skip (ek_block (ek_next ?_)))))
    refine wk_region [0, 0, 0] rfl Kx ?_
    simp only [qy]
    refine rg_move ?_
    simp only [qz]
    refine rf_add rfl rfl rfl rfl (wrap_ok Ox Ox) ?_
    simp only [qz]
    refine rg_assign ?_
    simp only [qz]
    refine rg_nil ?_
    refine ek_sub ((((((sc _ (List.Sublist.append_left (sc _ sn) _)).trans (List.sublist_append_right _ _)).trans (List.sublist_append_right _ _)).trans (List.sublist_append_right _ _)).trans (List.sublist_append_right _ _)).trans (List.sublist_append_right _ _)) ?_
    refine ek_roundF (5 - (n + 1)) Ox Kx ?_
    exact ⟨n + 1, bt, rfl, rfl, by rfl, by rfl, Ox, Ox, Ox, (Lib.hid (by obtain ⟨j, rfl⟩ : ∃ j, n = j + 1 := ⟨n - 1, by omega⟩; show bestD z (j + 1) = _; have hb := hl2.out; simp only [Nat.add_sub_cancel] at hb; unfold bestD; rw [hb]; first | exact if_pos Ox | exact if_neg Ox))⟩
  (try simp only [qd, ne_eq] at h4)
  simp only [qz]
  refine rg_nil (ek_next (wk_cond_t rfl ?_))
  refine wk_region [0, 0] rfl Kx ?_
  simp only [qy]
  refine rg_move ?_
  simp only [qz]
  refine rg_assign ?_
  simp only [qz]
  refine rg_nil (ek_block (ek_next ?_))
  refine wk_region [0, 0, 0] rfl Kx ?_
  simp only [qy]
  refine rg_move ?_
  simp only [qz]
  refine rf_add rfl rfl rfl rfl (wrap_ok Ox Ox) ?_
  simp only [qz]
  refine rg_assign ?_
  simp only [qz]
  refine rg_nil ?_
  refine ek_sub ((((((sc _ (List.Sublist.append_left (sc _ sn) _)).trans (List.sublist_append_right _ _)).trans (List.sublist_append_right _ _)).trans (List.sublist_append_right _ _)).trans (List.sublist_append_right _ _)).trans (List.sublist_append_right _ _)) ?_
  refine ek_roundF (5 - (n + 1)) Ox Kx ?_
  exact ⟨n + 1, n, rfl, rfl, by rfl, by rfl, Ox, Ox, Ox, (Lib.hid (by obtain ⟨j, rfl⟩ : ∃ j, n = j + 1 := ⟨n - 1, by omega⟩; show bestD z (j + 1) = _; have hb := hl2.out; simp only [Nat.add_sub_cancel] at hb; unfold bestD; rw [hb]; first | exact if_pos Ox | exact if_neg Ox))⟩

end Go.Proofs.Ytccbinnlnkpplaa
namespace Go.Proofs.Ytccbinnlnkpplaa
set_option linter.all false
open Go.RowKit

set_option maxRecDepth 100000 in
set_option maxHeartbeats 1000000 in
theorem amneg_any (z : Nm) (h : z.Fit 4611686018427387903) (w : World) : Calls Try.prog 139 #[nmV z] w fun e w' => e = .returned (nmV z.neg) ∧ Below w.heap.size w w' := by
  obtain ⟨fa0, fa1, fb0, fb1, fc0, fc1, fd0, fd1⟩ := h
  go_enter Try.func139, Try.ntmps139
  refine wk_start ?_
  refine wk_seq ?_
  refine wk_region [1, 1] rfl Kx ?_
  simp only [qy]
  refine Rgn fun g1 => ?_
  simp only [qz]
  refine Rgn fun g2 => ?_
  simp only [qz]
  refine rg_nil (ek_next (wk_seq (wk_seq ?_)))
  refine wk_region [0] rfl Kx ?_
  simp only [qy]
  refine rg_move ?_
  simp only [qz]
  refine rg_nil (ek_next (wk_block ?_))
  refine wk_unroll 4 ?_
  refine wk_seq ?_
  refine wk_region [0] rfl Kx ?_
  simp only [qy]
  refine rf_lss (b := true) rfl rfl rfl rfl (by decide) ?_
  simp only [qz]
  refine rg_nil (ek_next (wk_seq (wk_cond_t rfl (wk_skip (ek_next (wk_seq (wk_block (wk_seq ?_))))))))
  refine wk_region [0, 0] rfl Kx ?_
  simp only [qy]
  refine rg_move ?_
  simp only [qz]
  refine rg_assign ?_
  simp only [qz]
  refine rg_nil (ek_next ?_)
  refine wk_region [0, 0, 0, 0, 0, 0, 0, 0, 1] rfl Kx ?_
  simp only [qy]
  refine rg_move ?_
  simp only [qz]
  refine rg_move ?_
  simp only [qz]
  refine rf_field (n := 3) (j := 0) rfl rfl rfl Try.underlying45 rfl Kx rfl ?_
  simp only [qz]
  refine rf_indexA (n := 0) (sz := 1) (j := 0) rfl rfl rfl rfl Try.underlying43 Kx (by decide) rfl ?_
  simp only [qz]
  refine rf_load rfl rfl rfl Try.underlying3 rfl (fun w hw => (Kn.hd0 (Kn.tl hw)).at rfl) ?_
  simp only [qz]
  refine rf_neg rfl rfl rfl (wrap_ok Ox Ox) ?_
  simp only [qz]
  refine rf_field (n := 3) (j := 0) rfl rfl rfl Try.underlying45 rfl Kx rfl ?_
  simp only [qz]
  refine rf_indexA (n := 0) (sz := 1) (j := 0) rfl rfl rfl rfl Try.underlying43 Kx (by decide) rfl ?_
  simp only [qz]
  refine rf_store rfl rfl Kx rfl rfl (UpdR.there _ (UpdR.here _ _ _ Nl)) Nz ?_
  simp only [qz]
  refine rg_nil (ek_block (ek_next ?_))
  refine wk_region [0, 0] rfl Kx ?_
  simp only [qy]
  refine rf_add (r := 1) rfl rfl rfl rfl (by decide) ?_
  simp only [qz]
  refine rg_move ?_
  simp only [qz]
  refine rg_nil (ek_again (wk_seq ?_))
  refine wk_region [0] rfl Kx ?_
  simp only [qy]
  refine rf_lss (b := true) rfl rfl rfl rfl (by decide) ?_
  simp only [qz]
  refine rg_nil (ek_next (wk_seq (wk_cond_t rfl (wk_skip (ek_next (wk_seq (wk_block (wk_seq ?_))))))))
  refine wk_region [0, 0] rfl Kx ?_
  simp only [qy]
  refine rg_move ?_
  simp only [qz]
  refine rg_assign ?_
  simp only [qz]
  refine rg_nil (ek_next ?_)
  refine wk_region [0, 0, 0, 0, 0, 0, 0, 0, 1] rfl Kx ?_
  simp only [qy]
  refine rg_move ?_
  simp only [qz]
  refine rg_move ?_
  simp only [qz]
  refine rf_field (n := 3) (j := 0) rfl rfl rfl Try.underlying45 rfl Kx rfl ?_
  simp only [qz]
  refine rf_indexA (n := 1) (sz := 1) (j := 1) rfl rfl rfl rfl Try.underlying43 Kx (by decide) rfl ?_
  simp only [qz]
  refine rf_load rfl rfl rfl Try.underlying3 rfl (fun w hw => (Kn.hd0 (Kn.tl hw)).at rfl) ?_
  simp only [qz]
  refine rf_neg rfl rfl rfl (wrap_ok Ox Ox) ?_
  simp only [qz]
  refine rf_field (n := 3) (j := 0) rfl rfl rfl Try.underlying45 rfl Kx rfl ?_
  simp only [qz]
  refine rf_indexA (n := 1) (sz := 1) (j := 1) rfl rfl rfl rfl Try.underlying43 Kx (by decide) rfl ?_
  simp only [qz]
  refine rf_store rfl rfl Kx rfl rfl (UpdR.there _ (UpdR.here _ _ _ Nl)) Nz ?_
  simp only [qz]
  refine rg_nil (ek_block (ek_next ?_))
  refine wk_region [0, 0] rfl Kx ?_
  simp only [qy]
  refine rf_add (r := 2) rfl rfl rfl rfl (by decide) ?_
  simp only [qz]
  refine rg_move ?_
  simp only [qz]
  refine rg_nil (ek_again (wk_seq ?_))
  refine wk_region [0] rfl Kx ?_
  simp only [qy]
  refine rf_lss (b := true) rfl rfl rfl rfl (by decide) ?_
  simp only [qz]
  refine rg_nil (ek_next (wk_seq (wk_cond_t rfl (wk_skip (ek_next (wk_seq (wk_block (wk_seq ?_))))))))
  refine wk_region [0, 0] rfl Kx ?_
  simp only [qy]
  refine rg_move ?_
  simp only [qz]
  refine rg_assign ?_
  simp only [qz]
  refine rg_nil (ek_next ?_)
  refine wk_region [0, 0, 0, 0, 0, 0, 0, 0, 1] rfl Kx ?_
  simp only [qy]
  refine rg_move ?_
  simp only [qz]
  refine rg_move ?_
  simp only [qz]
  refine rf_field (n := 3) (j := 0) rfl rfl rfl Try.underlying45 rfl Kx rfl ?_
  simp only [qz]
  refine rf_indexA (n := 2) (sz := 1) (j := 2) rfl rfl rfl rfl Try.underlying43 Kx (by decide) rfl ?_
  simp only [qz]
  refine rf_load rfl rfl rfl Try.underlying3 rfl (fun w hw => (Kn.hd0 (Kn.tl hw)).at rfl) ?_
  simp only [qz]
  refine rf_neg rfl rfl rfl (wrap_ok Ox Ox) ?_
  simp only [qz]
  refine rf_field (n := 3) (j := 0) rfl rfl rfl Try.underlying45 rfl Kx rfl ?_
  simp only [qz]
  refine rf_indexA (n := 2) (sz := 1) (j := 2) rfl rfl rfl rfl Try.underlying43 Kx (by decide) rfl ?_
  simp only [qz]
  refine rf_store rfl rfl Kx rfl rfl (UpdR.there _ (UpdR.here _ _ _ Nl)) Nz ?_
  simp only [qz]
  refine rg_nil (ek_block (ek_next ?_))
  refine wk_region [0, 0] rfl Kx ?_
  simp only [qy]
  refine rf_add (r := 3) rfl rfl rfl rfl (by decide) ?_
  simp only [qz]
  refine rg_move ?_
  simp only [qz]
  refine rg_nil (ek_again (wk_seq ?_))
  refine wk_region [0] rfl Kx ?_
  simp only [qy]
  refine rf_lss (b := true) rfl rfl rfl rfl (by decide) ?_
  simp only [qz]
  refine rg_nil (ek_next (wk_seq (wk_cond_t rfl (wk_skip (ek_next (wk_seq (wk_block (wk_seq ?_))))))))
  refine wk_region [0, 0] rfl Kx ?_
  simp only [qy]
  refine rg_move ?_
  simp only [qz]
  refine rg_assign ?_
  simp only [qz]
  refine rg_nil (ek_next ?_)
  refine wk_region [0, 0, 0, 0, 0, 0, 0, 0, 1] rfl Kx ?_
  simp only [qy]
  refine rg_move ?_
  simp only [qz]
  refine rg_move ?_
  simp only [qz]
  refine rf_field (n := 3) (j := 0) rfl rfl rfl Try.underlying45 rfl Kx rfl ?_
  simp only [qz]
  refine rf_indexA (n := 3) (sz := 1) (j := 3) rfl rfl rfl rfl Try.underlying43 Kx (by decide) rfl ?_
  simp only [qz]
  refine rf_load rfl rfl rfl Try.underlying3 rfl (fun w hw => (Kn.hd0 (Kn.tl hw)).at rfl) ?_
  simp only [qz]
  refine rf_neg rfl rfl rfl (wrap_ok Ox Ox) ?_
  simp only [qz]
  refine rf_field (n := 3) (j := 0) rfl rfl rfl Try.underlying45 rfl Kx rfl ?_
  simp only [qz]
  refine rf_indexA (n := 3) (sz := 1) (j := 3) rfl rfl rfl rfl Try.underlying43 Kx (by decide) rfl ?_
  simp only [qz]
  refine rf_store rfl rfl Kx rfl rfl (UpdR.there _ (UpdR.here _ _ _ Nl)) Nz ?_
  simp only [qz]
  refine rg_nil (ek_block (ek_next ?_))
  refine wk_region [0, 0] rfl Kx ?_
  simp only [qy]
  refine rf_add (r := 4) rfl rfl rfl rfl (by decide) ?_
  simp only [qz]
  refine rg_move ?_
  simp only [qz]
  refine rg_nil (ek_again (wk_seq ?_))
  refine wk_region [0] rfl Kx ?_
  simp only [qy]
  refine rf_lss (b := false) rfl rfl rfl rfl (by decide) ?_
  simp only [qz]
  refine rg_nil (ek_next (wk_seq (wk_cond_f rfl (wk_exit (ek_then_exit (ek_then_exit (ek_block_exit (ek_next (wk_seq ?_)))))))))
  refine wk_region [0, 1] rfl Kx ?_
  simp only [qy]
  refine rf_loadR (n := 5) rfl rfl rfl Try.underlying45 rfl Kx (fun w hw => Kn.hd0 (Kn.tl hw)) rfl rfl ?_
  simp only [qz]
  refine rf_storeR (n := 5) rfl rfl Kx rfl rfl (UpdR.here _ _ _ Nl) Nz ?_
  simp only [qz, Nat.reduceAdd]
  refine rg_nil (ek_next (wk_ret ?_))
  refine ek_ret (fun w hw => ⟨rfl, _, run_results1 rfl rfl (Kn.hd0 hw) Try.underlying45 rfl Kx, ?_⟩)
  (try simp only [qz])
  first | exact ⟨rfl, hw.below⟩ | exact ⟨trivial, hw.below⟩ | exact hw.below

end Go.Proofs.Ytccbinnlnkpplaa
namespace Go.Proofs.Ytccbinnlnkpplaa
set_option linter.all false
open Go.RowKit

namespace Mul64
theorem maskN (a : Nat) (ha : a < 18446744073709551616) : bits .and .u64 (a : Int) 4294967295 = ((a % 4294967296 : Nat) : Int) := by
  have h := bits_and_u64_nat a 4294967295 ha (by omega)
  have e : a &&& 4294967295 = a % 4294967296 := Nat.and_two_pow_sub_one_eq_mod a 32
  rw [e] at h
  exact h
theorem divN (a : Nat) : (a : Int) / 4294967296 = ((a / 4294967296 : Nat) : Int) := by omega
theorem mulN (a b : Nat) : (a : Int) * (b : Int) = ((a * b : Nat) : Int) := (Int.natCast_mul a b).symm
theorem addN (a b : Nat) : (a : Int) + (b : Int) = ((a + b : Nat) : Int) := (Int.natCast_add a b).symm
theorem wrapN (a : Nat) (ha : a < 18446744073709551616) : IntKind.u64.wrap (a : Int) = (a : Int) := by rw [IntKind.wrap_u64]; omega
theorem wrapM (a : Nat) : IntKind.u64.wrap (a : Int) = ((a % 18446744073709551616 : Nat) : Int) := by rw [IntKind.wrap_u64]; omega
end Mul64

set_option maxHeartbeats 1000000 in
theorem mul64_nat (x y : Nat) (hx : x < 18446744073709551616) (hy : y < 18446744073709551616) (w : World) :
    Calls Try.prog 188 #[.int .u64 x, .int .u64 y] w fun e w' => e = .returned (.tuple #[.int .u64 ((x * y / 18446744073709551616 : Nat) : Int), .int .u64 ((x * y % 18446744073709551616 : Nat) : Int)]) ∧ w = w' := by
  obtain ⟨bd, bt, bw, hhi⟩ := Lib.mul64_hi x y hx hy
  have ba := Lib.half_mul_le (a := x / 4294967296) (b := y / 4294967296) (by omega) (by omega)
  have bb := Lib.half_mul_le (a := x / 4294967296) (b := y % 4294967296) (by omega) (by omega)
  have bc := Lib.half_mul_le (a := x % 4294967296) (b := y / 4294967296) (by omega) (by omega)
  have ba' : x / 4294967296 * (y / 4294967296) < 18446744073709551616 := by omega
  have bb' : x / 4294967296 * (y % 4294967296) < 18446744073709551616 := by omega
  have bc' : x % 4294967296 * (y / 4294967296) < 18446744073709551616 := by omega
  have bh1 : x / 4294967296 * (y / 4294967296) + (x / 4294967296 * (y % 4294967296) + x % 4294967296 * (y % 4294967296) / 4294967296) / 4294967296 < 18446744073709551616 := by omega
  have bh : x / 4294967296 * (y / 4294967296) + (x / 4294967296 * (y % 4294967296) + x % 4294967296 * (y % 4294967296) / 4294967296) / 4294967296 + ((x / 4294967296 * (y % 4294967296) + x % 4294967296 * (y % 4294967296) / 4294967296) % 4294967296 + x % 4294967296 * (y / 4294967296)) / 4294967296 < 18446744073709551616 := by omega
  go_enter Try.func188, Try.ntmps188
  go_wp2
  simp only [Mul64.maskN x hx, Mul64.maskN y hy, Mul64.divN, Mul64.mulN, Mul64.addN, Mul64.wrapN _ bd, Mul64.wrapN _ bb', Mul64.wrapN _ bt, Mul64.maskN _ bt, Mul64.wrapN _ bc', Mul64.wrapN _ bw, Mul64.wrapN _ ba', Mul64.wrapN _ bh1, Mul64.wrapN _ bh, Mul64.wrapM (x * y)]
  rw [hhi]
  go_ret2
  exact ⟨rfl, rfl⟩

/-- math/bits.Mul64 over Int. -/
theorem mul64_any (x y : Int) (hx0 : 0 ≤ x) (hx : x ≤ 18446744073709551615) (hy0 : 0 ≤ y) (hy : y ≤ 18446744073709551615) (w : World) :
    Calls Try.prog 188 #[.int .u64 x, .int .u64 y] w fun e w' => e = .returned (.tuple #[.int .u64 (x * y / 18446744073709551616), .int .u64 (x * y % 18446744073709551616)]) ∧ w = w' := by
  obtain ⟨a, rfl⟩ := Int.eq_ofNat_of_zero_le hx0
  obtain ⟨b, rfl⟩ := Int.eq_ofNat_of_zero_le hy0
  refine (mul64_nat a b (by omega) (by omega) w).mono fun e w' ⟨he, hw⟩ => ⟨?_, hw⟩
  rw [he]
  simp

end Go.Proofs.Ytccbinnlnkpplaa
namespace Go.Proofs.Ytccbinnlnkpplaa
set_option linter.all false
open Go.RowKit
theorem run_Add64 (x y c s r : Int) (hx : 0 ≤ x) (hy : 0 ≤ y) (hc0 : 0 ≤ c) (hc : c ≤ 1) (hs : (x + y + c) % 18446744073709551616 = s) (hr : (x + y + c) / 18446744073709551616 = r) (w : World) :
    (callFunc 186 #[.int .u64 x, .int .u64 y, .int .u64 c]).run Try.prog w = .ok (.value (.tuple #[.int .u64 s, .int .u64 r])) w := by
  rw [run_callFunc_extern Try.func186 Kx Kx Kx (e := add64Entry) Kx, run_add64 x y c hx hy hc0 hc, hs, hr]
  rfl
end Go.Proofs.Ytccbinnlnkpplaa
namespace Go.Proofs.Ytccbinnlnkpplaa
set_option linter.all false
open Go.RowKit

theorem same_pure {P : Program} {f : Nat} {args : Array Value} {w : World} {v : Value} (h : Calls P f args w (fun e w' => e = .returned v ∧ w = w')) : Calls P f args w (fun e w' => e = .returned v ∧ Below w.heap.size w w') :=
  h.mono (by rintro e w' ⟨rfl, rfl⟩; exact ⟨rfl, Below.refl _ _⟩)
theorem nat_sq (n : Int) : (n.natAbs : Int) * (n.natAbs : Int) = n * n := Int.natAbs_mul_self
theorem sgn_pp {a b : Int} (h0 : ¬ (a = 0 ∧ b = 0)) (ha : 0 ≤ a) (hb : 0 ≤ b) : sgnR a b = 1 := by unfold sgnR; rw [if_pos ⟨ha, hb⟩]; omega
theorem sgn_mm {a b : Int} (h0 : ¬ (0 ≤ a ∧ 0 ≤ b)) (ha : a ≤ 0) (hb : b ≤ 0) : sgnR a b = -1 := by unfold sgnR; rw [if_neg h0, if_pos ⟨ha, hb⟩]; omega
theorem sgn_un {a b : Int} (h0 : ¬ (0 ≤ a ∧ 0 ≤ b)) (h1 : ¬ (a ≤ 0 ∧ b ≤ 0)) : sgnR a b = if (decide (2 * (b * b) < a * a) == decide (0 < a)) = true then 1 else -1 := by
  have hi : a * a ≠ 2 * (b * b) := fun e => by
    have hb := irr e
    subst hb
    omega
  unfold sgnR
  rw [if_neg h0, if_neg h1]
  by_cases h2 : 2 * (b * b) < a * a
  · rw [decide_eq_true h2]
    by_cases h3 : 0 < a
    · rw [if_pos h3, decide_eq_true h3, if_neg Ox]; rfl
    rw [if_neg h3, decide_eq_false h3, if_neg Ox]; rfl
  rw [decide_eq_false h2]
  by_cases h3 : 0 < a
  · rw [if_pos h3, decide_eq_true h3, if_pos Ox]; rfl
  rw [if_neg h3, decide_eq_false h3, if_pos Ox]; rfl
theorem addR_fit2 {x y : Nm} (hx : x.Ok) (hy : y.Ok) : (x.addR y).Fit 2097152000000000 := by
  have k0 := hx.k0; have k1 := hx.k1; have l0 := hy.k0; have l1 := hy.k1
  have h1 : (x.to (max x.k y.k)).Fit 1048576000000000 := by unfold Nm.to; exact Nm.up40_fit hx.fit Ox
  have h2 : (y.to (max x.k y.k)).Fit 1048576000000000 := by unfold Nm.to; exact Nm.up40_fit hy.fit Ox
  obtain ⟨a0, a1, b0, b1, c0, c1, d0, d1⟩ := h1
  obtain ⟨p0, p1, q0, q1, r0, r1, s0, s1⟩ := h2
  exact ⟨by show _ ≤ _ + _; omega, by show _ + _ ≤ _; omega, by show _ ≤ _ + _; omega, by show _ + _ ≤ _; omega, by show _ ≤ _ + _; omega, by show _ + _ ≤ _; omega, by show _ ≤ _ + _; omega, by show _ + _ ≤ _; omega⟩
theorem conj_real {z : Nm} : z = z.conj ↔ z.c = 0 ∧ z.b + z.d = 0 := by
  constructor
  · intro h
    have h1 : z.b = -z.d := congrArg Nm.b h
    have h2 : z.c = -z.c := congrArg Nm.c h
    omega
  rintro ⟨h1, h2⟩
  obtain ⟨a, b, c, d, k⟩ := z
  unfold Nm.conj
  dsimp only at h1 h2 ⊢
  congr 1 <;> omega
set_option maxRecDepth 100000 in
set_option maxHeartbeats 1000000 in
theorem ampsize_any (n : Int) (h1 : -9223372036854775807 ≤ n) (h2 : n ≤ 9223372036854775807) (w : World) : Calls Try.prog 209 #[.int .i64 n] w fun e w' => e = .returned (.int .u64 (n.natAbs : Int)) ∧ Below w.heap.size w w' := by
  go_enter Try.func209, Try.ntmps209
  refine wk_start ?_
  refine wk_seq ?_
  refine wk_region [0] rfl Kx ?_
  simp only [qy]
  refine rg_assign ?_
  simp only [qz]
  refine rg_nil (ek_next (wk_seq (wk_seq ?_)))
  refine wk_region [0, 0] rfl Kx ?_
  simp only [qy]
  refine rg_move ?_
  simp only [qz]
  refine rfb_lss rfl rfl rfl rfl ?_
  intro x h1
  cases x
  · (try simp only [qd, ne_eq] at h1)
    simp only [qz]
    refine rg_nil (ek_next (wk_cond_f rfl (wk_skip (ek_next (wk_seq ?_)))))
    refine wk_region [0, 0, 0] rfl Kx ?_
    simp only [qy]
    refine rg_move ?_
    simp only [qz]
    refine rf_conv rfl rfl rfl Try.underlying3 Try.underlying99 (IntKind.wrap_u64 _) ?_
    simp only [qz]
    refine rg_assign ?_
    simp only [qz]
    refine rg_nil (ek_next (wk_ret ?_))
    refine ek_ret (fun w hw => ⟨rfl, _, res_t _ rfl, ?_⟩)
    (try simp only [qz])
    exact ⟨by congr 2; (try rw [IntKind.wrap_u64, IntKind.wrap_u64]); omega, hw.below⟩
  (try simp only [qd, ne_eq] at h1)
  simp only [qz]
  refine rg_nil (ek_next (wk_cond_t rfl (wk_seq ?_)))
  refine wk_region [0, 0, 0, 0] rfl Kx ?_
  simp only [qy]
  refine rg_move ?_
  simp only [qz]
  refine rf_conv rfl rfl rfl Try.underlying3 Try.underlying99 (IntKind.wrap_u64 _) ?_
  simp only [qz]
  refine rf_neg rfl rfl rfl (IntKind.wrap_u64 _) ?_
  simp only [qz]
  refine rg_assign ?_
  simp only [qz]
  refine rg_nil (ek_next (wk_ret (ek_then_ret ?_)))
  refine ek_ret (fun w hw => ⟨rfl, _, res_t _ rfl, ?_⟩)
  (try simp only [qz])
  exact ⟨by congr 2; (try rw [IntKind.wrap_u64, IntKind.wrap_u64]); omega, hw.below⟩

set_option maxRecDepth 100000 in
set_option maxHeartbeats 1000000 in
theorem ampsquare_any (n : Int) (h1 : -4611686018427387904 ≤ n) (h2 : n ≤ 4611686018427387904) (w : World) : Calls Try.prog 185 #[.int .i64 n] w fun e w' => e = .returned (.tuple #[.int .u64 (n * n / 18446744073709551616), .int .u64 (n * n % 18446744073709551616)]) ∧ Below w.heap.size w w' := by
  go_enter Try.func185, Try.ntmps185
  refine wk_start ?_
  refine wk_seq ?_
  refine wk_region [0, 0] rfl Kx ?_
  simp only [qy]
  refine rg_assign ?_
  simp only [qz]
  refine rg_assign ?_
  simp only [qz]
  refine rg_nil (ek_next (wk_seq ?_))
  refine wk_region [0, 1, 0, 1, 1, 0, 0, 0, 0] rfl Kx ?_
  simp only [qy]
  refine rg_move ?_
  simp only [qz]
  apply rg_pure Rx Kx
  case hargs => exact Ax
  case h => exact fun w hw => ampsize_any n Ox Ox w
  case hz => exact Nz
  simp only [qz]
  refine rg_move ?_
  simp only [qz]
  apply rg_pure Rx Kx
  case hargs => exact Ax
  case h => exact fun w hw => ampsize_any n Ox Ox w
  case hz => exact Nz
  simp only [qz]
  apply rg_pure Rx Kx
  case hargs => exact Ax
  case h => exact fun w hw => by have := same_pure (mul64_any n.natAbs n.natAbs Ox Ox Ox Ox w); rw [nat_sq] at this; exact this
  case hz => exact Nz
  simp only [qz]
  refine rf_extract rfl rfl rfl rfl ?_
  simp only [qz]
  refine rf_extract rfl rfl rfl rfl ?_
  simp only [qz]
  refine rg_assign ?_
  simp only [qz]
  refine rg_assign ?_
  simp only [qz]
  refine rg_nil (ek_next (wk_ret ?_))
  refine ek_ret (fun w hw => ⟨rfl, _, res_tt _ _ rfl, ?_⟩)
  (try simp only [qz])
  first | exact ⟨rfl, hw.below⟩ | exact ⟨trivial, hw.below⟩ | exact hw.below

set_option maxRecDepth 100000 in
set_option maxHeartbeats 4000000 in
theorem ampsign_any (a b : Int) (aa1 : -1152921504606846976 ≤ a) (aa2 : a ≤ 1152921504606846976) (bb1 : -1152921504606846976 ≤ b) (bb2 : b ≤ 1152921504606846976) (w : World) : Calls Try.prog 140 #[.int .i64 a, .int .i64 b] w fun e w' => e = .returned (.int .i64 (sgnR a b)) ∧ Below w.heap.size w w' := by
  have ka := sqn a
  have kb := sqn b
  have ka2 : a * a ≤ 1152921504606846976 * 1152921504606846976 := by rcases Int.le_total 0 a with h0 | h0; exact sq_mono h0 Ox; exact Int.le_trans (sq_monoN (y := -1152921504606846976) h0 Ox) (by decide)
  have kb2 : b * b ≤ 1152921504606846976 * 1152921504606846976 := by rcases Int.le_total 0 b with h0 | h0; exact sq_mono h0 Ox; exact Int.le_trans (sq_monoN (y := -1152921504606846976) h0 Ox) (by decide)
  obtain ⟨A, hA⟩ : ∃ x, a * a = x := ⟨_, rfl⟩
  obtain ⟨B, hB⟩ : ∃ x, b * b = x := ⟨_, rfl⟩
  rw [hA] at ka ka2
  rw [hB] at kb kb2
  obtain ⟨hi1, hh1⟩ : ∃ x, A / 18446744073709551616 = x := ⟨_, rfl⟩
  obtain ⟨lo1, hl1⟩ : ∃ x, A % 18446744073709551616 = x := ⟨_, rfl⟩
  obtain ⟨hi2, hh2⟩ : ∃ x, B / 18446744073709551616 = x := ⟨_, rfl⟩
  obtain ⟨lo2, hl2⟩ : ∃ x, B % 18446744073709551616 = x := ⟨_, rfl⟩
  obtain ⟨L, hL⟩ : ∃ x, (lo2 + lo2 + 0) % 18446744073709551616 = x := ⟨_, rfl⟩
  obtain ⟨C, hC⟩ : ∃ x, (lo2 + lo2 + 0) / 18446744073709551616 = x := ⟨_, rfl⟩
  obtain ⟨H, hH⟩ : ∃ x, hi2 + hi2 + C = x := ⟨_, rfl⟩
  have hHL : 2 * B = H * 18446744073709551616 + L := by omega
  have hA1 : A = hi1 * 18446744073709551616 + lo1 := by omega
  go_enter Try.func140, Try.ntmps140
  refine wk_start ?_
  refine wk_seq ?_
  refine wk_region [0] rfl Kx ?_
  simp only [qy]
  refine rg_assign ?_
  simp only [qz]
  refine rg_nil (ek_next ?_)
  refine wk_cutF [4, 10, 11, 12, 13, 14, 15, 16, 17, 18, 19, 20, 21, 22, 23, 24, 25, 26, 27, 28, 29, 30] (fun f s => s = [] ∧ ¬ (0 ≤ a ∧ 0 ≤ b) ∧ ¬ (a ≤ 0 ∧ b ≤ 0)) ?_ ?_
  · refine wk_block (wk_seq ?_)
    refine wk_region [0, 0, 0, 0, 0, 0, 0] rfl Kx ?_
    simp only [qy]
    refine rg_move ?_
    simp only [qz]
    refine rfb_eql rfl rfl rfl rfl ?_
    intro x h1
    cases x
    · (try simp only [qd, ne_eq] at h1)
      simp only [qz]
      refine rg_move ?_
      simp only [qz]
      refine rg_skip Rx ?_
      simp only [qz]
      refine rg_skip Rx ?_
      simp only [qz]
      refine rf_pick rfl rfl rfl ?_
      simp only [qz]
      refine rg_assign ?_
      simp only [qz]
      refine rg_nil (ek_next (wk_cond_f rfl (wk_seq ?_)))
      refine wk_region [0, 0, 0, 0, 0, 0, 0] rfl Kx ?_
      simp only [qy]
      refine rg_move ?_
      simp only [qz]
      refine rfb_geq rfl rfl rfl rfl ?_
      intro x h2
      cases x
      · (try simp only [qd, ne_eq] at h2)
        simp only [qz]
        refine rg_move ?_
        simp only [qz]
        refine rg_skip Rx ?_
        simp only [qz]
        refine rg_skip Rx ?_
        simp only [qz]
        refine rf_pick rfl rfl rfl ?_
        simp only [qz]
        refine rg_assign ?_
        simp only [qz]
        refine rg_nil (ek_next (wk_cond_f rfl (wk_seq ?_)))
        refine wk_region [0, 0, 0, 0, 0, 0, 0] rfl Kx ?_
        simp only [qy]
        refine rg_move ?_
        simp only [qz]
        refine rfb_leq rfl rfl rfl rfl ?_
        intro x h3
        cases x
        · (try simp only [qd, ne_eq] at h3)
          simp only [qz]
          refine rg_move ?_
          simp only [qz]
          refine rg_skip Rx ?_
          simp only [qz]
          refine rg_skip Rx ?_
          simp only [qz]
          refine rf_pick rfl rfl rfl ?_
          simp only [qz]
          refine rg_assign ?_
          simp only [qz]
          refine rg_nil (ek_next (wk_cond_f rfl (wk_skip (ek_block ?_))))
          refine ek_midF Kx ?_
          exact ⟨by rfl, Ox, Ox⟩
        (try simp only [qd, ne_eq] at h3)
        simp only [qz]
        refine rg_move ?_
        simp only [qz]
        apply rg_soft_g
        case hg => rfl
        case hy => (intro w hw; go_simp; (try go_bits); exact Yld.mk _ _)
        simp only [qz]
        refine rfb_leq rfl rfl rfl rfl ?_
        intro x h4
        cases x
        · (try simp only [qd, ne_eq] at h4)
          simp only [qz]
          refine rf_pick rfl rfl rfl ?_
          simp only [qz]
          refine rg_assign ?_
          simp only [qz]
          refine rg_nil (ek_next (wk_cond_f rfl (wk_skip (ek_block ?_))))
          refine ek_midF Kx ?_
          exact ⟨by rfl, Ox, Ox⟩
        (try simp only [qd, ne_eq] at h4)
        simp only [qz]
        refine rf_pick rfl rfl rfl ?_
        simp only [qz]
        refine rg_assign ?_
        simp only [qz]
        refine rg_nil (ek_next (wk_cond_t rfl (wk_seq ?_)))
        refine wk_region [0] rfl Kx ?_
        simp only [qy]
        refine rg_assign ?_
        simp only [qz]
        refine rg_nil (ek_next (wk_ret (ek_block_ret (ek_then_ret ?_))))
        refine ek_ret (fun w hw => ⟨rfl, _, res_t _ rfl, ?_⟩)
        (try simp only [qz])
        exact ⟨by rw [sgn_mm Ox Ox Ox], hw.below⟩
      (try simp only [qd, ne_eq] at h2)
      simp only [qz]
      refine rg_move ?_
      simp only [qz]
      apply rg_soft_g
      case hg => rfl
      case hy => (intro w hw; go_simp; (try go_bits); exact Yld.mk _ _)
      simp only [qz]
      refine rfb_geq rfl rfl rfl rfl ?_
      intro x h5
      cases x
      · (try simp only [qd, ne_eq] at h5)
        simp only [qz]
        refine rf_pick rfl rfl rfl ?_
        simp only [qz]
        refine rg_assign ?_
        simp only [qz]
        refine rg_nil (ek_next (wk_cond_f rfl (wk_seq ?_)))
        refine wk_region [0, 0, 0, 0, 0, 0, 0] rfl Kx ?_
        simp only [qy]
        refine rg_move ?_
        simp only [qz]
        refine rfb_leq rfl rfl rfl rfl ?_
        intro x h6
        cases x
        · (try simp only [qd, ne_eq] at h6)
          simp only [qz]
          refine rg_move ?_
          simp only [qz]
          refine rg_skip Rx ?_
          simp only [qz]
          refine rg_skip Rx ?_
          simp only [qz]
          refine rf_pick rfl rfl rfl ?_
          simp only [qz]
          refine rg_assign ?_
          simp only [qz]
          refine rg_nil (ek_next (wk_cond_f rfl (wk_skip (ek_block ?_))))
          refine ek_midF Kx ?_
          exact ⟨by rfl, Ox, Ox⟩
        (try simp only [qd, ne_eq] at h6)
        simp only [qz]
        refine rg_move ?_
        simp only [qz]
        apply rg_soft_g
        case hg => rfl
        case hy => (intro w hw; go_simp; (try go_bits); exact Yld.mk _ _)
        simp only [qz]
        refine rfb_leq rfl rfl rfl rfl ?_
        intro x h7
        cases x
        · (try simp only [qd, ne_eq] at h7)
          simp only [qz]
          refine rf_pick rfl rfl rfl ?_
          simp only [qz]
          refine rg_assign ?_
          simp only [qz]
          refine rg_nil (ek_next (wk_cond_f rfl (wk_skip (ek_block ?_))))
          refine ek_midF Kx ?_
          exact ⟨by rfl, Ox, Ox⟩
        (try simp only [qd, ne_eq] at h7)
        simp only [qz]
        refine rf_pick rfl rfl rfl ?_
        simp only [qz]
        refine rg_assign ?_
        simp only [qz]
        refine rg_nil (ek_next (wk_cond_t rfl (wk_seq ?_)))
        refine wk_region [0] rfl Kx ?_
        simp only [qy]
        refine rg_assign ?_
        simp only [qz]
        refine rg_nil (ek_next (wk_ret (ek_block_ret (ek_then_ret ?_))))
        refine ek_ret (fun w hw => ⟨rfl, _, res_t _ rfl, ?_⟩)
        (try simp only [qz])
        exact ⟨by rw [sgn_mm Ox Ox Ox], hw.below⟩
      (try simp only [qd, ne_eq] at h5)
      simp only [qz]
      refine rf_pick rfl rfl rfl ?_
      simp only [qz]
      refine rg_assign ?_
      simp only [qz]
      refine rg_nil (ek_next (wk_cond_t rfl (wk_seq ?_)))
      refine wk_region [0] rfl Kx ?_
      simp only [qy]
      refine rg_assign ?_
      simp only [qz]
      refine rg_nil (ek_next (wk_ret (ek_block_ret (ek_then_ret ?_))))
      refine ek_ret (fun w hw => ⟨rfl, _, res_t _ rfl, ?_⟩)
      (try simp only [qz])
      exact ⟨by rw [sgn_pp Ox Ox Ox], hw.below⟩
    (try simp only [qd, ne_eq] at h1)
    simp only [qz]
    refine rg_move ?_
    simp only [qz]
    apply rg_soft_g
    case hg => rfl
    case hy => (intro w hw; go_simp; (try go_bits); exact Yld.mk _ _)
    simp only [qz]
    refine rfb_eql rfl rfl rfl rfl ?_
    intro x h8
    cases x
    · (try simp only [qd, ne_eq] at h8)
      simp only [qz]
      refine rf_pick rfl rfl rfl ?_
      simp only [qz]
      refine rg_assign ?_
      simp only [qz]
      refine rg_nil (ek_next (wk_cond_f rfl (wk_seq ?_)))
      refine wk_region [0, 0, 0, 0, 0, 0, 0] rfl Kx ?_
      simp only [qy]
      refine rg_move ?_
      simp only [qz]
      refine rfb_geq rfl rfl rfl rfl ?_
      intro x h9
      cases x
      · (try simp only [qd, ne_eq] at h9)
        simp only [qz]
        refine rg_move ?_
        simp only [qz]
        refine rg_skip Rx ?_
        simp only [qz]
        refine rg_skip Rx ?_
        simp only [qz]
        refine rf_pick rfl rfl rfl ?_
        simp only [qz]
        refine rg_assign ?_
        simp only [qz]
        refine rg_nil (ek_next (wk_cond_f rfl (wk_seq ?_)))
        refine wk_region [0, 0, 0, 0, 0, 0, 0] rfl Kx ?_
        simp only [qy]
        refine rg_move ?_
        simp only [qz]
        refine rfb_leq rfl rfl rfl rfl ?_
        intro x h10
        cases x
        · (try simp only [qd, ne_eq] at h10)
          simp only [qz]
          refine rg_move ?_
          simp only [qz]
          refine rg_skip Rx ?_
          simp only [qz]
          refine rg_skip Rx ?_
          simp only [qz]
          refine rf_pick rfl rfl rfl ?_
          simp only [qz]
          refine rg_assign ?_
          simp only [qz]
          refine rg_nil (ek_next (wk_cond_f rfl (wk_skip (ek_block ?_))))
          refine ek_midF Kx ?_
          exact ⟨by rfl, Ox, Ox⟩
        (try simp only [qd, ne_eq] at h10)
        simp only [qz]
        refine rg_move ?_
        simp only [qz]
        apply rg_soft_g
        case hg => rfl
        case hy => (intro w hw; go_simp; (try go_bits); exact Yld.mk _ _)
        simp only [qz]
        refine rfb_leq rfl rfl rfl rfl ?_
        intro x h11
        cases x
        · (try simp only [qd, ne_eq] at h11)
          simp only [qz]
          refine rf_pick rfl rfl rfl ?_
          simp only [qz]
          refine rg_assign ?_
          simp only [qz]
          refine rg_nil (ek_next (wk_cond_f rfl (wk_skip (ek_block ?_))))
          refine ek_midF Kx ?_
          exact ⟨by rfl, Ox, Ox⟩
        (try simp only [qd, ne_eq] at h11)
        simp only [qz]
        refine rf_pick rfl rfl rfl ?_
        simp only [qz]
        refine rg_assign ?_
        simp only [qz]
        refine rg_nil (ek_next (wk_cond_t rfl (wk_seq ?_)))
        refine wk_region [0] rfl Kx ?_
        simp only [qy]
        refine rg_assign ?_
        simp only [qz]
        refine rg_nil (ek_next (wk_ret (ek_block_ret (ek_then_ret ?_))))
        refine ek_ret (fun w hw => ⟨rfl, _, res_t _ rfl, ?_⟩)
        (try simp only [qz])
        exact ⟨by rw [sgn_mm Ox Ox Ox], hw.below⟩
      (try simp only [qd, ne_eq] at h9)
      simp only [qz]
      refine rg_move ?_
      simp only [qz]
      apply rg_soft_g
      case hg => rfl
      case hy => (intro w hw; go_simp; (try go_bits); exact Yld.mk _ _)
      simp only [qz]
      refine rfb_geq rfl rfl rfl rfl ?_
      intro x h12
      cases x
      · (try simp only [qd, ne_eq] at h12)
        simp only [qz]
        refine rf_pick rfl rfl rfl ?_
        simp only [qz]
        refine rg_assign ?_
        simp only [qz]
        refine rg_nil (ek_next (wk_cond_f rfl (wk_seq ?_)))
        refine wk_region [0, 0, 0, 0, 0, 0, 0] rfl Kx ?_
        simp only [qy]
        refine rg_move ?_
        simp only [qz]
        refine rfb_leq rfl rfl rfl rfl ?_
        intro x h13
        cases x
        · (try simp only [qd, ne_eq] at h13)
          simp only [qz]
          refine rg_move ?_
          simp only [qz]
          refine rg_skip Rx ?_
          simp only [qz]
          refine rg_skip Rx ?_
          simp only [qz]
          refine rf_pick rfl rfl rfl ?_
          simp only [qz]
          refine rg_assign ?_
          simp only [qz]
          refine rg_nil (ek_next (wk_cond_f rfl (wk_skip (ek_block ?_))))
          refine ek_midF Kx ?_
          exact ⟨by rfl, Ox, Ox⟩
        (try simp only [qd, ne_eq] at h13)
        simp only [qz]
        refine rg_move ?_
        simp only [qz]
        apply rg_soft_g
        case hg => rfl
        case hy => (intro w hw; go_simp; (try go_bits); exact Yld.mk _ _)
        simp only [qz]
        refine rfb_leq rfl rfl rfl rfl ?_
        intro x h14
        cases x
        · (try simp only [qd, ne_eq] at h14)
          simp only [qz]
          refine rf_pick rfl rfl rfl ?_
          simp only [qz]
          refine rg_assign ?_
          simp only [qz]
          refine rg_nil (ek_next (wk_cond_f rfl (wk_skip (ek_block ?_))))
          refine ek_midF Kx ?_
          exact ⟨by rfl, Ox, Ox⟩
        (try simp only [qd, ne_eq] at h14)
        simp only [qz]
        refine rf_pick rfl rfl rfl ?_
        simp only [qz]
        refine rg_assign ?_
        simp only [qz]
        refine rg_nil (ek_next (wk_cond_t rfl (wk_seq ?_)))
        refine wk_region [0] rfl Kx ?_
        simp only [qy]
        refine rg_assign ?_
        simp only [qz]
        refine rg_nil (ek_next (wk_ret (ek_block_ret (ek_then_ret ?_))))
        refine ek_ret (fun w hw => ⟨rfl, _, res_t _ rfl, ?_⟩)
        (try simp only [qz])
        exact ⟨by rw [sgn_mm Ox Ox Ox], hw.below⟩
      (try simp only [qd, ne_eq] at h12)
      simp only [qz]
      refine rf_pick rfl rfl rfl ?_
      simp only [qz]
      refine rg_assign ?_
      simp only [qz]
      refine rg_nil (ek_next (wk_cond_t rfl (wk_seq ?_)))
      refine wk_region [0] rfl Kx ?_
      simp only [qy]
      refine rg_assign ?_
      simp only [qz]
      refine rg_nil (ek_next (wk_ret (ek_block_ret (ek_then_ret ?_))))
      refine ek_ret (fun w hw => ⟨rfl, _, res_t _ rfl, ?_⟩)
      (try simp only [qz])
      exact ⟨by rw [sgn_pp Ox Ox Ox], hw.below⟩
    (try simp only [qd, ne_eq] at h8)
    simp only [qz]
    refine rf_pick rfl rfl rfl ?_
    simp only [qz]
    refine rg_assign ?_
    simp only [qz]
    refine rg_nil (ek_next (wk_cond_t rfl (wk_seq ?_)))
    refine wk_region [0] rfl Kx ?_
    simp only [qy]
    refine rg_assign ?_
    simp only [qz]
    refine rg_nil (ek_next (wk_ret (ek_block_ret (ek_then_ret ?_))))
    refine ek_ret (fun w hw => ⟨rfl, _, res_t _ rfl, ?_⟩)
    (try simp only [qz])
    exact ⟨by rw [(sgnR_zero a b).2 ⟨by omega, by omega⟩], hw.below⟩
  rintro f1 s ⟨rfl, hm1, hm2⟩
  simp only [Act.putF, List.foldl_cons, List.foldl_nil, Act.put, Act.eval, q1, q2, q3, q4, q5, q6, q7, q8, q9, q10, q11, q12, q13, q14, q15, q16, q17, q18, Nat.reduceAdd, Bool.not_true, Bool.not_false]
  refine wk_seq ?_
  refine wk_region [0, 1, 0, 0, 0, 0, 0] rfl Kx ?_
  simp only [qy]
  refine rg_move ?_
  simp only [qz]
  apply rg_pure Rx Kx
  case hargs => exact Ax
  case h => exact fun w hw => by have := ampsquare_any a Ox Ox w; rw [hA, hh1, hl1] at this; exact this
  case hz => exact Nz
  simp only [qz]
  refine rg_move ?_
  simp only [qz]
  refine rf_extract rfl rfl rfl rfl ?_
  simp only [qz]
  refine rf_extract rfl rfl rfl rfl ?_
  simp only [qz]
  refine rg_assign ?_
  simp only [qz]
  refine rg_assign ?_
  simp only [qz]
  refine rg_nil (ek_next (wk_seq ?_))
  refine wk_region [0, 1, 0, 0, 0, 0, 0] rfl Kx ?_
  simp only [qy]
  refine rg_move ?_
  simp only [qz]
  apply rg_pure Rx Kx
  case hargs => exact Ax
  case h => exact fun w hw => by have := ampsquare_any b Ox Ox w; rw [hB, hh2, hl2] at this; exact this
  case hz => exact Nz
  simp only [qz]
  refine rg_move ?_
  simp only [qz]
  refine rf_extract rfl rfl rfl rfl ?_
  simp only [qz]
  refine rf_extract rfl rfl rfl rfl ?_
  simp only [qz]
  refine rg_assign ?_
  simp only [qz]
  refine rg_assign ?_
  simp only [qz]
  refine rg_nil (ek_next (wk_seq ?_))
  refine wk_region [0, 0, 1, 0, 0, 0, 0, 0] rfl Kx ?_
  simp only [qy]
  refine rg_move ?_
  simp only [qz]
  refine rg_move ?_
  simp only [qz]
  apply rg_ext Rx
  case hargs => exact Ax
  case h => exact fun w => run_Add64 lo2 lo2 0 L C Ox Ox Ox Ox Ox Ox w
  case hz => exact Nz
  simp only [qz]
  refine rg_move ?_
  simp only [qz]
  refine rf_extract rfl rfl rfl rfl ?_
  simp only [qz]
  refine rf_extract rfl rfl rfl rfl ?_
  simp only [qz]
  refine rg_assign ?_
  simp only [qz]
  refine rg_assign ?_
  simp only [qz]
  refine rg_nil (ek_next (wk_seq ?_))
  refine wk_region [0, 0, 0, 1, 0, 0, 0, 0] rfl Kx ?_
  simp only [qy]
  refine rg_move ?_
  simp only [qz]
  refine rg_move ?_
  simp only [qz]
  refine rg_move ?_
  simp only [qz]
  apply rg_ext Rx
  case hargs => exact Ax
  case h => exact fun w => run_Add64 hi2 hi2 C H 0 Ox Ox Ox Ox Ox Ox w
  case hz => exact Nz
  simp only [qz]
  refine rg_move ?_
  simp only [qz]
  refine rf_extract rfl rfl rfl rfl ?_
  simp only [qz]
  refine rf_extract rfl rfl rfl rfl ?_
  simp only [qz]
  refine rg_assign ?_
  simp only [qz]
  refine rg_nil (ek_next (wk_seq (wk_seq ?_)))
  refine wk_region [0, 0, 0, 0, 0, 0, 0, 0, 0, 0, 0, 0, 0, 0, 0, 0] rfl Kx ?_
  simp only [qy]
  refine rg_move ?_
  simp only [qz]
  refine rg_move ?_
  simp only [qz]
  refine rfb_gtr rfl rfl rfl rfl ?_
  intro x h15
  cases x
  · (try simp only [qd, ne_eq] at h15)
    simp only [qz]
    refine rg_move ?_
    simp only [qz]
    apply rg_soft_g
    case hg => rfl
    case hy => (intro w hw; go_simp; (try go_bits); exact Yld.mk _ _)
    simp only [qz]
    apply rg_soft_g
    case hg => rfl
    case hy => (intro w hw; go_simp; (try go_bits); exact Yld.mk _ _)
    simp only [qz]
    refine rfb_eql rfl rfl rfl rfl ?_
    intro x h16
    cases x
    · (try simp only [qd, ne_eq] at h16)
      simp only [qz]
      apply rg_soft_g
      case hg => rfl
      case hy => (intro w hw; go_simp; (try go_bits); exact Yld.mk _ _)
      simp only [qz]
      refine rg_skip Rx ?_
      simp only [qz]
      refine rg_skip Rx ?_
      simp only [qz]
      refine rg_skip Rx ?_
      simp only [qz]
      refine rf_pick rfl rfl rfl ?_
      simp only [qz]
      refine rf_pick rfl rfl rfl ?_
      simp only [qz]
      refine rg_move ?_
      simp only [qz]
      refine rfb_gtr rfl rfl rfl rfl ?_
      intro x h17
      cases x
      · (try simp only [qd, ne_eq] at h17)
        simp only [qz]
        apply rg_soft
        case hy => (intro w hw; go_simp; (try go_bits); exact Yld.mk _ _)
        simp only [qz]
        refine rg_nil (ek_next (wk_cond_t rfl (wk_seq ?_)))
        refine wk_region [0] rfl Kx ?_
        simp only [qy]
        refine rg_assign ?_
        simp only [qz]
        refine rg_nil (ek_next (wk_ret (ek_then_ret ?_)))
        refine ek_ret (fun w hw => ⟨rfl, _, res_t _ rfl, ?_⟩)
        (try simp only [qz])
        exact ⟨by rw [sgn_un Ox Ox, hA, hB, decide_eq_false Ox, decide_eq_false Ox]; rfl, hw.below⟩
      (try simp only [qd, ne_eq] at h17)
      simp only [qz]
      apply rg_soft
      case hy => (intro w hw; go_simp; (try go_bits); exact Yld.mk _ _)
      simp only [qz]
      refine rg_nil (ek_next (wk_cond_f rfl (wk_skip (ek_next (wk_seq ?_)))))
      refine wk_region [0] rfl Kx ?_
      simp only [qy]
      refine rg_assign ?_
      simp only [qz]
      refine rg_nil (ek_next (wk_ret ?_))
      refine ek_ret (fun w hw => ⟨rfl, _, res_t _ rfl, ?_⟩)
      (try simp only [qz])
      exact ⟨by rw [sgn_un Ox Ox, hA, hB, decide_eq_false Ox, decide_eq_true Ox]; rfl, hw.below⟩
    (try simp only [qd, ne_eq] at h16)
    simp only [qz]
    apply rg_soft_g
    case hg => rfl
    case hy => (intro w hw; go_simp; (try go_bits); exact Yld.mk _ _)
    simp only [qz]
    apply rg_soft_g
    case hg => rfl
    case hy => (intro w hw; go_simp; (try go_bits); exact Yld.mk _ _)
    simp only [qz]
    apply rg_soft_g
    case hg => rfl
    case hy => (intro w hw; go_simp; (try go_bits); exact Yld.mk _ _)
    simp only [qz]
    refine rfb_gtr rfl rfl rfl rfl ?_
    intro x h18
    cases x
    · (try simp only [qd, ne_eq] at h18)
      simp only [qz]
      refine rf_pick rfl rfl rfl ?_
      simp only [qz]
      refine rf_pick rfl rfl rfl ?_
      simp only [qz]
      refine rg_move ?_
      simp only [qz]
      refine rfb_gtr rfl rfl rfl rfl ?_
      intro x h19
      cases x
      · (try simp only [qd, ne_eq] at h19)
        simp only [qz]
        apply rg_soft
        case hy => (intro w hw; go_simp; (try go_bits); exact Yld.mk _ _)
        simp only [qz]
        refine rg_nil (ek_next (wk_cond_t rfl (wk_seq ?_)))
        refine wk_region [0] rfl Kx ?_
        simp only [qy]
        refine rg_assign ?_
        simp only [qz]
        refine rg_nil (ek_next (wk_ret (ek_then_ret ?_)))
        refine ek_ret (fun w hw => ⟨rfl, _, res_t _ rfl, ?_⟩)
        (try simp only [qz])
        exact ⟨by rw [sgn_un Ox Ox, hA, hB, decide_eq_false Ox, decide_eq_false Ox]; rfl, hw.below⟩
      (try simp only [qd, ne_eq] at h19)
      simp only [qz]
      apply rg_soft
      case hy => (intro w hw; go_simp; (try go_bits); exact Yld.mk _ _)
      simp only [qz]
      refine rg_nil (ek_next (wk_cond_f rfl (wk_skip (ek_next (wk_seq ?_)))))
      refine wk_region [0] rfl Kx ?_
      simp only [qy]
      refine rg_assign ?_
      simp only [qz]
      refine rg_nil (ek_next (wk_ret ?_))
      refine ek_ret (fun w hw => ⟨rfl, _, res_t _ rfl, ?_⟩)
      (try simp only [qz])
      exact ⟨by rw [sgn_un Ox Ox, hA, hB, decide_eq_false Ox, decide_eq_true Ox]; rfl, hw.below⟩
    (try simp only [qd, ne_eq] at h18)
    simp only [qz]
    refine rf_pick rfl rfl rfl ?_
    simp only [qz]
    refine rf_pick rfl rfl rfl ?_
    simp only [qz]
    refine rg_move ?_
    simp only [qz]
    refine rfb_gtr rfl rfl rfl rfl ?_
    intro x h20
    cases x
    · (try simp only [qd, ne_eq] at h20)
      simp only [qz]
      apply rg_soft
      case hy => (intro w hw; go_simp; (try go_bits); exact Yld.mk _ _)
      simp only [qz]
      refine rg_nil (ek_next (wk_cond_f rfl (wk_skip (ek_next (wk_seq ?_)))))
      refine wk_region [0] rfl Kx ?_
      simp only [qy]
      refine rg_assign ?_
      simp only [qz]
      refine rg_nil (ek_next (wk_ret ?_))
      refine ek_ret (fun w hw => ⟨rfl, _, res_t _ rfl, ?_⟩)
      (try simp only [qz])
      exact ⟨by rw [sgn_un Ox Ox, hA, hB, decide_eq_true Ox, decide_eq_false Ox]; rfl, hw.below⟩
    (try simp only [qd, ne_eq] at h20)
    simp only [qz]
    apply rg_soft
    case hy => (intro w hw; go_simp; (try go_bits); exact Yld.mk _ _)
    simp only [qz]
    refine rg_nil (ek_next (wk_cond_t rfl (wk_seq ?_)))
    refine wk_region [0] rfl Kx ?_
    simp only [qy]
    refine rg_assign ?_
    simp only [qz]
    refine rg_nil (ek_next (wk_ret (ek_then_ret ?_)))
    refine ek_ret (fun w hw => ⟨rfl, _, res_t _ rfl, ?_⟩)
    (try simp only [qz])
    exact ⟨by rw [sgn_un Ox Ox, hA, hB, decide_eq_true Ox, decide_eq_true Ox]; rfl, hw.below⟩
  (try simp only [qd, ne_eq] at h15)
  simp only [qz]
  refine rg_move ?_
  simp only [qz]
  refine rg_skip Rx ?_
  simp only [qz]
  refine rg_skip Rx ?_
  simp only [qz]
  refine rg_skip Rx ?_
  simp only [qz]
  refine rg_skip Rx ?_
  simp only [qz]
  refine rg_skip Rx ?_
  simp only [qz]
  refine rg_skip Rx ?_
  simp only [qz]
  refine rg_skip Rx ?_
  simp only [qz]
  refine rg_skip Rx ?_
  simp only [qz]
  refine rf_pick rfl rfl rfl ?_
  simp only [qz]
  refine rg_move ?_
  simp only [qz]
  refine rfb_gtr rfl rfl rfl rfl ?_
  intro x h21
  cases x
  · (try simp only [qd, ne_eq] at h21)
    simp only [qz]
    apply rg_soft
    case hy => (intro w hw; go_simp; (try go_bits); exact Yld.mk _ _)
    simp only [qz]
    refine rg_nil (ek_next (wk_cond_f rfl (wk_skip (ek_next (wk_seq ?_)))))
    refine wk_region [0] rfl Kx ?_
    simp only [qy]
    refine rg_assign ?_
    simp only [qz]
    refine rg_nil (ek_next (wk_ret ?_))
    refine ek_ret (fun w hw => ⟨rfl, _, res_t _ rfl, ?_⟩)
    (try simp only [qz])
    exact ⟨by rw [sgn_un Ox Ox, hA, hB, decide_eq_true Ox, decide_eq_false Ox]; rfl, hw.below⟩
  (try simp only [qd, ne_eq] at h21)
  simp only [qz]
  apply rg_soft
  case hy => (intro w hw; go_simp; (try go_bits); exact Yld.mk _ _)
  simp only [qz]
  refine rg_nil (ek_next (wk_cond_t rfl (wk_seq ?_)))
  refine wk_region [0] rfl Kx ?_
  simp only [qy]
  refine rg_assign ?_
  simp only [qz]
  refine rg_nil (ek_next (wk_ret (ek_then_ret ?_)))
  refine ek_ret (fun w hw => ⟨rfl, _, res_t _ rfl, ?_⟩)
  (try simp only [qz])
  exact ⟨by rw [sgn_un Ox Ox, hA, hB, decide_eq_true Ox, decide_eq_true Ox]; rfl, hw.below⟩

set_option maxRecDepth 100000 in
set_option maxHeartbeats 1000000 in
theorem ampReal_any (z : Nm) (w : World) : Calls Try.prog 81 #[nmV z] w fun e w' => e = .returned (if z.okB = true then .tuple #[.bool (decide (z = z.conj)), .int .i64 0] else .tuple #[.bool false, .int .i64 10]) ∧ Below w.heap.size w w' := by
  go_enter Try.func81, Try.ntmps81
  refine wk_start ?_
  refine wk_seq ?_
  refine wk_region [1, 0, 0] rfl Kx ?_
  simp only [qy]
  refine Rgn fun g1 => ?_
  simp only [qz]
  refine rg_assign ?_
  simp only [qz]
  refine rg_assign ?_
  simp only [qz]
  refine rg_nil (ek_next (wk_seq (wk_seq ?_)))
  refine wk_region [0, 1, 0] rfl Kx ?_
  simp only [qy]
  refine rf_loadR (n := 5) rfl rfl rfl Try.underlying45 rfl Kx (fun w hw => Kn.hd0 hw) rfl rfl ?_
  simp only [qz]
  apply rg_pureb Rx Kx
  case hargs => exact Ax
  case h => exact fun w hw => amvalid_any z w
  case hz => exact Nz
  intro x h1
  cases x
  · (try simp only [qd, ne_eq] at h1)
    simp only [qz]
    refine rf_not rfl rfl rfl ?_
    simp only [qz]
    refine rg_nil (ek_next (wk_cond_t rfl (wk_seq ?_)))
    refine wk_region [0, 0] rfl Kx ?_
    simp only [qy]
    refine rg_assign ?_
    simp only [qz]
    refine rg_assign ?_
    simp only [qz]
    refine rg_nil (ek_next (wk_ret (ek_then_ret ?_)))
    refine ek_ret (fun w hw => ⟨rfl, _, res_tt _ _ rfl, ?_⟩)
    (try simp only [qz])
    exact ⟨by rw [h1]; rfl, hw.below⟩
  (try simp only [qd, ne_eq] at h1)
  simp only [qz]
  refine rf_not rfl rfl rfl ?_
  simp only [qz]
  refine rg_nil (ek_next (wk_cond_f rfl (wk_skip (ek_next (wk_seq ?_)))))
  refine wk_draws _ _ [(0, 0), (1, 0), (2, 1), (3, 0), (4, 0), (5, 0)] [] Kx Kx (fun c d v a w h => by cases d <;> exact h) ((sc _ sn)) (fun e => by first | exact absurd e (by decide) | rfl) ?_
  simp only [List.map_cons, List.map_nil, List.getD_cons_zero, List.getD_cons_succ]
  refine rf_loadR (n := 5) rfl rfl rfl Try.underlying45 rfl Kx (fun w hw => Kn.hd0 hw) rfl rfl ?_
  simp only [qz]
  refine rf_loadR (n := 5) rfl rfl rfl Try.underlying45 rfl Kx (fun w hw => Kn.hd0 hw) rfl rfl ?_
  simp only [qz]
  apply rg_pure Rx Kx
  case hargs => exact Ax
  case h => exact fun w hw => amconj_any z (Nm.fit_mono (okB_iff.1 h1).fit (by decide)) w
  case hz => exact (fun _ h => by cases h; exact (sc _ sn))
  simp only [qz]
  refine rf_eqN (u := z) (v := z.conj) rfl rfl rfl rfl ?_
  simp only [qz]
  refine rg_assign ?_
  simp only [qz]
  refine rg_assign ?_
  simp only [qz]
  refine rg_nil (ek_next (wk_ret ?_))
  refine ek_ret (fun w hw => ⟨rfl, _, res_tt _ _ rfl, ?_⟩)
  (try simp only [qz])
  exact ⟨by rw [h1, if_pos rfl], hw.below⟩

set_option maxRecDepth 100000 in
set_option maxHeartbeats 1000000 in
theorem ampCmp_ok (x y : Nm) (hx : x.Ok) (hy : y.Ok) (rx : x = x.conj) (ry : y = y.conj) (w : World) : Calls Try.prog 84 #[nmV x, nmV y] w fun e w' => e = .returned (.tuple #[.int .i64 (sgnR (x.addR y.neg).a (x.addR y.neg).b), .int .i64 0]) ∧ Below w.heap.size w w' := by
  have hf := addR_fit2 hx (neg_ok hy)
  replace rx := Lib.hid rx
  replace ry := Lib.hid ry
  go_enter Try.func84, Try.ntmps84
  refine wk_start ?_
  refine wk_seq ?_
  refine wk_region [1, 1, 0, 0] rfl Kx ?_
  simp only [qy]
  refine Rgn fun g1 => ?_
  simp only [qz]
  refine Rgn fun g2 => ?_
  simp only [qz]
  refine rg_assign ?_
  simp only [qz]
  refine rg_assign ?_
  simp only [qz]
  refine rg_nil (ek_next (wk_seq (wk_block (wk_seq ?_))))
  refine wk_region [0, 0, 1, 1, 0, 0] rfl Kx ?_
  simp only [qy]
  refine rf_loadR (n := 5) rfl rfl rfl Try.underlying45 rfl Kx (fun w hw => Kn.hd0 (Kn.tl hw)) rfl rfl ?_
  simp only [qz]
  refine rf_loadR (n := 5) rfl rfl rfl Try.underlying45 rfl Kx (fun w hw => Kn.hd0 hw) rfl rfl ?_
  simp only [qz]
  refine rg_newS (cs := ?_) (ty := ?_) (n := 2) (c := 2) Rx (fun w => ?_) Nz (fun g3 => ?_); rotate_left 2
  focus (go_simp; rfl)
  simp only [qz]
  apply rg_pure Rx Kx
  case hargs => exact Ax
  case h => exact fun w hw => ampvalid_yes [x, y] _ 2 Nl Nl (by intro z hz; simp only [List.mem_cons, List.not_mem_nil, or_false] at hz; rcases hz with rfl | rfl <;> assumption) w (as_hd (Kn.hd0 hw) rfl)
  case hz => exact Nz
  simp only [qz]
  refine rf_not rfl rfl rfl ?_
  simp only [qz]
  refine rg_assign ?_
  simp only [qz]
  refine rg_nil (ek_next (wk_cond_f rfl (wk_seq ?_)))
  refine wk_draws _ _ [(0, 0), (1, 0), (2, 1), (3, 0), (4, 0), (5, 0), (6, 0), (7, 1), (8, 0), (9, 0), (10, 0)] [] Kx Kx (fun c d v a w h => by cases d <;> exact h) ((sc _ (sc _ (sc _ sn)))) (fun e => by first | exact absurd e (by decide) | rfl) ?_
  simp only [List.map_cons, List.map_nil, List.getD_cons_zero, List.getD_cons_succ]
  refine rf_loadR (n := 5) rfl rfl rfl Try.underlying45 rfl Kx (fun w hw => Kn.hd0 (Kn.tl (Kn.tl hw))) rfl rfl ?_
  simp only [qz]
  refine rf_loadR (n := 5) rfl rfl rfl Try.underlying45 rfl Kx (fun w hw => Kn.hd0 (Kn.tl (Kn.tl hw))) rfl rfl ?_
  simp only [qz]
  apply rg_pure Rx Kx
  case hargs => exact Ax
  case h => exact fun w hw => amconj_any x (Nm.fit_mono hx.fit (by decide)) w
  case hz => exact (fun _ h => by cases h; exact (sc _ (sc _ (sc _ sn))))
  simp only [qz]
  refine rfb_neN x x.conj rfl rfl rfl rfl ?_
  intro x h1
  cases x
  · (try simp only [qd, ne_eq] at h1)
    simp only [qz]
    refine rg_move ?_
    simp only [qz]
    refine rf_loadR (n := 5) rfl rfl rfl Try.underlying45 rfl Kx (fun w hw => Kn.hd0 (Kn.tl hw)) rfl rfl ?_
    simp only [qz]
    refine rf_loadR (n := 5) rfl rfl rfl Try.underlying45 rfl Kx (fun w hw => Kn.hd0 (Kn.tl hw)) rfl rfl ?_
    simp only [qz]
    apply rg_pure Rx Kx
    case hargs => exact Ax
    case h => exact fun w hw => amconj_any y (Nm.fit_mono hy.fit (by decide)) w
    case hz => exact (fun _ h => by cases h; exact (sc _ (sc _ (sc _ sn))))
    simp only [qz]
    refine rfb_neN y y.conj rfl rfl rfl rfl ?_
    intro x h2
    cases x
    · (try simp only [qd, ne_eq] at h2)
      simp only [qz]
      refine rf_pick rfl rfl rfl ?_
      simp only [qz]
      refine rg_assign ?_
      simp only [qz]
      refine rg_nil (ek_next (wk_cond_f rfl (wk_skip (ek_block (ek_next (wk_seq ?_))))))
      refine wk_rt _ Kx (sc _ (sc _ (sc _ sn))) ?_
      refine rt_soft (i := 0) rfl Kx (fun c d v a w h => by cases d <;> exact h) (sc _ (sc _ (sc _ sn))) ?_
      refine rf_loadR (n := 5) rfl rfl rfl Try.underlying45 rfl Kx (fun w hw => Kn.hd0 (Kn.tl (Kn.tl hw))) rfl rfl ?_
      simp only [qz]
      refine rg_nil ?_
      refine ek_rt (sc _ (sc _ (sc _ sn))) ?_
      refine rt_soft (i := 1) rfl Kx (fun c d v a w h => by cases d <;> exact h) (sc _ (sc _ (sc _ sn))) ?_
      refine rf_loadR (n := 5) rfl rfl rfl Try.underlying45 rfl Kx (fun w hw => Kn.hd0 (Kn.tl hw)) rfl rfl ?_
      simp only [qz]
      refine rg_nil ?_
      refine ek_rt (sc _ (sc _ (sc _ sn))) ?_
      refine rt_hard2 (i := 2) (j := 4) Kx rfl rfl ?_ ?_
      · apply rg_pure Rx Kx
        case hargs => exact Ax
        case h => exact fun w hw => amneg_any y (Nm.fit_mono hy.fit (by decide)) w
        case hz => exact (fun _ h => by cases h; exact (sc _ (sc _ (sc _ sn))))
        simp only [qz]
        refine rg_nil ?_
        refine ek_rt (sc _ (sc _ (sc _ sn))) ?_
        refine rt_hard2 (i := 3) (j := 4) Kx rfl rfl ?_ ?_
        · apply rg_pure Rx Kx
          case hargs => exact Ax
          case h => exact fun w hw => amadd_any x y.neg hx (neg_ok hy) w
          case hz => exact (fun _ h => by cases h; exact (sc _ (sc _ (sc _ sn))))
          simp only [qz]
          refine rg_nil ?_
          refine ek_rt (sc _ (sc _ (sc _ sn))) ?_
          refine rt_hard1 (i := 4) Kx rfl ?_
          refine rg_new (cs := ?_) (ty := ?_) Rx (fun w => ?_) (fun _ h => by cases h; exact (sc _ (sc _ (sc _ sn)))) (fun g4 => ?_); rotate_left 2
          focus (go_simp; rfl)
          simp only [qz]
          refine rg_nil ?_
          refine ek_rt (sk _ (sc _ (sc _ (sc _ sn)))) ?_
          refine rt_hard1 (i := 5) Kx rfl ?_
          refine rf_storeR (n := 5) rfl rfl Kx rfl rfl (UpdR.here _ _ _ Nl) (fun _ h => by cases h; exact (sk _ (sc _ (sc _ (sc _ sn))))) ?_
          simp only [qz, Nat.reduceAdd]
          refine rg_nil ?_
          refine ek_rt (sk _ (sc _ (sc _ (sc _ sn)))) ?_
          refine rt_nil Kx ?_
          refine ek_next (wk_seq ?_)
          refine wk_region [0, 0, 0, 0, 0, 0, 1, 0, 0] rfl Kx ?_
          simp only [qy]
          refine rf_field (n := 3) (j := 0) rfl rfl rfl Try.underlying139 rfl Kx rfl ?_
          simp only [qz]
          refine rf_indexA (n := 0) (sz := 1) (j := 0) rfl rfl rfl rfl Try.underlying43 Kx (by decide) rfl ?_
          simp only [qz]
          refine rf_load rfl rfl rfl Try.underlying3 rfl (fun w hw => (Kn.hd0 hw).at rfl) ?_
          simp only [qz]
          refine rf_field (n := 3) (j := 0) rfl rfl rfl Try.underlying139 rfl Kx rfl ?_
          simp only [qz]
          refine rf_indexA (n := 1) (sz := 1) (j := 1) rfl rfl rfl rfl Try.underlying43 Kx (by decide) rfl ?_
          simp only [qz]
          refine rf_load rfl rfl rfl Try.underlying3 rfl (fun w hw => (Kn.hd0 hw).at rfl) ?_
          simp only [qz]
          apply rg_pure Rx Kx
          case hargs => exact Ax
          case h => exact fun w hw => ampsign_any (x.addR y.neg).a (x.addR y.neg).b (by have := hf.a0; omega) (by have := hf.a1; omega) (by have := hf.b0; omega) (by have := hf.b1; omega) w
          case hz => exact Nz
          simp only [qz]
          refine rg_assign ?_
          simp only [qz]
          refine rg_assign ?_
          simp only [qz]
          refine rg_nil (ek_next (wk_ret ?_))
          refine ek_ret (fun w hw => ⟨rfl, _, res_tt _ _ rfl, ?_⟩)
          (try simp only [qz])
          first | exact ⟨rfl, hw.below⟩ | exact ⟨trivial, hw.below⟩ | exact hw.below
        refine rg_new (cs := ?_) (ty := ?_) Rx (fun w => ?_) (fun _ h => by cases h; exact (sc _ (sc _ (sc _ sn)))) (fun g5 => ?_); rotate_left 2
        focus (go_simp; rfl)
        simp only [qz]
        refine rg_nil ?_
        refine ek_rt (sk _ (sc _ (sc _ (sc _ sn)))) ?_
        refine rt_hard1 (i := 3) Kx rfl ?_
        apply rg_pure Rx Kx
        case hargs => exact Ax
        case h => exact fun w hw => amadd_any x y.neg hx (neg_ok hy) w
        case hz => exact (fun _ h => by cases h; exact (sk _ (sc _ (sc _ (sc _ sn)))))
        simp only [qz]
        refine rg_nil ?_
        refine ek_rt (sk _ (sc _ (sc _ (sc _ sn)))) ?_
        refine rt_hard1 (i := 5) Kx rfl ?_
        refine rf_storeR (n := 5) rfl rfl Kx rfl rfl (UpdR.here _ _ _ Nl) (fun _ h => by cases h; exact (sk _ (sc _ (sc _ (sc _ sn))))) ?_
        simp only [qz, Nat.reduceAdd]
        refine rg_nil ?_
        refine ek_rt (sk _ (sc _ (sc _ (sc _ sn)))) ?_
        refine rt_nil Kx ?_
        refine ek_next (wk_seq ?_)
        refine wk_region [0, 0, 0, 0, 0, 0, 1, 0, 0] rfl Kx ?_
        simp only [qy]
        refine rf_field (n := 3) (j := 0) rfl rfl rfl Try.underlying139 rfl Kx rfl ?_
        simp only [qz]
        refine rf_indexA (n := 0) (sz := 1) (j := 0) rfl rfl rfl rfl Try.underlying43 Kx (by decide) rfl ?_
        simp only [qz]
        refine rf_load rfl rfl rfl Try.underlying3 rfl (fun w hw => (Kn.hd0 hw).at rfl) ?_
        simp only [qz]
        refine rf_field (n := 3) (j := 0) rfl rfl rfl Try.underlying139 rfl Kx rfl ?_
        simp only [qz]
        refine rf_indexA (n := 1) (sz := 1) (j := 1) rfl rfl rfl rfl Try.underlying43 Kx (by decide) rfl ?_
        simp only [qz]
        refine rf_load rfl rfl rfl Try.underlying3 rfl (fun w hw => (Kn.hd0 hw).at rfl) ?_
        simp only [qz]
        apply rg_pure Rx Kx
        case hargs => exact Ax
        case h => exact fun w hw => ampsign_any (x.addR y.neg).a (x.addR y.neg).b (by have := hf.a0; omega) (by have := hf.a1; omega) (by have := hf.b0; omega) (by have := hf.b1; omega) w
        case hz => exact Nz
        simp only [qz]
        refine rg_assign ?_
        simp only [qz]
        refine rg_assign ?_
        simp only [qz]
        refine rg_nil (ek_next (wk_ret ?_))
        refine ek_ret (fun w hw => ⟨rfl, _, res_tt _ _ rfl, ?_⟩)
        (try simp only [qz])
        first | exact ⟨rfl, hw.below⟩ | exact ⟨trivial, hw.below⟩ | exact hw.below
      refine rg_new (cs := ?_) (ty := ?_) Rx (fun w => ?_) (fun _ h => by cases h; exact (sc _ (sc _ (sc _ sn)))) (fun g6 => ?_); rotate_left 2
      focus (go_simp; rfl)
      simp only [qz]
      refine rg_nil ?_
      refine ek_rt (sk _ (sc _ (sc _ (sc _ sn)))) ?_
      refine rt_hard1 (i := 2) Kx rfl ?_
      apply rg_pure Rx Kx
      case hargs => exact Ax
      case h => exact fun w hw => amneg_any y (Nm.fit_mono hy.fit (by decide)) w
      case hz => exact (fun _ h => by cases h; exact (sk _ (sc _ (sc _ (sc _ sn)))))
      simp only [qz]
      refine rg_nil ?_
      refine ek_rt (sk _ (sc _ (sc _ (sc _ sn)))) ?_
      refine rt_hard1 (i := 3) Kx rfl ?_
      apply rg_pure Rx Kx
      case hargs => exact Ax
      case h => exact fun w hw => amadd_any x y.neg hx (neg_ok hy) w
      case hz => exact (fun _ h => by cases h; exact (sk _ (sc _ (sc _ (sc _ sn)))))
      simp only [qz]
      refine rg_nil ?_
      refine ek_rt (sk _ (sc _ (sc _ (sc _ sn)))) ?_
      refine rt_hard1 (i := 5) Kx rfl ?_
      refine rf_storeR (n := 5) rfl rfl Kx rfl rfl (UpdR.here _ _ _ Nl) (fun _ h => by cases h; exact (sk _ (sc _ (sc _ (sc _ sn))))) ?_
      simp only [qz, Nat.reduceAdd]
      refine rg_nil ?_
      refine ek_rt (sk _ (sc _ (sc _ (sc _ sn)))) ?_
      refine rt_nil Kx ?_
      refine ek_next (wk_seq ?_)
      refine wk_region [0, 0, 0, 0, 0, 0, 1, 0, 0] rfl Kx ?_
      simp only [qy]
      refine rf_field (n := 3) (j := 0) rfl rfl rfl Try.underlying139 rfl Kx rfl ?_
      simp only [qz]
      refine rf_indexA (n := 0) (sz := 1) (j := 0) rfl rfl rfl rfl Try.underlying43 Kx (by decide) rfl ?_
      simp only [qz]
      refine rf_load rfl rfl rfl Try.underlying3 rfl (fun w hw => (Kn.hd0 hw).at rfl) ?_
      simp only [qz]
      refine rf_field (n := 3) (j := 0) rfl rfl rfl Try.underlying139 rfl Kx rfl ?_
      simp only [qz]
      refine rf_indexA (n := 1) (sz := 1) (j := 1) rfl rfl rfl rfl Try.underlying43 Kx (by decide) rfl ?_
      simp only [qz]
      refine rf_load rfl rfl rfl Try.underlying3 rfl (fun w hw => (Kn.hd0 hw).at rfl) ?_
      simp only [qz]
      apply rg_pure Rx Kx
      case hargs => exact Ax
      case h => exact fun w hw => ampsign_any (x.addR y.neg).a (x.addR y.neg).b (by have := hf.a0; omega) (by have := hf.a1; omega) (by have := hf.b0; omega) (by have := hf.b1; omega) w
      case hz => exact Nz
      simp only [qz]
      refine rg_assign ?_
      simp only [qz]
      refine rg_assign ?_
      simp only [qz]
      refine rg_nil (ek_next (wk_ret ?_))
      refine ek_ret (fun w hw => ⟨rfl, _, res_tt _ _ rfl, ?_⟩)
      (try simp only [qz])
      first | exact ⟨rfl, hw.below⟩ | exact ⟨trivial, hw.below⟩ | exact hw.below
    (try simp only [qd, ne_eq] at h2)
    simp only [qz]
    exact absurd ry.out h2
  (try simp only [qd, ne_eq] at h1)
  simp only [qz]
  exact absurd rx.out h1

end Go.Proofs.Ytccbinnlnkpplaa
namespace Go.Proofs.Ytccbinnlnkpplaa
set_option linter.all false
open Go.RowKit

set_option maxRecDepth 100000 in
set_option maxHeartbeats 1000000 in
theorem amHalve_ok (z : Nm) (n : Int) (hz : z.Ok) (h0 : 0 ≤ n) (h1 : n ≤ 100) (w : World) : Calls Try.prog 83 #[nmV z, .int .i64 n] w fun e w' => e = .returned (numV (z.halve n)) ∧ Below w.heap.size w w' := by
  obtain ⟨hk0, hk1⟩ := (⟨hz.k0, hz.k1⟩ : 0 ≤ z.k ∧ z.k ≤ 40)
  go_enter Try.func83, Try.ntmps83
  refine wk_start ?_
  refine wk_seq ?_
  refine wk_region [1, 1, 0] rfl Kx ?_
  simp only [qy]
  refine Rgn fun g1 => ?_
  simp only [qz]
  refine Rgn fun g2 => ?_
  simp only [qz]
  refine rg_assign ?_
  simp only [qz]
  refine rg_nil (ek_next (wk_seq (wk_block (wk_seq ?_))))
  refine wk_region [0, 1, 0, 0] rfl Kx ?_
  simp only [qy]
  refine rf_loadR (n := 5) rfl rfl rfl Try.underlying45 rfl Kx (fun w hw => Kn.hd0 (Kn.tl hw)) rfl rfl ?_
  simp only [qz]
  apply rg_pure Rx Kx
  case hargs => exact Ax
  case h => exact fun w hw => by have := amvalid_any z w; rw [okB_yes hz] at this; exact this
  case hz => exact Nz
  simp only [qz]
  refine rf_not rfl rfl rfl ?_
  simp only [qz]
  refine rg_assign ?_
  simp only [qz]
  refine rg_nil (ek_next (wk_cond_f rfl (wk_seq ?_)))
  refine wk_region [0, 0, 0, 0, 0, 0, 0] rfl Kx ?_
  simp only [qy]
  refine rg_move ?_
  simp only [qz]
  refine rfb_lss rfl rfl rfl rfl ?_
  intro x h1
  obtain rfl : x = false := by (refine h1.symm.trans ?_; exact decide_eq_false Ox)
  clear h1
  simp only [qz]
  refine rg_move ?_
  simp only [qz]
  apply rg_soft_g
  case hg => rfl
  case hy => (intro w hw; go_simp; (try go_bits); exact Yld.mk _ _)
  simp only [qz]
  refine rfb_gtr rfl rfl rfl rfl ?_
  intro x h2
  obtain rfl : x = false := by (refine h2.symm.trans ?_; exact decide_eq_false Ox)
  clear h2
  simp only [qz]
  refine rf_pick rfl rfl rfl ?_
  simp only [qz]
  refine rg_assign ?_
  simp only [qz]
  refine rg_nil (ek_next (wk_cond_f rfl (wk_skip (ek_block (ek_next (wk_seq ?_))))))
  refine wk_region [0, 0, 0, 0, 0, 0, 0, 1, 0, 0, 1, 0] rfl Kx ?_
  simp only [qy]
  refine rf_field (n := 3) (j := 0) rfl rfl rfl Try.underlying45 rfl Kx rfl ?_
  simp only [qz]
  refine rf_loadR (n := 4) rfl rfl rfl Try.underlying43 rfl Kx (fun w hw => Kn.hd0 (Kn.tl hw)) rfl rfl ?_
  simp only [qz]
  refine rf_field (n := 0) (j := 4) rfl rfl rfl Try.underlying45 rfl Kx rfl ?_
  simp only [qz]
  refine rf_load rfl rfl rfl Try.underlying3 rfl (fun w hw => (Kn.hd0 (Kn.tl hw)).at rfl) ?_
  simp only [qz]
  refine rg_move ?_
  simp only [qz]
  refine rf_add rfl rfl rfl rfl (wrap_ok Ox Ox) ?_
  simp only [qz]
  refine rf_build (cs := fun a => #[cellAt (a.eval (.tmp 20)) 0, cellAt (a.eval (.tmp 20)) 1, cellAt (a.eval (.tmp 20)) 2, cellAt (a.eval (.tmp 20)) 3, a.eval (.tmp 24)]) rfl rfl Kx ?_
  simp only [qz]
  apply rg_num Rx Kx
  case hargs => exact Ax
  case h => exact fun w hw => result_any ⟨z.a, z.b, z.c, z.d, z.k + n⟩ (by have := Nm.fit_mono hz.fit (show (1000000000 : Int) ≤ 4611686018427387903 by omega); exact ⟨this.a0, this.a1, this.b0, this.b1, this.c0, this.c1, this.d0, this.d1⟩) (by have := hz.k1; dsimp only; omega) w
  case hz => exact Nz
  case hc => exact (fun c h => mk_err h)
  · intro hr3
    simp only [qz]
    refine rf_extract rfl rfl rfl rfl ?_
    simp only [qz]
    refine rf_extract rfl rfl rfl rfl ?_
    simp only [qz]
    refine rf_storeR (n := 5) rfl rfl Kx rfl rfl (UpdR.here _ _ _ Nl) Nz ?_
    simp only [qz, Nat.reduceAdd]
    refine rg_assign ?_
    simp only [qz]
    refine rg_nil (ek_next (wk_ret ?_))
    refine ek_ret (fun w hw => ⟨rfl, _, run_results2 rfl rfl (Kn.hd0 hw) Try.underlying45 rfl Kx, ?_⟩)
    (try simp only [qz])
    exact ⟨by rw [show z.halve n = _ from hr3]; rfl, hw.below⟩
  intro z3 hr3
  simp only [qz]
  refine rf_extract rfl rfl rfl rfl ?_
  simp only [qz]
  refine rf_extract rfl rfl rfl rfl ?_
  simp only [qz]
  refine rf_storeR (n := 5) rfl rfl Kx rfl rfl (UpdR.here _ _ _ Nl) Nz ?_
  simp only [qz, Nat.reduceAdd]
  refine rg_assign ?_
  simp only [qz]
  refine rg_nil (ek_next (wk_ret ?_))
  refine ek_ret (fun w hw => ⟨rfl, _, run_results2 rfl rfl (Kn.hd0 hw) Try.underlying45 rfl Kx, ?_⟩)
  (try simp only [qz])
  exact ⟨by rw [show z.halve n = _ from hr3]; rfl, hw.below⟩

end Go.Proofs.Ytccbinnlnkpplaa
namespace Go.Proofs.Ytccbinnlnkpplaa
set_option linter.all false
open Go.RowKit

theorem real_yes {z : Nm} (h : z.okB = true) (w : World) : Calls Try.prog 81 #[nmV z] w fun e w' => e = .returned (.tuple #[.bool (decide (z.c = 0 ∧ z.b + z.d = 0)), .int .i64 0]) ∧ Below w.heap.size w w' := by
  have := ampReal_any z w
  rw [if_pos h, decide_eq_decide.2 (conj_real (z := z))] at this
  exact this
theorem real_no {z : Nm} (h : z.okB = false) (w : World) : Calls Try.prog 81 #[nmV z] w fun e w' => e = .returned (.tuple #[.bool false, .int .i64 10]) ∧ Below w.heap.size w w' := by
  have := ampReal_any z w
  rw [h, if_neg (by decide)] at this
  exact this
theorem mbar_zN {n : Nat} {z : Nm} (h : barR (n : Int) = .ok z) (w : World) : Calls Try.prog 27 #[.int .i64 (n : Int)] w fun e w' => e = .returned (.tuple #[nmV z, .int .i64 0]) ∧ Below w.heap.size w w' := by
  have := mbar_any (n : Int) w
  rw [h] at this
  exact this
theorem mbar_zN1 {n : Nat} {z : Nm} (h : barR ((n + 1 : Nat) : Int) = .ok z) (w : World) : Calls Try.prog 27 #[.int .i64 ((n : Int) + 1)] w fun e w' => e = .returned (.tuple #[nmV z, .int .i64 0]) ∧ Below w.heap.size w w' := by
  have := mbar_zN h w
  exact this
theorem add_z {x y s : Nm} (hx : x.okB = true) (hy : y.okB = true) (h : x.add y = .ok s) (w : World) : Calls Try.prog 82 #[nmV x, nmV y] w fun e w' => e = .returned (.tuple #[nmV s, .int .i64 0]) ∧ Below w.heap.size w w' := by
  have := amAdd_ok x y (okB_iff.1 hx) (okB_iff.1 hy) w
  rw [h] at this
  exact this
theorem halve_z {s h : Nm} (hs : s.okB = true) (hh : s.halve 2 = .ok h) (w : World) : Calls Try.prog 83 #[nmV s, .int .i64 2] w fun e w' => e = .returned (.tuple #[nmV h, .int .i64 0]) ∧ Below w.heap.size w w' := by
  have := amHalve_ok s 2 (okB_iff.1 hs) (by decide) (by decide) w
  rw [hh] at this
  exact this
theorem prog_at {P : Nm} {n : Nat} (hn : n ≤ 3) (h : ∀ j, j < n → Tn P j = false) (ht : Tn P n = true) : progN P = n := by
  unfold progN
  rcases (by omega : n = 0 ∨ n = 1 ∨ n = 2 ∨ n = 3) with rfl | rfl | rfl | rfl
  · rw [if_pos ht]
  · rw [if_neg (by rw [h 0 (by decide)]; decide), if_pos ht]
  · rw [if_neg (by rw [h 0 (by decide)]; decide), if_neg (by rw [h 1 (by decide)]; decide), if_pos ht]
  rw [if_neg (by rw [h 0 (by decide)]; decide), if_neg (by rw [h 1 (by decide)]; decide), if_neg (by rw [h 2 (by decide)]; decide), if_pos ht]
theorem prog_end {P : Nm} (h : ∀ j, j < 4 → Tn P j = false) : progN P = 4 := by
  unfold progN
  rw [if_neg (by rw [h 0 (by decide)]; decide), if_neg (by rw [h 1 (by decide)]; decide), if_neg (by rw [h 2 (by decide)]; decide), if_neg (by rw [h 3 (by decide)]; decide)]
theorem near_val {z : Nm} {n : Nat} (hz : z.Ok) (hv : z.okB = true) (hr : z.c = 0 ∧ z.b + z.d = 0) (h : progN z = n) : nearV z = .tuple #[.int .i64 (n : Int), .int .i64 0] := by
  have hR : Rl z := ⟨hr.1, by have := hr.2; omega⟩
  have := near_eq hR hz.k1
  unfold nearV
  rw [hv, if_pos rfl, if_pos hr, this, h]
theorem nearV_two (z : Nm) : ∃ a c : Int, nearV z = .tuple #[.int .i64 a, .int .i64 c] := by
  unfold nearV
  split
  · split <;> exact ⟨_, _, rfl⟩
  exact ⟨_, _, rfl⟩
set_option maxRecDepth 100000 in
set_option maxHeartbeats 2000000 in
theorem mnear_any (z : Nm) (w : World) : Calls Try.prog 46 #[nmV z] w fun e w' => e = .returned (nearV z) ∧ Below w.heap.size w w' := by
  go_enter Try.func46, Try.ntmps46
  refine wk_start ?_
  refine wk_seq ?_
  refine wk_region [1, 0, 0] rfl Kx ?_
  simp only [qy]
  refine Rgn fun g1 => ?_
  simp only [qz]
  refine rg_assign ?_
  simp only [qz]
  refine rg_assign ?_
  simp only [qz]
  refine rg_nil (ek_next (wk_seq ?_))
  refine wk_region [0, 1, 0, 0, 0, 0, 0] rfl Kx ?_
  simp only [qy]
  refine rf_loadR (n := 5) rfl rfl rfl Try.underlying45 rfl Kx (fun w hw => Kn.hd0 hw) rfl rfl ?_
  simp only [qz]
  rcases hv : z.okB with _ | _
  · apply rg_pure Rx Kx
    case hargs => exact Ax
    case h => exact fun w hw => real_no hv w
    case hz => exact Nz
    simp only [qz]
    refine rg_move ?_
    simp only [qz]
    refine rf_extract rfl rfl rfl rfl ?_
    simp only [qz]
    refine rf_extract rfl rfl rfl rfl ?_
    simp only [qz]
    refine rg_assign ?_
    simp only [qz]
    refine rg_assign ?_
    simp only [qz]
    refine rg_nil (ek_next (wk_seq (wk_block (wk_seq ?_))))
    refine wk_region [0, 0, 0] rfl Kx ?_
    simp only [qy]
    refine rg_move ?_
    simp only [qz]
    refine rf_neq (b := true) rfl rfl rfl rfl (by decide) ?_
    simp only [qz]
    refine rg_assign ?_
    simp only [qz]
    refine rg_nil (ek_next (wk_cond_t rfl (wk_seq ?_)))
    refine wk_region [0, 0, 0] rfl Kx ?_
    simp only [qy]
    refine rg_move ?_
    simp only [qz]
    refine rg_assign ?_
    simp only [qz]
    refine rg_assign ?_
    simp only [qz]
    refine rg_nil (ek_next (wk_ret (ek_block_ret (ek_then_ret ?_))))
    refine ek_ret (fun w hw => ⟨rfl, _, res_tt _ _ rfl, ?_⟩)
    (try simp only [qz])
    exact ⟨by unfold nearV; rw [hv]; rfl, hw.below⟩
  apply rg_pure Rx Kx
  case hargs => exact Ax
  case h => exact fun w hw => real_yes hv w
  case hz => exact Nz
  simp only [qz]
  replace hv := Lib.hid hv
  refine rg_move ?_
  simp only [qz]
  refine rf_extract rfl rfl rfl rfl ?_
  simp only [qz]
  refine rf_extract rfl rfl rfl rfl ?_
  simp only [qz]
  refine rg_assign ?_
  simp only [qz]
  refine rg_assign ?_
  simp only [qz]
  refine rg_nil (ek_next (wk_seq (wk_block (wk_seq ?_))))
  refine wk_region [0, 0, 0] rfl Kx ?_
  simp only [qy]
  refine rg_move ?_
  simp only [qz]
  refine rf_neq (b := false) rfl rfl rfl rfl (by decide) ?_
  simp only [qz]
  refine rg_assign ?_
  simp only [qz]
  refine rg_nil (ek_next (wk_cond_f rfl (wk_seq ?_)))
  refine wk_region [0, 0, 0] rfl Kx ?_
  simp only [qy]
  refine rg_move ?_
  simp only [qz]
  apply rg_softb
  case hy => (intro w hw; go_simp; (try go_bits); exact Yld.mk _ _)
  intro x h1
  cases x
  · (try simp only [qd, ne_eq] at h1)
    simp only [qz]
    have hr : z.c = 0 ∧ z.b + z.d = 0 := by simpa using h1
    clear h1
    have hz := okB_iff.1 hv.out
    refine rg_assign ?_
    simp only [qz]
    refine rg_nil (ek_next (wk_cond_f rfl (wk_skip (ek_block (ek_next (wk_seq (wk_seq ?_)))))))
    refine wk_region [0] rfl Kx ?_
    simp only [qy]
    refine rg_move ?_
    simp only [qz]
    refine rg_nil (ek_next (wk_block ?_))
    refine wk_loopF [2, 3, 6, 7, 8, 9, 10, 11, 12, 13, 14, 15, 16, 29, 30, 31, 32, 33, 34, 35, 36, 37, 38, 39, 40, 41, 42, 43, 44, 45, 46, 47, 48, 49, 50, 51, 52, 53, 54, 55, 56, 57, 58, 59, 60, 61, 62, 63] (fun mz f s => ∃ (n : Nat), f 29 = .int .i64 n ∧ s = ((g1, .cells #[.int .i64 z.a, .int .i64 z.b, .int .i64 z.c, .int .i64 z.d, .int .i64 z.k] 45) :: []) ∧ mz = 4 - n ∧ n ≤ 4 ∧ Hid (∀ j, j < n → Tn z j = false)) ((fun (n : Nat) => 4 - n) (0)) ?_ Kx ?_
    · exact ⟨0, rfl, rfl, rfl, by decide, Lib.hid (fun _ h => by omega)⟩
    rintro mz f1 s ⟨n, hs1_29, rfl, hn, hd1, hd2⟩
    simp only [Act.putF, List.foldl_cons, List.foldl_nil, hs1_29, Act.put, Act.eval, q1, q2, q3, q4, q5, q6, q7, q8, q9, q10, q11, q12, q13, q14, q15, q16, q17, q18, Nat.reduceAdd, Bool.not_true, Bool.not_false]
    clear hs1_29
    refine wk_seq ?_
    refine wk_region [0] rfl Kx ?_
    simp only [qy]
    refine rfb_lss rfl rfl rfl rfl ?_
    intro x h2
    cases x
    · (try simp only [qd, ne_eq] at h2)
      simp only [qz]
      refine rg_nil (ek_next (wk_seq (wk_cond_f rfl (wk_exit (ek_then_exit (ek_then_exit (ek_block_exit (ek_next (wk_seq ?_)))))))))
      refine wk_region [0, 0] rfl Kx ?_
      simp only [qy]
      refine rg_assign ?_
      simp only [qz]
      refine rg_assign ?_
      simp only [qz]
      refine rg_nil (ek_next (wk_ret ?_))
      refine ek_ret (fun w hw => ⟨rfl, _, res_tt _ _ rfl, ?_⟩)
      (try simp only [qz])
      obtain rfl : n = 4 := by omega
      exact ⟨by rw [near_val hz hv.out hr (prog_end hd2.out)]; rfl, hw.below⟩
    (try simp only [qd, ne_eq] at h2)
    simp only [qz]
    refine rg_nil (ek_next (wk_seq (wk_cond_t rfl (wk_skip (ek_next (wk_seq (wk_block (wk_seq ?_))))))))
    obtain ⟨z0, z1, s, hM⟩ := mids n Ox
    refine wk_region [0, 0] rfl Kx ?_
    simp only [qy]
    refine rg_move ?_
    simp only [qz]
    refine rg_assign ?_
    simp only [qz]
    refine rg_nil (ek_next (wk_seq ?_))
    refine wk_region [0, 1, 0, 0, 0, 1, 1, 0] rfl Kx ?_
    simp only [qy]
    refine rg_move ?_
    simp only [qz]
    apply rg_pure Rx Kx
    case hargs => exact Ax
    case h => exact fun w hw => mbar_zN hM.b0 w
    case hz => exact Nz
    simp only [qz]
    refine rg_move ?_
    simp only [qz]
    refine rf_extract rfl rfl rfl rfl ?_
    simp only [qz]
    refine rf_extract rfl rfl rfl rfl ?_
    simp only [qz]
    refine Rgn fun g2 => ?_
    simp only [qz]
    refine rf_storeR (n := 5) rfl rfl Kx rfl rfl (UpdR.here _ _ _ Nl) Nz ?_
    simp only [qz, Nat.reduceAdd]
    refine rg_assign ?_
    simp only [qz]
    refine rg_nil (ek_next (wk_seq ?_))
    refine wk_region [0, 0, 1, 0, 0, 0, 1, 1, 0] rfl Kx ?_
    simp only [qy]
    refine rg_move ?_
    simp only [qz]
    refine rf_add rfl rfl rfl rfl (wrap_ok Ox Ox) ?_
    simp only [qz]
    apply rg_pure Rx Kx
    case hargs => exact Ax
    case h => exact fun w hw => mbar_zN1 hM.b1 w
    case hz => exact Nz
    simp only [qz]
    refine rg_move ?_
    simp only [qz]
    refine rf_extract rfl rfl rfl rfl ?_
    simp only [qz]
    refine rf_extract rfl rfl rfl rfl ?_
    simp only [qz]
    refine Rgn fun g3 => ?_
    simp only [qz]
    refine rf_storeR (n := 5) rfl rfl Kx rfl rfl (UpdR.here _ _ _ Nl) Nz ?_
    simp only [qz, Nat.reduceAdd]
    refine rg_assign ?_
    simp only [qz]
    refine rg_nil (ek_next (wk_seq ?_))
    refine wk_region [0, 0, 1, 0, 0, 0, 1, 1, 0] rfl Kx ?_
    simp only [qy]
    refine rf_loadR (n := 5) rfl rfl rfl Try.underlying45 rfl Kx (fun w hw => Kn.hd0 (Kn.tl hw)) rfl rfl ?_
    simp only [qz]
    refine rf_loadR (n := 5) rfl rfl rfl Try.underlying45 rfl Kx (fun w hw => Kn.hd0 hw) rfl rfl ?_
    simp only [qz]
    apply rg_pure Rx Kx
    case hargs => exact Ax
    case h => exact fun w hw => add_z hM.ok0 hM.ok1 hM.sum w
    case hz => exact Nz
    simp only [qz]
    refine rg_move ?_
    simp only [qz]
    refine rf_extract rfl rfl rfl rfl ?_
    simp only [qz]
    refine rf_extract rfl rfl rfl rfl ?_
    simp only [qz]
    refine Rgn fun g4 => ?_
    simp only [qz]
    refine rf_storeR (n := 5) rfl rfl Kx rfl rfl (UpdR.here _ _ _ Nl) Nz ?_
    simp only [qz, Nat.reduceAdd]
    refine rg_assign ?_
    simp only [qz]
    refine rg_nil (ek_next (wk_seq ?_))
    refine wk_region [0, 1, 0, 0, 0, 1, 1, 0] rfl Kx ?_
    simp only [qy]
    refine rf_loadR (n := 5) rfl rfl rfl Try.underlying45 rfl Kx (fun w hw => Kn.hd0 hw) rfl rfl ?_
    simp only [qz]
    apply rg_pure Rx Kx
    case hargs => exact Ax
    case h => exact fun w hw => halve_z hM.oks hM.half w
    case hz => exact Nz
    simp only [qz]
    refine rg_move ?_
    simp only [qz]
    refine rf_extract rfl rfl rfl rfl ?_
    simp only [qz]
    refine rf_extract rfl rfl rfl rfl ?_
    simp only [qz]
    refine Rgn fun g5 => ?_
    simp only [qz]
    refine rf_storeR (n := 5) rfl rfl Kx rfl rfl (UpdR.here _ _ _ Nl) Nz ?_
    simp only [qz, Nat.reduceAdd]
    refine rg_assign ?_
    simp only [qz]
    refine rg_nil (ek_next (wk_seq ?_))
    refine wk_region [0, 0, 1, 0, 0, 0, 0, 0] rfl Kx ?_
    simp only [qy]
    refine rf_loadR (n := 5) rfl rfl rfl Try.underlying45 rfl Kx (fun w hw => Kn.hd0 (Kn.tl (Kn.tl (Kn.tl (Kn.tl hw))))) rfl rfl ?_
    simp only [qz]
    refine rf_loadR (n := 5) rfl rfl rfl Try.underlying45 rfl Kx (fun w hw => Kn.hd0 hw) rfl rfl ?_
    simp only [qz]
    apply rg_pure Rx Kx
    case hargs => exact Ax
    case h => exact fun w hw => ampCmp_ok z (hN n) hz (okB_iff.1 hM.okh) (conj_real.2 hr) (of_decide_eq_true hM.conj) w
    case hz => exact Nz
    simp only [qz]
    refine rg_move ?_
    simp only [qz]
    refine rf_extract rfl rfl rfl rfl ?_
    simp only [qz]
    refine rf_extract rfl rfl rfl rfl ?_
    simp only [qz]
    refine rg_assign ?_
    simp only [qz]
    refine rg_assign ?_
    simp only [qz]
    refine rg_nil (ek_next (wk_seq ?_))
    refine wk_region [0, 0] rfl Kx ?_
    simp only [qy]
    refine rg_move ?_
    simp only [qz]
    refine rfb_leq rfl rfl rfl rfl ?_
    intro x h3
    cases x
    · (try simp only [qd, ne_eq] at h3)
      simp only [qz]
      refine rg_nil (ek_next (wk_cond_f rfl (wk_skip (ek_block (ek_next ?_)))))
      refine wk_region [0, 0] rfl Kx ?_
      simp only [qy]
      refine rf_add rfl rfl rfl rfl (wrap_ok Ox Ox) ?_
      simp only [qz]
      refine rg_move ?_
      simp only [qz]
      refine rg_nil ?_
      refine ek_sub (sk _ (sk _ (sk _ (sk _ (sc _ sn))))) ?_
      refine ek_roundF (4 - (n + 1)) Ox Kx ?_
      exact ⟨n + 1, rfl, by rfl, by rfl, Ox, (Lib.hid (fun j hj => by rcases (by omega : j < n ∨ j = n) with h | rfl; exact hd2.out j h; exact decide_eq_false Ox))⟩
    (try simp only [qd, ne_eq] at h3)
    simp only [qz]
    refine rg_nil (ek_next (wk_cond_t rfl (wk_seq ?_)))
    refine wk_region [0, 0, 0] rfl Kx ?_
    simp only [qy]
    refine rg_move ?_
    simp only [qz]
    refine rg_assign ?_
    simp only [qz]
    refine rg_assign ?_
    simp only [qz]
    refine rg_nil (ek_next (wk_ret (ek_block_ret (ek_then_ret (ek_then_ret (ek_block_ret (ek_then_ret ?_)))))))
    refine ek_ret (fun w hw => ⟨rfl, _, res_tt _ _ rfl, ?_⟩)
    (try simp only [qz])
    exact ⟨by rw [near_val hz hv.out hr (prog_at (n := n) Ox hd2.out (decide_eq_true Ox))], hw.below⟩
  (try simp only [qd, ne_eq] at h1)
  simp only [qz]
  refine rg_assign ?_
  simp only [qz]
  refine rg_nil (ek_next (wk_cond_t rfl (wk_seq ?_)))
  refine wk_region [0, 0] rfl Kx ?_
  simp only [qy]
  refine rg_assign ?_
  simp only [qz]
  refine rg_assign ?_
  simp only [qz]
  refine rg_nil (ek_next (wk_ret (ek_block_ret (ek_then_ret ?_))))
  refine ek_ret (fun w hw => ⟨rfl, _, res_tt _ _ rfl, ?_⟩)
  (try simp only [qz])
  exact ⟨by unfold nearV; rw [hv.out, if_pos rfl, if_neg (fun hh => by first | exact h1 hh | (rw [decide_eq_true hh] at h1; cases h1) | (simp [hh.1, hh.2] at h1; done) | (simp_all; done))], hw.below⟩

set_option maxRecDepth 100000 in
set_option maxHeartbeats 1000000 in
theorem synthNearest_any (z : Nm) (w : World) : Calls Try.prog 11 #[nmV z] w fun e w' => e = .returned (.bool true) ∧ Below w.heap.size w w' := by
  obtain ⟨va, vc, hN⟩ := nearV_two z
  go_enter Try.func11, Try.ntmps11
  refine wk_start ?_
  refine wk_seq ?_
  refine wk_region [1, 0] rfl Kx ?_
  simp only [qy]
  refine Rgn fun g1 => ?_
  simp only [qz]
  refine rg_assign ?_
  simp only [qz]
  refine rg_nil (ek_next (wk_seq ?_))
  refine wk_region [0, 1, 0, 0, 0, 0, 0] rfl Kx ?_
  simp only [qy]
  refine rf_loadR (n := 5) rfl rfl rfl Try.underlying45 rfl Kx (fun w hw => Kn.hd0 hw) rfl rfl ?_
  simp only [qz]
  apply rg_pure Rx Kx
  case hargs => exact Ax
  case h => exact fun w hw => by have := mnear_any z w; rw [hN] at this; exact this
  case hz => exact Nz
  simp only [qz]
  refine rg_move ?_
  simp only [qz]
  refine rf_extract rfl rfl rfl rfl ?_
  simp only [qz]
  refine rf_extract rfl rfl rfl rfl ?_
  simp only [qz]
  refine rg_assign ?_
  simp only [qz]
  refine rg_assign ?_
  simp only [qz]
  refine rg_nil (ek_next (wk_seq ?_))
  refine wk_region [0, 1, 0, 0, 0, 0, 0] rfl Kx ?_
  simp only [qy]
  refine rf_loadR (n := 5) rfl rfl rfl Try.underlying45 rfl Kx (fun w hw => Kn.hd0 hw) rfl rfl ?_
  simp only [qz]
  apply rg_pure Rx Kx
  case hargs => exact Ax
  case h => exact fun w hw => by have := rnear_any z w; rw [hN] at this; exact this
  case hz => exact Nz
  simp only [qz]
  refine rg_move ?_
  simp only [qz]
  refine rf_extract rfl rfl rfl rfl ?_
  simp only [qz]
  refine rf_extract rfl rfl rfl rfl ?_
  simp only [qz]
  refine rg_assign ?_
  simp only [qz]
  refine rg_assign ?_
  simp only [qz]
  refine rg_nil (ek_next (wk_seq ?_))
  refine wk_region [0, 0, 0, 0, 0, 0, 0, 0, 0, 1, 0, 0] rfl Kx ?_
  simp only [qy]
  refine rg_move ?_
  simp only [qz]
  refine rg_move ?_
  simp only [qz]
  refine rfb_eql rfl rfl rfl rfl ?_
  intro x h1
  obtain rfl : x = true := by (refine h1.symm.trans ?_; exact decide_eq_true Ox)
  clear h1
  simp only [qz]
  refine rg_move ?_
  simp only [qz]
  apply rg_soft_g
  case hg => rfl
  case hy => (intro w hw; go_simp; (try go_bits); exact Yld.mk _ _)
  simp only [qz]
  apply rg_soft_g
  case hg => rfl
  case hy => (intro w hw; go_simp; (try go_bits); exact Yld.mk _ _)
  simp only [qz]
  refine rfb_eql rfl rfl rfl rfl ?_
  intro x h2
  obtain rfl : x = true := by (refine h2.symm.trans ?_; exact decide_eq_true Ox)
  clear h2
  simp only [qz]
  refine rf_pick rfl rfl rfl ?_
  simp only [qz]
  refine rg_move ?_
  simp only [qz]
  apply rg_pure Rx Kx
  case hargs => exact Ax
  case h => exact fun w hw => sane_any w
  case hz => exact Nz
  simp only [qz]
  refine rf_pick rfl rfl rfl ?_
  simp only [qz]
  refine rg_assign ?_
  simp only [qz]
  refine rg_nil (ek_next (wk_ret ?_))
  refine ek_ret (fun w hw => ⟨rfl, _, res_t _ rfl, ?_⟩)
  (try simp only [qz])
  first | exact ⟨rfl, hw.below⟩ | exact ⟨trivial, hw.below⟩ | exact hw.below

end Go.Proofs.Ytccbinnlnkpplaa
