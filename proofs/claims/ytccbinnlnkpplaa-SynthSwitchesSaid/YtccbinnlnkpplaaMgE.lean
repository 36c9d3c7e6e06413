/- Several texts in one. -/
import Derived.Test.YtccbinnlnkpplaaSq
import Derived.Test.YtccbinnlnkpplaaMgD
import Derived.Test.YtccbinnlnkpplaaXt
import Derived.Test.YtccbinnlnkpplaaRt
import Derived.Test.YtccbinnlnkpplaaWtP
import Derived.Test.YtccbinnlnkpplaaWs4
import Derived.Test.YtccbinnlnkpplaaMgC
import Derived.Test.YtccbinnlnkpplaaAmPw
import Derived.Test.YtccbinnlnkpplaaMo1
import Derived.Test.YtccbinnlnkpplaaMgA
namespace Go.Proofs.Ytccbinnlnkpplaa
set_option linter.all false
open Go.RowKit

/-- Four numbers of any size; s0 .. s3: their digits. -/
abbrev arC (z : Nm) (s0 s1 s2 s3 : Value) : List Value := [.bool (decide (z.a < 0)), s0, .bool (decide (z.b < 0)), s1, .bool (decide (z.c < 0)), s2, .bool (decide (z.d < 0)), s3]
abbrev arV (z : Nm) (s0 s1 s2 s3 : Value) : Value := .agg #[.bool (decide (z.a < 0)), s0, .bool (decide (z.b < 0)), s1, .bool (decide (z.c < 0)), s2, .bool (decide (z.d < 0)), s3]
abbrev wdV (z : Nm) (s0 s1 s2 s3 : Value) : Value := .agg #[.bool (decide (z.a < 0)), s0, .bool (decide (z.b < 0)), s1, .bool (decide (z.c < 0)), s2, .bool (decide (z.d < 0)), s3, .int .i64 z.k]
structure SA4 (w : World) (z : Nm) (s0 s1 s2 s3 : Value) : Prop where
  a : SA w s0 z.a.natAbs
  b : SA w s1 z.b.natAbs
  c : SA w s2 z.c.natAbs
  d : SA w s3 z.d.natAbs
/-- The digits are those of the world at the call's begin, or lie in the blocks u. -/
def SK (B : World) (u : List Blk) (s : Value) (n : Nat) : Prop := (∃ a c, s = .slice a (digs n).length c) ∧ ∀ w, Kn B [] u w → SA w s n
structure SK4 (B : World) (u : List Blk) (z : Nm) (s0 s1 s2 s3 : Value) : Prop where
  a : SK B u s0 z.a.natAbs
  b : SK B u s1 z.b.natAbs
  c : SK B u s2 z.c.natAbs
  d : SK B u s3 z.d.natAbs
structure SU4 (u : List Blk) (z : Nm) (s0 s1 s2 s3 : Value) : Prop where
  a : SU u s0 z.a.natAbs
  b : SU u s1 z.b.natAbs
  c : SU u s2 z.c.natAbs
  d : SU u s3 z.d.natAbs
theorem SA.form {w : World} {s : Value} {n : Nat} (h : SA w s n) : ∃ a c, s = .slice a (digs n).length c := let ⟨a, c, e, _⟩ := h; ⟨a, c, e⟩
theorem SK.arg {B : World} {s : Value} {n : Nat} (h : SA B s n) : SK B [] s n := ⟨h.form, fun w K => h.kn K⟩
theorem SK.own {B : World} {u : List Blk} {s : Value} {n : Nat} (h : SU u s n) : SK B u s n := ⟨h.1, fun w K => h.2 B [] w K⟩
theorem SK.at {B w : World} {u s : List Blk} {v : Value} {n : Nat} (h : SK B u v n) (K : Kn B [] s w) (hs : u.Sublist s) : SA w v n := h.2 w (K.sub hs)
theorem SK4.arg {B : World} {z : Nm} {s0 s1 s2 s3 : Value} (h : SA4 B z s0 s1 s2 s3) : SK4 B [] z s0 s1 s2 s3 := ⟨.arg h.a, .arg h.b, .arg h.c, .arg h.d⟩
theorem SK4.own {B : World} {u : List Blk} {z : Nm} {s0 s1 s2 s3 : Value} (h : SU4 u z s0 s1 s2 s3) : SK4 B u z s0 s1 s2 s3 := ⟨.own h.a, .own h.b, .own h.c, .own h.d⟩
theorem SK4.at {B w : World} {u s : List Blk} {z : Nm} {s0 s1 s2 s3 : Value} (h : SK4 B u z s0 s1 s2 s3) (K : Kn B [] s w) (hs : u.Sublist s) : SA4 w z s0 s1 s2 s3 := ⟨h.a.at K hs, h.b.at K hs, h.c.at K hs, h.d.at K hs⟩
theorem SU4.mono {u v : List Blk} {z : Nm} {s0 s1 s2 s3 : Value} (h : SU4 u z s0 s1 s2 s3) (hs : u.Sublist v) : SU4 v z s0 s1 s2 s3 := ⟨h.a.mono hs, h.b.mono hs, h.c.mono hs, h.d.mono hs⟩
theorem SU4.at {u s : List Blk} {z : Nm} {s0 s1 s2 s3 : Value} {B w : World} {F : List Nat} (h : SU4 u z s0 s1 s2 s3) (K : Kn B F s w) (hs : u.Sublist s) : SA4 w z s0 s1 s2 s3 := ⟨h.a.at K hs, h.b.at K hs, h.c.at K hs, h.d.at K hs⟩
theorem SA4.kn {B w : World} {s : List Blk} {z : Nm} {s0 s1 s2 s3 : Value} (h : SA4 B z s0 s1 s2 s3) (K : Kn B [] s w) : SA4 w z s0 s1 s2 s3 := ⟨h.a.kn K, h.b.kn K, h.c.kn K, h.d.kn K⟩
/-- A call that hands back four numbers, an amplitude. -/
def RetA (w : World) (z : Nm) (e : Ending) (w' : World) : Prop := ∃ v u, e = .returned v ∧ (∃ s0 s1 s2 s3, v = arV z s0 s1 s2 s3 ∧ SU4 u z s0 s1 s2 s3) ∧ Made w u w'
def RetW (w : World) (z : Nm) (e : Ending) (w' : World) : Prop := ∃ v u, e = .returned v ∧ (∃ s0 s1 s2 s3, v = wdV z s0 s1 s2 s3 ∧ SU4 u z s0 s1 s2 s3) ∧ Made w u w'
theorem len_big {n : Int} (h0 : -39402006196394479212279040100143613805079739270465446667948293404245721771497210611414266254884915640806627990306816 < n) (h1 : n < 39402006196394479212279040100143613805079739270465446667948293404245721771497210611414266254884915640806627990306816) : (digs n.natAbs).length ≤ 1000 := by
  have : (digs n.natAbs).length ≤ 12 := digs_len_le (L := 12) (by
    show _ < (39402006196394479212279040100143613805079739270465446667948293404245721771497210611414266254884915640806627990306816 : Int)
    omega)
  omega
theorem fit_big {z : Nm} (h : z.Fit 9850501549098619803069760025035903451269934817616361666987073351061430442874302652853566563721228910201656997576704) : (digs z.a.natAbs).length ≤ 1000 ∧ (digs z.b.natAbs).length ≤ 1000 ∧ (digs z.c.natAbs).length ≤ 1000 ∧ (digs z.d.natAbs).length ≤ 1000 := by
  obtain ⟨h1, h2, h3, h4, h5, h6, h7, h8⟩ := h
  exact ⟨len_big Ox Ox, len_big Ox Ox, len_big Ox Ox, len_big Ox Ox⟩
end Go.Proofs.Ytccbinnlnkpplaa
namespace Go.Proofs.Ytccbinnlnkpplaa
set_option linter.all false
open Go.RowKit

set_option maxRecDepth 100000 in
set_option maxHeartbeats 1000000 in
theorem timesR_any (z : Nm) (s0 s1 s2 s3 : Value) (hz : z.Fit 9850501549098619803069760025035903451269934817616361666987073351061430442874302652853566563721228910201656997576704) (w : World) (hs : SA4 w z s0 s1 s2 s3) : Calls Try.prog 98 #[arV z s0 s1 s2 s3] w fun e w' => RetA w z.tr e w' := by
  obtain ⟨ha, hb, hc, hd⟩ := hs
  obtain ⟨la, lb, lc, ld⟩ := fit_big hz
  obtain ⟨⟨a0, c0, rfl⟩, ⟨a1, c1, rfl⟩, ⟨a2, c2, rfl⟩, ⟨a3, c3, rfl⟩⟩ := (⟨ha.form, hb.form, hc.form, hd.form⟩ : _ ∧ _ ∧ _ ∧ _)
  go_enter Try.func98, Try.ntmps98
  refine wk_start ?_
  refine wk_seq ?_
  refine wk_region [1, 1] rfl Kx ?_
  simp only [qy]
  refine Rgn fun g1 => ?_
  simp only [qz]
  refine Rgn fun g2 => ?_
  simp only [qz]
  refine rg_nil (ek_next (wk_seq ?_))
  refine wk_draws_m (hz1 := (sk _ (sc _ sn))) [(0, 0), (1, 0), (2, 0), (3, 0), (5, 0), (6, 0), (7, 0), (8, 0), (10, 0), (11, 0), (12, 0), (13, 0), (15, 0), (16, 0), (17, 0), (18, 0), (4, 1), (9, 1), (14, 1), (19, 1), (20, 0), (21, 2)] 21 Kx Kx (fun c d v a w h => by cases d <;> exact h) ?_
  simp only [List.map_cons, List.map_nil, List.getD_cons_zero, List.getD_cons_succ]
  refine rf_indexA (n := 1) (sz := 2) (j := 2) rfl rfl rfl rfl Try.underlying68 Kx (by decide) rfl ?_
  simp only [qz]
  refine rf_loadR (n := 2) rfl rfl rfl Try.underlying67 rfl Kx (fun w hw => Kn.hd0 (Kn.tl hw)) rfl rfl ?_
  simp only [qz]
  refine rf_indexA (n := 3) (sz := 2) (j := 6) rfl rfl rfl rfl Try.underlying68 Kx (by decide) rfl ?_
  simp only [qz]
  refine rf_loadR (n := 2) rfl rfl rfl Try.underlying67 rfl Kx (fun w hw => Kn.hd0 (Kn.tl hw)) rfl rfl ?_
  simp only [qz]
  refine rf_indexA (n := 0) (sz := 2) (j := 0) rfl rfl rfl rfl Try.underlying68 Kx (by decide) rfl ?_
  simp only [qz]
  refine rf_loadR (n := 2) rfl rfl rfl Try.underlying67 rfl Kx (fun w hw => Kn.hd0 (Kn.tl hw)) rfl rfl ?_
  simp only [qz]
  refine rf_indexA (n := 2) (sz := 2) (j := 4) rfl rfl rfl rfl Try.underlying68 Kx (by decide) rfl ?_
  simp only [qz]
  refine rf_loadR (n := 2) rfl rfl rfl Try.underlying67 rfl Kx (fun w hw => Kn.hd0 (Kn.tl hw)) rfl rfl ?_
  simp only [qz]
  refine rf_indexA (n := 1) (sz := 2) (j := 2) rfl rfl rfl rfl Try.underlying68 Kx (by decide) rfl ?_
  simp only [qz]
  refine rf_loadR (n := 2) rfl rfl rfl Try.underlying67 rfl Kx (fun w hw => Kn.hd0 (Kn.tl hw)) rfl rfl ?_
  simp only [qz]
  refine rf_indexA (n := 3) (sz := 2) (j := 6) rfl rfl rfl rfl Try.underlying68 Kx (by decide) rfl ?_
  simp only [qz]
  refine rf_loadR (n := 2) rfl rfl rfl Try.underlying67 rfl Kx (fun w hw => Kn.hd0 (Kn.tl hw)) rfl rfl ?_
  simp only [qz]
  refine rf_indexA (n := 2) (sz := 2) (j := 4) rfl rfl rfl rfl Try.underlying68 Kx (by decide) rfl ?_
  simp only [qz]
  refine rf_loadR (n := 2) rfl rfl rfl Try.underlying67 rfl Kx (fun w hw => Kn.hd0 (Kn.tl hw)) rfl rfl ?_
  simp only [qz]
  refine rf_indexA (n := 0) (sz := 2) (j := 0) rfl rfl rfl rfl Try.underlying68 Kx (by decide) rfl ?_
  simp only [qz]
  refine rf_loadR (n := 2) rfl rfl rfl Try.underlying67 rfl Kx (fun w hw => Kn.hd0 (Kn.tl hw)) rfl rfl ?_
  simp only [qz]
  apply (rg_made (T := fun v u => ∃ s, v = bgV (z.b - z.d) s ∧ SU u s (z.b - z.d).natAbs)) Rx Kx
  case hargs => exact Ax
  case h => exact fun w hw => bsub_any z.b z.d _ _ lb ld w (hb.kn hw) (hd.kn hw)
  case hz => exact (fun _ h => by cases h; exact (sc _ (sc _ sn)))
  rintro _ u3 ⟨s3, rfl, hS3⟩
  obtain ⟨⟨sa3, sc3, rfl⟩, -⟩ := id hS3
  simp only [qz]
  apply (rg_made (T := fun v u => ∃ s, v = bgV (z.a + z.c) s ∧ SU u s (z.a + z.c).natAbs)) Rx Kx
  case hargs => exact Ax
  case h => exact fun w hw => badd_any z.a z.c _ _ la lc w (ha.kn hw) (hc.kn hw)
  case hz => exact (fun _ h => by cases h; exact ((sc _ (sc _ sn)).trans (List.sublist_append_right _ _)))
  rintro _ u4 ⟨s4, rfl, hS4⟩
  obtain ⟨⟨sa4, sc4, rfl⟩, -⟩ := id hS4
  simp only [qz]
  apply (rg_made (T := fun v u => ∃ s, v = bgV (z.b + z.d) s ∧ SU u s (z.b + z.d).natAbs)) Rx Kx
  case hargs => exact Ax
  case h => exact fun w hw => badd_any z.b z.d _ _ lb ld w (hb.kn hw) (hd.kn hw)
  case hz => exact (fun _ h => by cases h; exact (((sc _ (sc _ sn)).trans (List.sublist_append_right _ _)).trans (List.sublist_append_right _ _)))
  rintro _ u5 ⟨s5, rfl, hS5⟩
  obtain ⟨⟨sa5, sc5, rfl⟩, -⟩ := id hS5
  simp only [qz]
  apply (rg_made (T := fun v u => ∃ s, v = bgV (z.c - z.a) s ∧ SU u s (z.c - z.a).natAbs)) Rx Kx
  case hargs => exact Ax
  case h => exact fun w hw => bsub_any z.c z.a _ _ lc la w (hc.kn hw) (ha.kn hw)
  case hz => exact (fun _ h => by cases h; exact ((((sc _ (sc _ sn)).trans (List.sublist_append_right _ _)).trans (List.sublist_append_right _ _)).trans (List.sublist_append_right _ _)))
  rintro _ u6 ⟨s6, rfl, hS6⟩
  obtain ⟨⟨sa6, sc6, rfl⟩, -⟩ := id hS6
  simp only [qz]
  refine rf_build (cs := fun a => #[cellAt (a.eval (.tmp 7)) 0, cellAt (a.eval (.tmp 7)) 1, cellAt (a.eval (.tmp 12)) 0, cellAt (a.eval (.tmp 12)) 1, cellAt (a.eval (.tmp 17)) 0, cellAt (a.eval (.tmp 17)) 1, cellAt (a.eval (.tmp 22)) 0, cellAt (a.eval (.tmp 22)) 1]) rfl rfl Kx ?_
  simp only [qz]
  refine rf_storeRM (n := 8) rfl rfl Kx rfl rfl (UpdR.app _ (UpdR.app _ (UpdR.app _ (UpdR.app _ (UpdR.here _ _ _ Nl))))) (((((sk _ (sc _ sn)).trans (List.sublist_append_right _ _)).trans (List.sublist_append_right _ _)).trans (List.sublist_append_right _ _)).trans (List.sublist_append_right _ _)) ?_
  simp only [qz, Nat.reduceAdd]
  refine rg_nil (ek_next (wk_ret ?_))
  refine ek_ret (fun w hw => ⟨rfl, _, run_results1 rfl rfl (Kn.hd0 (Kn.tlU (Kn.tlU (Kn.tlU (Kn.tlU hw))))) Try.underlying68 rfl Kx, ?_⟩)
  (try simp only [qz])
  exact ⟨_, (u6 ++ (u5 ++ (u4 ++ u3))), rfl, ⟨_, _, _, _, rfl, ⟨(hS3.mono ((((List.Sublist.refl _).trans (List.sublist_append_right _ _)).trans (List.sublist_append_right _ _)).trans (List.sublist_append_right _ _))), (hS4.mono (((List.sublist_append_left _ _).trans (List.sublist_append_right _ _)).trans (List.sublist_append_right _ _))), (hS5.mono ((List.sublist_append_left _ _).trans (List.sublist_append_right _ _))), (hS6.mono (List.sublist_append_left _ _))⟩⟩, hw.made (List.Sublist.append_left (List.Sublist.append_left (List.Sublist.append_left (List.sublist_append_left _ _) _) _) _)⟩

set_option maxRecDepth 100000 in
set_option maxHeartbeats 1000000 in
theorem wideOf_any (z : Nm) (hz : z.Fit 4611686018427387903) (w : World) : Calls Try.prog 51 #[nmV z] w fun e w' => RetW w z e w' := by
  obtain ⟨fa0, fa1, fb0, fb1, fc0, fc1, fd0, fd1⟩ := id hz
  go_enter Try.func51, Try.ntmps51
  refine wk_start ?_
  refine wk_seq ?_
  refine wk_region [1, 1] rfl Kx ?_
  simp only [qy]
  refine Rgn fun g1 => ?_
  simp only [qz]
  refine Rgn fun g2 => ?_
  simp only [qz]
  refine rg_nil (ek_next (wk_seq ?_))
  refine wk_region [1] rfl Kx ?_
  simp only [qy]
  refine Rgn fun g3 => ?_
  simp only [qz]
  refine rg_nil (ek_next (wk_seq (wk_seq ?_)))
  refine wk_region [0] rfl Kx ?_
  simp only [qy]
  refine rg_assign ?_
  simp only [qz]
  refine rg_nil (ek_next (wk_block ?_))
  refine wk_unroll 4 ?_
  refine wk_seq (wk_seq ?_)
  refine wk_region [0, 0] rfl Kx ?_
  simp only [qy]
  refine rg_move ?_
  simp only [qz]
  refine rf_lss (b := true) rfl rfl rfl rfl (by decide) ?_
  simp only [qz]
  refine rg_nil (ek_next (wk_cond_t rfl (wk_skip (ek_next (wk_seq (wk_block ?_))))))
  refine wk_region [0, 0, 0, 0, 0, 1, 0, 0, 1] rfl Kx ?_
  simp only [qy]
  refine rg_move ?_
  simp only [qz]
  refine rg_move ?_
  simp only [qz]
  refine rf_field (n := 3) (j := 0) rfl rfl rfl Try.underlying45 rfl Kx rfl ?_
  simp only [qz]
  refine rf_indexA (n := 0) (sz := 1) (j := 0) rfl rfl rfl rfl Try.underlying43 Kx (by decide) rfl ?_
  simp only [qz]
  refine rf_load rfl rfl rfl Try.underlying3 rfl (fun w hw => (Kn.hd0 (Kn.tl (Kn.tl hw))).at rfl) ?_
  simp only [qz]
  apply (rg_made (T := fun v u => ∃ s, v = bgV (z.a) s ∧ SU u s (z.a).natAbs)) Rx Kx
  case hargs => exact Ax
  case h => exact fun w hw => bigOf_any z.a Ox Ox w
  case hz => exact Nz
  rintro _ u4 ⟨s4, rfl, hS4⟩
  obtain ⟨⟨sa4, sc4, rfl⟩, -⟩ := id hS4
  simp only [qz]
  refine rf_field (n := 7) (j := 0) rfl rfl rfl Try.underlying70 rfl Kx rfl ?_
  simp only [qz]
  refine rf_indexA (n := 0) (sz := 2) (j := 0) rfl rfl rfl rfl Try.underlying68 Kx (by decide) rfl ?_
  simp only [qz]
  refine rf_storeR (n := 2) rfl rfl Kx rfl rfl (UpdR.app _ (UpdR.here _ _ _ Nl)) Nz ?_
  simp only [qz, Nat.reduceAdd]
  refine rg_nil (ek_block (ek_next ?_))
  refine wk_region [0, 0, 0] rfl Kx ?_
  simp only [qy]
  refine rg_move ?_
  simp only [qz]
  refine rf_add (r := 1) rfl rfl rfl rfl (by decide) ?_
  simp only [qz]
  refine rg_assign ?_
  simp only [qz]
  refine rg_nil (ek_again (wk_seq (wk_seq ?_)))
  refine wk_region [0, 0] rfl Kx ?_
  simp only [qy]
  refine rg_move ?_
  simp only [qz]
  refine rf_lss (b := true) rfl rfl rfl rfl (by decide) ?_
  simp only [qz]
  refine rg_nil (ek_next (wk_cond_t rfl (wk_skip (ek_next (wk_seq (wk_block ?_))))))
  refine wk_region [0, 0, 0, 0, 0, 1, 0, 0, 1] rfl Kx ?_
  simp only [qy]
  refine rg_move ?_
  simp only [qz]
  refine rg_move ?_
  simp only [qz]
  refine rf_field (n := 3) (j := 0) rfl rfl rfl Try.underlying45 rfl Kx rfl ?_
  simp only [qz]
  refine rf_indexA (n := 1) (sz := 1) (j := 1) rfl rfl rfl rfl Try.underlying43 Kx (by decide) rfl ?_
  simp only [qz]
  refine rf_load rfl rfl rfl Try.underlying3 rfl (fun w hw => (Kn.hd0 (Kn.tl (Kn.tl (Kn.tlU hw)))).at rfl) ?_
  simp only [qz]
  apply (rg_made (T := fun v u => ∃ s, v = bgV (z.b) s ∧ SU u s (z.b).natAbs)) Rx Kx
  case hargs => exact Ax
  case h => exact fun w hw => bigOf_any z.b Ox Ox w
  case hz => exact Nz
  rintro _ u5 ⟨s5, rfl, hS5⟩
  obtain ⟨⟨sa5, sc5, rfl⟩, -⟩ := id hS5
  simp only [qz]
  refine rf_field (n := 7) (j := 0) rfl rfl rfl Try.underlying70 rfl Kx rfl ?_
  simp only [qz]
  refine rf_indexA (n := 1) (sz := 2) (j := 2) rfl rfl rfl rfl Try.underlying68 Kx (by decide) rfl ?_
  simp only [qz]
  refine rf_storeR (n := 2) rfl rfl Kx rfl rfl (UpdR.app _ (UpdR.app _ (UpdR.here _ _ _ Nl))) Nz ?_
  simp only [qz, Nat.reduceAdd]
  refine rg_nil (ek_block (ek_next ?_))
  refine wk_region [0, 0, 0] rfl Kx ?_
  simp only [qy]
  refine rg_move ?_
  simp only [qz]
  refine rf_add (r := 2) rfl rfl rfl rfl (by decide) ?_
  simp only [qz]
  refine rg_assign ?_
  simp only [qz]
  refine rg_nil (ek_again (wk_seq (wk_seq ?_)))
  refine wk_region [0, 0] rfl Kx ?_
  simp only [qy]
  refine rg_move ?_
  simp only [qz]
  refine rf_lss (b := true) rfl rfl rfl rfl (by decide) ?_
  simp only [qz]
  refine rg_nil (ek_next (wk_cond_t rfl (wk_skip (ek_next (wk_seq (wk_block ?_))))))
  refine wk_region [0, 0, 0, 0, 0, 1, 0, 0, 1] rfl Kx ?_
  simp only [qy]
  refine rg_move ?_
  simp only [qz]
  refine rg_move ?_
  simp only [qz]
  refine rf_field (n := 3) (j := 0) rfl rfl rfl Try.underlying45 rfl Kx rfl ?_
  simp only [qz]
  refine rf_indexA (n := 2) (sz := 1) (j := 2) rfl rfl rfl rfl Try.underlying43 Kx (by decide) rfl ?_
  simp only [qz]
  refine rf_load rfl rfl rfl Try.underlying3 rfl (fun w hw => (Kn.hd0 (Kn.tl (Kn.tl (Kn.tlU (Kn.tlU hw))))).at rfl) ?_
  simp only [qz]
  apply (rg_made (T := fun v u => ∃ s, v = bgV (z.c) s ∧ SU u s (z.c).natAbs)) Rx Kx
  case hargs => exact Ax
  case h => exact fun w hw => bigOf_any z.c Ox Ox w
  case hz => exact Nz
  rintro _ u6 ⟨s6, rfl, hS6⟩
  obtain ⟨⟨sa6, sc6, rfl⟩, -⟩ := id hS6
  simp only [qz]
  refine rf_field (n := 7) (j := 0) rfl rfl rfl Try.underlying70 rfl Kx rfl ?_
  simp only [qz]
  refine rf_indexA (n := 2) (sz := 2) (j := 4) rfl rfl rfl rfl Try.underlying68 Kx (by decide) rfl ?_
  simp only [qz]
  refine rf_storeR (n := 2) rfl rfl Kx rfl rfl (UpdR.app _ (UpdR.app _ (UpdR.app _ (UpdR.here _ _ _ Nl)))) Nz ?_
  simp only [qz, Nat.reduceAdd]
  refine rg_nil (ek_block (ek_next ?_))
  refine wk_region [0, 0, 0] rfl Kx ?_
  simp only [qy]
  refine rg_move ?_
  simp only [qz]
  refine rf_add (r := 3) rfl rfl rfl rfl (by decide) ?_
  simp only [qz]
  refine rg_assign ?_
  simp only [qz]
  refine rg_nil (ek_again (wk_seq (wk_seq ?_)))
  refine wk_region [0, 0] rfl Kx ?_
  simp only [qy]
  refine rg_move ?_
  simp only [qz]
  refine rf_lss (b := true) rfl rfl rfl rfl (by decide) ?_
  simp only [qz]
  refine rg_nil (ek_next (wk_cond_t rfl (wk_skip (ek_next (wk_seq (wk_block ?_))))))
  refine wk_region [0, 0, 0, 0, 0, 1, 0, 0, 1] rfl Kx ?_
  simp only [qy]
  refine rg_move ?_
  simp only [qz]
  refine rg_move ?_
  simp only [qz]
  refine rf_field (n := 3) (j := 0) rfl rfl rfl Try.underlying45 rfl Kx rfl ?_
  simp only [qz]
  refine rf_indexA (n := 3) (sz := 1) (j := 3) rfl rfl rfl rfl Try.underlying43 Kx (by decide) rfl ?_
  simp only [qz]
  refine rf_load rfl rfl rfl Try.underlying3 rfl (fun w hw => (Kn.hd0 (Kn.tl (Kn.tl (Kn.tlU (Kn.tlU (Kn.tlU hw)))))).at rfl) ?_
  simp only [qz]
  apply (rg_made (T := fun v u => ∃ s, v = bgV (z.d) s ∧ SU u s (z.d).natAbs)) Rx Kx
  case hargs => exact Ax
  case h => exact fun w hw => bigOf_any z.d Ox Ox w
  case hz => exact Nz
  rintro _ u7 ⟨s7, rfl, hS7⟩
  obtain ⟨⟨sa7, sc7, rfl⟩, -⟩ := id hS7
  simp only [qz]
  refine rf_field (n := 7) (j := 0) rfl rfl rfl Try.underlying70 rfl Kx rfl ?_
  simp only [qz]
  refine rf_indexA (n := 3) (sz := 2) (j := 6) rfl rfl rfl rfl Try.underlying68 Kx (by decide) rfl ?_
  simp only [qz]
  refine rf_storeR (n := 2) rfl rfl Kx rfl rfl (UpdR.app _ (UpdR.app _ (UpdR.app _ (UpdR.app _ (UpdR.here _ _ _ Nl))))) Nz ?_
  simp only [qz, Nat.reduceAdd]
  refine rg_nil (ek_block (ek_next ?_))
  refine wk_region [0, 0, 0] rfl Kx ?_
  simp only [qy]
  refine rg_move ?_
  simp only [qz]
  refine rf_add (r := 4) rfl rfl rfl rfl (by decide) ?_
  simp only [qz]
  refine rg_assign ?_
  simp only [qz]
  refine rg_nil (ek_again (wk_seq (wk_seq ?_)))
  refine wk_region [0, 0] rfl Kx ?_
  simp only [qy]
  refine rg_move ?_
  simp only [qz]
  refine rf_lss (b := false) rfl rfl rfl rfl (by decide) ?_
  simp only [qz]
  refine rg_nil (ek_next (wk_cond_f rfl (wk_exit (ek_then_exit (ek_then_exit (ek_block_exit (ek_next (wk_seq ?_))))))))
  refine wk_region [0, 0, 0, 1] rfl Kx ?_
  simp only [qy]
  refine rf_field (n := 0) (j := 4) rfl rfl rfl Try.underlying45 rfl Kx rfl ?_
  simp only [qz]
  refine rf_load rfl rfl rfl Try.underlying3 rfl (fun w hw => (Kn.hd0 (Kn.tl (Kn.tl (Kn.tlU (Kn.tlU (Kn.tlU (Kn.tlU hw))))))).at rfl) ?_
  simp only [qz]
  refine rf_field (n := 0) (j := 8) rfl rfl rfl Try.underlying70 rfl Kx rfl ?_
  simp only [qz]
  refine rf_store rfl rfl Kx rfl rfl (UpdR.app _ (UpdR.app _ (UpdR.app _ (UpdR.app _ (UpdR.here _ _ _ Nl))))) Nz ?_
  simp only [qz]
  refine rg_nil (ek_next (wk_seq ?_))
  refine wk_region [0, 1] rfl Kx ?_
  simp only [qy]
  refine rf_loadR (n := 9) rfl rfl rfl Try.underlying70 rfl Kx (fun w hw => Kn.hd0 (Kn.tlU (Kn.tlU (Kn.tlU (Kn.tlU hw))))) rfl rfl ?_
  simp only [qz]
  refine rf_storeR (n := 9) rfl rfl Kx rfl rfl (UpdR.app _ (UpdR.app _ (UpdR.app _ (UpdR.app _ (UpdR.there _ (UpdR.here _ _ _ Nl)))))) Nz ?_
  simp only [qz, Nat.reduceAdd]
  refine rg_nil (ek_next (wk_ret ?_))
  refine ek_ret (fun w hw => ⟨rfl, _, run_results1 rfl rfl (Kn.hd0 (Kn.tl (Kn.tlU (Kn.tlU (Kn.tlU (Kn.tlU hw)))))) Try.underlying70 rfl Kx, ?_⟩)
  (try simp only [qz])
  exact ⟨_, (u7 ++ (u6 ++ (u5 ++ u4))), rfl, ⟨_, _, _, _, rfl, ⟨(hS4.mono ((((List.Sublist.refl _).trans (List.sublist_append_right _ _)).trans (List.sublist_append_right _ _)).trans (List.sublist_append_right _ _))), (hS5.mono (((List.sublist_append_left _ _).trans (List.sublist_append_right _ _)).trans (List.sublist_append_right _ _))), (hS6.mono ((List.sublist_append_left _ _).trans (List.sublist_append_right _ _))), (hS7.mono (List.sublist_append_left _ _))⟩⟩, hw.made (List.Sublist.append_left (List.Sublist.append_left (List.Sublist.append_left (List.sublist_append_left _ _) _) _) _)⟩

end Go.Proofs.Ytccbinnlnkpplaa
namespace Go.Proofs.Ytccbinnlnkpplaa
set_option linter.all false
open Go.RowKit

set_option maxRecDepth 100000 in
set_option maxHeartbeats 1000000 in
theorem wconj_any (z : Nm) (s0 s1 s2 s3 : Value) (hz : z.Fit 9850501549098619803069760025035903451269934817616361666987073351061430442874302652853566563721228910201656997576704) (w : World) (hs : SA4 w z s0 s1 s2 s3) : Calls Try.prog 116 #[wdV z s0 s1 s2 s3] w fun e w' => e = .returned (wdV z.conj s0 s3 s2 s1) ∧ Below w.heap.size w w' := by
  obtain ⟨⟨a0, c0, rfl⟩, ⟨a1, c1, rfl⟩, ⟨a2, c2, rfl⟩, ⟨a3, c3, rfl⟩⟩ := (⟨hs.a.form, hs.b.form, hs.c.form, hs.d.form⟩ : _ ∧ _ ∧ _ ∧ _)
  obtain ⟨ha, hb, hc, hd⟩ := hs
  obtain ⟨la, lb, lc, ld⟩ := fit_big hz
  go_enter Try.func116, Try.ntmps116
  refine wk_start ?_
  refine wk_seq ?_
  refine wk_region [1, 1] rfl Kx ?_
  simp only [qy]
  refine Rgn fun g1 => ?_
  simp only [qz]
  refine Rgn fun g2 => ?_
  simp only [qz]
  refine rg_nil (ek_next (wk_seq ?_))
  refine wk_draws_m (hz1 := (sk _ (sc _ sn))) [(0, 0), (1, 0), (2, 0), (3, 0), (4, 0), (5, 0), (7, 0), (8, 0), (9, 0), (11, 0), (12, 0), (13, 0), (16, 0), (17, 0), (6, 1), (10, 1), (14, 1), (15, 0), (18, 0), (19, 2)] 19 Kx Kx (fun c d v a w h => by cases d <;> exact h) ?_
  simp only [List.map_cons, List.map_nil, List.getD_cons_zero, List.getD_cons_succ]
  refine rf_field (n := 7) (j := 0) rfl rfl rfl Try.underlying70 rfl Kx rfl ?_
  simp only [qz]
  refine rf_indexA (n := 0) (sz := 2) (j := 0) rfl rfl rfl rfl Try.underlying68 Kx (by decide) rfl ?_
  simp only [qz]
  refine rf_loadR (n := 2) rfl rfl rfl Try.underlying67 rfl Kx (fun w hw => Kn.hd0 (Kn.tl hw)) rfl rfl ?_
  simp only [qz]
  refine rf_field (n := 7) (j := 0) rfl rfl rfl Try.underlying70 rfl Kx rfl ?_
  simp only [qz]
  refine rf_indexA (n := 3) (sz := 2) (j := 6) rfl rfl rfl rfl Try.underlying68 Kx (by decide) rfl ?_
  simp only [qz]
  refine rf_loadR (n := 2) rfl rfl rfl Try.underlying67 rfl Kx (fun w hw => Kn.hd0 (Kn.tl hw)) rfl rfl ?_
  simp only [qz]
  refine rf_field (n := 7) (j := 0) rfl rfl rfl Try.underlying70 rfl Kx rfl ?_
  simp only [qz]
  refine rf_indexA (n := 2) (sz := 2) (j := 4) rfl rfl rfl rfl Try.underlying68 Kx (by decide) rfl ?_
  simp only [qz]
  refine rf_loadR (n := 2) rfl rfl rfl Try.underlying67 rfl Kx (fun w hw => Kn.hd0 (Kn.tl hw)) rfl rfl ?_
  simp only [qz]
  refine rf_field (n := 7) (j := 0) rfl rfl rfl Try.underlying70 rfl Kx rfl ?_
  simp only [qz]
  refine rf_indexA (n := 1) (sz := 2) (j := 2) rfl rfl rfl rfl Try.underlying68 Kx (by decide) rfl ?_
  simp only [qz]
  refine rf_loadR (n := 2) rfl rfl rfl Try.underlying67 rfl Kx (fun w hw => Kn.hd0 (Kn.tl hw)) rfl rfl ?_
  simp only [qz]
  refine rf_field (n := 0) (j := 8) rfl rfl rfl Try.underlying70 rfl Kx rfl ?_
  simp only [qz]
  refine rf_load rfl rfl rfl Try.underlying3 rfl (fun w hw => (Kn.hd0 (Kn.tl hw)).at rfl) ?_
  simp only [qz]
  apply rg_pure Rx Kx
  case hargs => exact Ax
  case h => exact fun w hw => bneg_any z.d _ ld w (hd.kn hw)
  case hz => exact (fun _ h => by cases h; exact (sc _ (sc _ sn)))
  simp only [qz]
  apply rg_pure Rx Kx
  case hargs => exact Ax
  case h => exact fun w hw => bneg_any z.c _ lc w (hc.kn hw)
  case hz => exact (fun _ h => by cases h; exact (sc _ (sc _ sn)))
  simp only [qz]
  apply rg_pure Rx Kx
  case hargs => exact Ax
  case h => exact fun w hw => bneg_any z.b _ lb w (hb.kn hw)
  case hz => exact (fun _ h => by cases h; exact (sc _ (sc _ sn)))
  simp only [qz]
  refine rf_build (cs := fun a => #[cellAt (a.eval (.tmp 5)) 0, cellAt (a.eval (.tmp 5)) 1, cellAt (a.eval (.tmp 9)) 0, cellAt (a.eval (.tmp 9)) 1, cellAt (a.eval (.tmp 13)) 0, cellAt (a.eval (.tmp 13)) 1, cellAt (a.eval (.tmp 17)) 0, cellAt (a.eval (.tmp 17)) 1]) rfl rfl Kx ?_
  simp only [qz]
  refine rf_build (cs := fun a => #[cellAt (a.eval (.tmp 18)) 0, cellAt (a.eval (.tmp 18)) 1, cellAt (a.eval (.tmp 18)) 2, cellAt (a.eval (.tmp 18)) 3, cellAt (a.eval (.tmp 18)) 4, cellAt (a.eval (.tmp 18)) 5, cellAt (a.eval (.tmp 18)) 6, cellAt (a.eval (.tmp 18)) 7, a.eval (.tmp 20)]) rfl rfl Kx ?_
  simp only [qz]
  refine rf_storeRM (n := 9) rfl rfl Kx rfl rfl (UpdR.here _ _ _ Nl) (sk _ (sc _ sn)) ?_
  simp only [qz, Nat.reduceAdd]
  refine rg_nil (ek_next (wk_ret ?_))
  refine ek_ret (fun w hw => ⟨rfl, _, run_results1 rfl rfl (Kn.hd0 hw) Try.underlying70 rfl Kx, ?_⟩)
  (try simp only [qz])
  first | exact ⟨rfl, hw.below⟩ | exact ⟨trivial, hw.below⟩ | exact hw.below

theorem up_fit_of {z : Nm} {m j : Nat} {M : Int} (h : (Nm.up m z).Fit M) (hj : j ≤ m) : (Nm.up j z).Fit M := by
  induction m with
  | zero => obtain rfl : j = 0 := Ox; exact h
  | succ m ih =>
    by_cases e : j = m + 1
    · subst e; exact h
    · refine ih ?_ Ox
      rw [Nm.up_succ1] at h
      have := Nm.step_fit h
      rwa [Nm.step_tr] at this
theorem addR_up {x y z v : Nm} {i j : Nat} (hx : Nm.up j x = z) (hy : Nm.up i y = v) (hk : z.k = v.k) (h1 : z.k = x.k + j) (h2 : j = 0 ∨ i = 0) : x.addR y = ⟨z.a + v.a, z.b + v.b, z.c + v.c, z.d + v.d, z.k⟩ := by
  have h3 : v.k = y.k + i := by rw [← hy, Nm.up_k]
  have hm : max x.k y.k = z.k := by omega
  have e1 : x.to (max x.k y.k) = z := by unfold Nm.to; rw [← hx]; congr 1; omega
  have e2 : y.to (max x.k y.k) = v := by unfold Nm.to; rw [← hy]; congr 1; omega
  unfold Nm.addR
  dsimp only
  rw [e1, e2, hm]
set_option maxRecDepth 100000 in
set_option maxHeartbeats 4000000 in
theorem wplus_any (x y : Nm) (s0 s1 s2 s3 : Value) (p0 p1 p2 p3 : Value) (hx : (x.to (max x.k y.k)).Fit 9850501549098619803069760025035903451269934817616361666987073351061430442874302652853566563721228910201656997576704) (hy : (y.to (max x.k y.k)).Fit 9850501549098619803069760025035903451269934817616361666987073351061430442874302652853566563721228910201656997576704) (hk : 0 ≤ x.k) (hk1 : x.k ≤ 10000) (hk2 : 0 ≤ y.k) (hk3 : y.k ≤ 10000) (w : World) (hs : SA4 w x s0 s1 s2 s3) (hs2 : SA4 w y p0 p1 p2 p3) : Calls Try.prog 52 #[wdV x s0 s1 s2 s3, wdV y p0 p1 p2 p3] w fun e w' => RetW w (x.addR y) e w' := by
  obtain ⟨⟨a0, c0, rfl⟩, ⟨a1, c1, rfl⟩, ⟨a2, c2, rfl⟩, ⟨a3, c3, rfl⟩⟩ := (⟨hs.a.form, hs.b.form, hs.c.form, hs.d.form⟩ : _ ∧ _ ∧ _ ∧ _)
  obtain ⟨⟨b0, d0, rfl⟩, ⟨b1, d1, rfl⟩, ⟨b2, d2, rfl⟩, ⟨b3, d3, rfl⟩⟩ := (⟨hs2.a.form, hs2.b.form, hs2.c.form, hs2.d.form⟩ : _ ∧ _ ∧ _ ∧ _)
  go_enter Try.func52, Try.ntmps52
  refine wk_start ?_
  refine wk_seq ?_
  refine wk_region [1, 1, 1] rfl Kx ?_
  simp only [qy]
  refine Rgn fun g1 => ?_
  simp only [qz]
  refine Rgn fun g2 => ?_
  simp only [qz]
  refine Rgn fun g3 => ?_
  simp only [qz]
  refine rg_nil (ek_next (wk_seq (wk_block ?_)))
  refine wk_loopF [6, 7, 8, 9, 10, 11, 12, 13, 14, 15, 16, 17, 18] (fun mz f s => ∃ (j : Nat) (z : Nm) (ta0 ta1 ta2 ta3 : Option Addr) (tc0 tc1 tc2 tc3 : Nat) (u : List Blk), s = (u ++ ((g3, .cells #[.bool false, .slice none 0 0, .bool false, .slice none 0 0, .bool false, .slice none 0 0, .bool false, .slice none 0 0, .int .i64 0] 70) :: ((g2, .cells #[.bool (decide (y.a < 0)), .slice b0 (digs y.a.natAbs).length d0, .bool (decide (y.b < 0)), .slice b1 (digs y.b.natAbs).length d1, .bool (decide (y.c < 0)), .slice b2 (digs y.c.natAbs).length d2, .bool (decide (y.d < 0)), .slice b3 (digs y.d.natAbs).length d3, .int .i64 y.k] 70) :: ((g1, .cells #[.bool (decide (z.a < 0)), .slice ta0 (digs z.a.natAbs).length tc0, .bool (decide (z.b < 0)), .slice ta1 (digs z.b.natAbs).length tc1, .bool (decide (z.c < 0)), .slice ta2 (digs z.c.natAbs).length tc2, .bool (decide (z.d < 0)), .slice ta3 (digs z.d.natAbs).length tc3, .int .i64 z.k] 70) :: [])))) ∧ mz = 20000 - j ∧ Nm.up j x = z ∧ SK4 w u z (.slice ta0 (digs z.a.natAbs).length tc0) (.slice ta1 (digs z.b.natAbs).length tc1) (.slice ta2 (digs z.c.natAbs).length tc2) (.slice ta3 (digs z.d.natAbs).length tc3) ∧ z.Fit 9850501549098619803069760025035903451269934817616361666987073351061430442874302652853566563721228910201656997576704 ∧ z.k ≤ x.k + j ∧ x.k + j ≤ z.k ∧ (j = 0 ∨ z.k ≤ y.k)) ((fun (j : Nat) (z : Nm) (ta0 ta1 ta2 ta3 : Option Addr) (tc0 tc1 tc2 tc3 : Nat) (u : List Blk) => 20000 - j) (0) (x) (a0) (a1) (a2) (a3) (c0) (c1) (c2) (c3) ([])) ?_ Kx ?_
  · exact ⟨0, x, a0, a1, a2, a3, c0, c1, c2, c3, [], rfl, rfl, rfl, SK4.arg hs, up_fit_of (j := 0) hx Ox, by omega, by omega, .inl rfl⟩
  rintro mz f1 s ⟨j, z, ta0, ta1, ta2, ta3, tc0, tc1, tc2, tc3, u, rfl, hn, hc1, hc2, hc3, hc4, hc5, hc6⟩
  simp only [Act.putF, List.foldl_cons, List.foldl_nil, Act.put, Act.eval, q1, q2, q3, q4, q5, q6, q7, q8, q9, q10, q11, q12, q13, q14, q15, q16, q17, q18, Nat.reduceAdd, Bool.not_true, Bool.not_false]
  have hz0 := Lib.hid hc1
  clear hc1
  have hsk0 := hc2
  have hfit0 := hc3
  refine wk_seq (wk_seq ?_)
  refine wk_region [0, 0, 0, 0, 0] rfl Kx ?_
  simp only [qy]
  refine rf_field (n := 0) (j := 8) rfl rfl rfl Try.underlying70 rfl Kx rfl ?_
  simp only [qz]
  refine rf_load rfl rfl rfl Try.underlying3 rfl (fun w hw => (Kn.hd0 (Kn.tl (Kn.tl (Kn.tlU hw)))).at rfl) ?_
  simp only [qz]
  refine rf_field (n := 0) (j := 8) rfl rfl rfl Try.underlying70 rfl Kx rfl ?_
  simp only [qz]
  refine rf_load rfl rfl rfl Try.underlying3 rfl (fun w hw => (Kn.hd0 (Kn.tl (Kn.tlU hw))).at rfl) ?_
  simp only [qz]
  refine rfb_lss rfl rfl rfl rfl ?_
  intro x h1
  cases x
  · (try simp only [qd, ne_eq] at h1)
    simp only [qz]
    refine rg_nil (ek_next (wk_cond_f rfl (wk_exit (ek_then_exit (ek_then_exit (ek_block_exit (ek_next (wk_seq (wk_block ?_)))))))))
    refine wk_loopF [19, 20, 21, 22, 23, 24, 25, 26, 27, 28, 29, 30, 31] (fun mz f s => ∃ (i : Nat) (z2 : Nm) (pa0 pa1 pa2 pa3 : Option Addr) (pc0 pc1 pc2 pc3 : Nat) (u2 : List Blk), s = (u2 ++ (u ++ ((g3, .cells #[.bool false, .slice none 0 0, .bool false, .slice none 0 0, .bool false, .slice none 0 0, .bool false, .slice none 0 0, .int .i64 0] 70) :: ((g2, .cells #[.bool (decide (z2.a < 0)), .slice pa0 (digs z2.a.natAbs).length pc0, .bool (decide (z2.b < 0)), .slice pa1 (digs z2.b.natAbs).length pc1, .bool (decide (z2.c < 0)), .slice pa2 (digs z2.c.natAbs).length pc2, .bool (decide (z2.d < 0)), .slice pa3 (digs z2.d.natAbs).length pc3, .int .i64 z2.k] 70) :: ((g1, .cells #[.bool (decide (z.a < 0)), .slice ta0 (digs z.a.natAbs).length tc0, .bool (decide (z.b < 0)), .slice ta1 (digs z.b.natAbs).length tc1, .bool (decide (z.c < 0)), .slice ta2 (digs z.c.natAbs).length tc2, .bool (decide (z.d < 0)), .slice ta3 (digs z.d.natAbs).length tc3, .int .i64 z.k] 70) :: []))))) ∧ mz = 20000 - i ∧ Nm.up i y = z2 ∧ SK4 w u2 z2 (.slice pa0 (digs z2.a.natAbs).length pc0) (.slice pa1 (digs z2.b.natAbs).length pc1) (.slice pa2 (digs z2.c.natAbs).length pc2) (.slice pa3 (digs z2.d.natAbs).length pc3) ∧ z2.Fit 9850501549098619803069760025035903451269934817616361666987073351061430442874302652853566563721228910201656997576704 ∧ z2.k ≤ y.k + i ∧ y.k + i ≤ z2.k ∧ (i = 0 ∨ z2.k ≤ z.k)) ((fun (i : Nat) (z2 : Nm) (pa0 pa1 pa2 pa3 : Option Addr) (pc0 pc1 pc2 pc3 : Nat) (u2 : List Blk) => 20000 - i) (0) (y) (b0) (b1) (b2) (b3) (d0) (d1) (d2) (d3) ([])) ?_ Kx ?_
    · exact ⟨0, y, b0, b1, b2, b3, d0, d1, d2, d3, [], rfl, rfl, rfl, SK4.arg hs2, up_fit_of (j := 0) hy Ox, by omega, by omega, .inl rfl⟩
    rintro mz f2 s ⟨i, z2, pa0, pa1, pa2, pa3, pc0, pc1, pc2, pc3, u2, rfl, hn, hd1, hd2, hd3, hd4, hd5, hd6⟩
    simp only [Act.putF, List.foldl_cons, List.foldl_nil, Act.put, Act.eval, q1, q2, q3, q4, q5, q6, q7, q8, q9, q10, q11, q12, q13, q14, q15, q16, q17, q18, Nat.reduceAdd, Bool.not_true, Bool.not_false]
    have hz1 := Lib.hid hd1
    clear hd1
    have hsk1 := hd2
    have hfit1 := hd3
    refine wk_seq (wk_seq ?_)
    refine wk_region [0, 0, 0, 0, 0] rfl Kx ?_
    simp only [qy]
    refine rf_field (n := 0) (j := 8) rfl rfl rfl Try.underlying70 rfl Kx rfl ?_
    simp only [qz]
    refine rf_load rfl rfl rfl Try.underlying3 rfl (fun w hw => (Kn.hd0 (Kn.tl (Kn.tlU (Kn.tlU hw)))).at rfl) ?_
    simp only [qz]
    refine rf_field (n := 0) (j := 8) rfl rfl rfl Try.underlying70 rfl Kx rfl ?_
    simp only [qz]
    refine rf_load rfl rfl rfl Try.underlying3 rfl (fun w hw => (Kn.hd0 (Kn.tl (Kn.tl (Kn.tlU (Kn.tlU hw))))).at rfl) ?_
    simp only [qz]
    refine rfb_lss rfl rfl rfl rfl ?_
    intro x h2
    cases x
    · (try simp only [qd, ne_eq] at h2)
      simp only [qz]
      refine rg_nil (ek_next (wk_cond_f rfl (wk_exit (ek_then_exit (ek_then_exit (ek_block_exit (ek_next (wk_seq (wk_seq ?_)))))))))
      refine wk_region [0] rfl Kx ?_
      simp only [qy]
      refine rg_assign ?_
      simp only [qz]
      refine rg_nil (ek_next (wk_block ?_))
      refine wk_unroll 4 ?_
      refine wk_seq (wk_seq ?_)
      refine wk_region [0, 0] rfl Kx ?_
      simp only [qy]
      refine rg_move ?_
      simp only [qz]
      refine rf_lss (b := true) rfl rfl rfl rfl (by decide) ?_
      simp only [qz]
      refine rg_nil (ek_next (wk_cond_t rfl (wk_skip (ek_next (wk_seq (wk_block ?_))))))
      refine wk_draws_m (hz1 := (List.Sublist.append_left (List.Sublist.append_left (sc _ (sc _ (sk _ sn))) _) _)) [(0, 0), (1, 0), (2, 0), (3, 0), (4, 0), (5, 0), (6, 0), (7, 0), (8, 0), (10, 3), (9, 1), (11, 0), (12, 2)] 12 Kx Kx (fun c d v a w h => by cases d <;> exact h) ?_
      simp only [List.map_cons, List.map_nil, List.getD_cons_zero, List.getD_cons_succ]
      refine rg_move ?_
      simp only [qz]
      refine rg_move ?_
      simp only [qz]
      refine rf_field (n := 7) (j := 0) rfl rfl rfl Try.underlying70 rfl Kx rfl ?_
      simp only [qz]
      refine rf_indexA (n := 0) (sz := 2) (j := 0) rfl rfl rfl rfl Try.underlying68 Kx (by decide) rfl ?_
      simp only [qz]
      refine rf_loadR (n := 2) rfl rfl rfl Try.underlying67 rfl Kx (fun w hw => Kn.hd0 (Kn.tl (Kn.tl (Kn.tlU (Kn.tlU hw))))) rfl rfl ?_
      simp only [qz]
      refine rg_move ?_
      simp only [qz]
      refine rf_field (n := 7) (j := 0) rfl rfl rfl Try.underlying70 rfl Kx rfl ?_
      simp only [qz]
      refine rf_indexA (n := 0) (sz := 2) (j := 0) rfl rfl rfl rfl Try.underlying68 Kx (by decide) rfl ?_
      simp only [qz]
      refine rf_loadR (n := 2) rfl rfl rfl Try.underlying67 rfl Kx (fun w hw => Kn.hd0 (Kn.tl (Kn.tlU (Kn.tlU hw)))) rfl rfl ?_
      simp only [qz]
      refine rf_field (n := 7) (j := 0) rfl rfl rfl Try.underlying70 rfl Kx rfl ?_
      simp only [qz]
      obtain ⟨la, lb, lc, ld⟩ := fit_big hfit0
      obtain ⟨ma, mb, mc, md⟩ := fit_big hfit1
      apply (rg_made (T := fun v u => ∃ s, v = bgV (z.a + z2.a) s ∧ SU u s (z.a + z2.a).natAbs)) Rx Kx
      case hargs => exact Ax
      case h => exact fun w hw => badd_any z.a z2.a _ _ la ma w (hsk0.a.at hw ((List.sublist_append_left _ _).trans (List.sublist_append_right _ _))) (hsk1.a.at hw (List.sublist_append_left _ _))
      case hz => exact (fun _ h => by cases h; exact (List.Sublist.append_left (List.Sublist.append_left (sc _ (sc _ (sc _ sn))) _) _))
      rintro _ u4 ⟨s4, rfl, hS4⟩
      obtain ⟨⟨sa4, sc4, rfl⟩, -⟩ := id hS4
      simp only [qz]
      refine rf_indexA (n := 0) (sz := 2) (j := 0) rfl rfl rfl rfl Try.underlying68 Kx (by decide) rfl ?_
      simp only [qz]
      refine rf_storeRM (n := 2) rfl rfl Kx rfl rfl (UpdR.app _ (UpdR.app _ (UpdR.app _ (UpdR.there _ (UpdR.there _ (UpdR.here _ _ _ Nl)))))) ((List.Sublist.append_left (List.Sublist.append_left (sc _ (sc _ (sk _ sn))) _) _).trans (List.sublist_append_right _ _)) ?_
      simp only [qz, Nat.reduceAdd]
      refine rg_nil (ek_block (ek_next ?_))
      refine wk_region [0, 0, 0] rfl Kx ?_
      simp only [qy]
      refine rg_move ?_
      simp only [qz]
      refine rf_add (r := 1) rfl rfl rfl rfl (by decide) ?_
      simp only [qz]
      refine rg_assign ?_
      simp only [qz]
      refine rg_nil (ek_again (wk_seq (wk_seq ?_)))
      refine wk_region [0, 0] rfl Kx ?_
      simp only [qy]
      refine rg_move ?_
      simp only [qz]
      refine rf_lss (b := true) rfl rfl rfl rfl (by decide) ?_
      simp only [qz]
      refine rg_nil (ek_next (wk_cond_t rfl (wk_skip (ek_next (wk_seq (wk_block ?_))))))
      refine wk_draws_m (hz1 := (List.Sublist.append_left (List.Sublist.append_left (List.Sublist.append_left (sc _ (sc _ (sk _ sn))) _) _) _)) [(0, 0), (1, 0), (2, 0), (3, 0), (4, 0), (5, 0), (6, 0), (7, 0), (8, 0), (10, 3), (9, 1), (11, 0), (12, 2)] 12 Kx Kx (fun c d v a w h => by cases d <;> exact h) ?_
      simp only [List.map_cons, List.map_nil, List.getD_cons_zero, List.getD_cons_succ]
      refine rg_move ?_
      simp only [qz]
      refine rg_move ?_
      simp only [qz]
      refine rf_field (n := 7) (j := 0) rfl rfl rfl Try.underlying70 rfl Kx rfl ?_
      simp only [qz]
      refine rf_indexA (n := 1) (sz := 2) (j := 2) rfl rfl rfl rfl Try.underlying68 Kx (by decide) rfl ?_
      simp only [qz]
      refine rf_loadR (n := 2) rfl rfl rfl Try.underlying67 rfl Kx (fun w hw => Kn.hd0 (Kn.tl (Kn.tl (Kn.tlU (Kn.tlU (Kn.tlU hw)))))) rfl rfl ?_
      simp only [qz]
      refine rg_move ?_
      simp only [qz]
      refine rf_field (n := 7) (j := 0) rfl rfl rfl Try.underlying70 rfl Kx rfl ?_
      simp only [qz]
      refine rf_indexA (n := 1) (sz := 2) (j := 2) rfl rfl rfl rfl Try.underlying68 Kx (by decide) rfl ?_
      simp only [qz]
      refine rf_loadR (n := 2) rfl rfl rfl Try.underlying67 rfl Kx (fun w hw => Kn.hd0 (Kn.tl (Kn.tlU (Kn.tlU (Kn.tlU hw))))) rfl rfl ?_
      simp only [qz]
      refine rf_field (n := 7) (j := 0) rfl rfl rfl Try.underlying70 rfl Kx rfl ?_
      simp only [qz]
      apply (rg_made (T := fun v u => ∃ s, v = bgV (z.b + z2.b) s ∧ SU u s (z.b + z2.b).natAbs)) Rx Kx
      case hargs => exact Ax
      case h => exact fun w hw => badd_any z.b z2.b _ _ lb mb w (hsk0.b.at hw (((List.sublist_append_left _ _).trans (List.sublist_append_right _ _)).trans (List.sublist_append_right _ _))) (hsk1.b.at hw ((List.sublist_append_left _ _).trans (List.sublist_append_right _ _)))
      case hz => exact (fun _ h => by cases h; exact (List.Sublist.append_left (List.Sublist.append_left (List.Sublist.append_left (sc _ (sc _ (sc _ sn))) _) _) _))
      rintro _ u5 ⟨s5, rfl, hS5⟩
      obtain ⟨⟨sa5, sc5, rfl⟩, -⟩ := id hS5
      simp only [qz]
      refine rf_indexA (n := 1) (sz := 2) (j := 2) rfl rfl rfl rfl Try.underlying68 Kx (by decide) rfl ?_
      simp only [qz]
      refine rf_storeRM (n := 2) rfl rfl Kx rfl rfl (UpdR.app _ (UpdR.app _ (UpdR.app _ (UpdR.app _ (UpdR.there _ (UpdR.there _ (UpdR.here _ _ _ Nl))))))) ((List.Sublist.append_left (List.Sublist.append_left (List.Sublist.append_left (sc _ (sc _ (sk _ sn))) _) _) _).trans (List.sublist_append_right _ _)) ?_
      simp only [qz, Nat.reduceAdd]
      refine rg_nil (ek_block (ek_next ?_))
      refine wk_region [0, 0, 0] rfl Kx ?_
      simp only [qy]
      refine rg_move ?_
      simp only [qz]
      refine rf_add (r := 2) rfl rfl rfl rfl (by decide) ?_
      simp only [qz]
      refine rg_assign ?_
      simp only [qz]
      refine rg_nil (ek_again (wk_seq (wk_seq ?_)))
      refine wk_region [0, 0] rfl Kx ?_
      simp only [qy]
      refine rg_move ?_
      simp only [qz]
      refine rf_lss (b := true) rfl rfl rfl rfl (by decide) ?_
      simp only [qz]
      refine rg_nil (ek_next (wk_cond_t rfl (wk_skip (ek_next (wk_seq (wk_block ?_))))))
      refine wk_draws_m (hz1 := (List.Sublist.append_left (List.Sublist.append_left (List.Sublist.append_left (List.Sublist.append_left (sc _ (sc _ (sk _ sn))) _) _) _) _)) [(0, 0), (1, 0), (2, 0), (3, 0), (4, 0), (5, 0), (6, 0), (7, 0), (8, 0), (10, 3), (9, 1), (11, 0), (12, 2)] 12 Kx Kx (fun c d v a w h => by cases d <;> exact h) ?_
      simp only [List.map_cons, List.map_nil, List.getD_cons_zero, List.getD_cons_succ]
      refine rg_move ?_
      simp only [qz]
      refine rg_move ?_
      simp only [qz]
      refine rf_field (n := 7) (j := 0) rfl rfl rfl Try.underlying70 rfl Kx rfl ?_
      simp only [qz]
      refine rf_indexA (n := 2) (sz := 2) (j := 4) rfl rfl rfl rfl Try.underlying68 Kx (by decide) rfl ?_
      simp only [qz]
      refine rf_loadR (n := 2) rfl rfl rfl Try.underlying67 rfl Kx (fun w hw => Kn.hd0 (Kn.tl (Kn.tl (Kn.tlU (Kn.tlU (Kn.tlU (Kn.tlU hw))))))) rfl rfl ?_
      simp only [qz]
      refine rg_move ?_
      simp only [qz]
      refine rf_field (n := 7) (j := 0) rfl rfl rfl Try.underlying70 rfl Kx rfl ?_
      simp only [qz]
      refine rf_indexA (n := 2) (sz := 2) (j := 4) rfl rfl rfl rfl Try.underlying68 Kx (by decide) rfl ?_
      simp only [qz]
      refine rf_loadR (n := 2) rfl rfl rfl Try.underlying67 rfl Kx (fun w hw => Kn.hd0 (Kn.tl (Kn.tlU (Kn.tlU (Kn.tlU (Kn.tlU hw)))))) rfl rfl ?_
      simp only [qz]
      refine rf_field (n := 7) (j := 0) rfl rfl rfl Try.underlying70 rfl Kx rfl ?_
      simp only [qz]
      apply (rg_made (T := fun v u => ∃ s, v = bgV (z.c + z2.c) s ∧ SU u s (z.c + z2.c).natAbs)) Rx Kx
      case hargs => exact Ax
      case h => exact fun w hw => badd_any z.c z2.c _ _ lc mc w (hsk0.c.at hw ((((List.sublist_append_left _ _).trans (List.sublist_append_right _ _)).trans (List.sublist_append_right _ _)).trans (List.sublist_append_right _ _))) (hsk1.c.at hw (((List.sublist_append_left _ _).trans (List.sublist_append_right _ _)).trans (List.sublist_append_right _ _)))
      case hz => exact (fun _ h => by cases h; exact (List.Sublist.append_left (List.Sublist.append_left (List.Sublist.append_left (List.Sublist.append_left (sc _ (sc _ (sc _ sn))) _) _) _) _))
      rintro _ u6 ⟨s6, rfl, hS6⟩
      obtain ⟨⟨sa6, sc6, rfl⟩, -⟩ := id hS6
      simp only [qz]
      refine rf_indexA (n := 2) (sz := 2) (j := 4) rfl rfl rfl rfl Try.underlying68 Kx (by decide) rfl ?_
      simp only [qz]
      refine rf_storeRM (n := 2) rfl rfl Kx rfl rfl (UpdR.app _ (UpdR.app _ (UpdR.app _ (UpdR.app _ (UpdR.app _ (UpdR.there _ (UpdR.there _ (UpdR.here _ _ _ Nl)))))))) ((List.Sublist.append_left (List.Sublist.append_left (List.Sublist.append_left (List.Sublist.append_left (sc _ (sc _ (sk _ sn))) _) _) _) _).trans (List.sublist_append_right _ _)) ?_
      simp only [qz, Nat.reduceAdd]
      refine rg_nil (ek_block (ek_next ?_))
      refine wk_region [0, 0, 0] rfl Kx ?_
      simp only [qy]
      refine rg_move ?_
      simp only [qz]
      refine rf_add (r := 3) rfl rfl rfl rfl (by decide) ?_
      simp only [qz]
      refine rg_assign ?_
      simp only [qz]
      refine rg_nil (ek_again (wk_seq (wk_seq ?_)))
      refine wk_region [0, 0] rfl Kx ?_
      simp only [qy]
      refine rg_move ?_
      simp only [qz]
      refine rf_lss (b := true) rfl rfl rfl rfl (by decide) ?_
      simp only [qz]
      refine rg_nil (ek_next (wk_cond_t rfl (wk_skip (ek_next (wk_seq (wk_block ?_))))))
      refine wk_draws_m (hz1 := (List.Sublist.append_left (List.Sublist.append_left (List.Sublist.append_left (List.Sublist.append_left (List.Sublist.append_left (sc _ (sc _ (sk _ sn))) _) _) _) _) _)) [(0, 0), (1, 0), (2, 0), (3, 0), (4, 0), (5, 0), (6, 0), (7, 0), (8, 0), (10, 3), (9, 1), (11, 0), (12, 2)] 12 Kx Kx (fun c d v a w h => by cases d <;> exact h) ?_
      simp only [List.map_cons, List.map_nil, List.getD_cons_zero, List.getD_cons_succ]
      refine rg_move ?_
      simp only [qz]
      refine rg_move ?_
      simp only [qz]
      refine rf_field (n := 7) (j := 0) rfl rfl rfl Try.underlying70 rfl Kx rfl ?_
      simp only [qz]
      refine rf_indexA (n := 3) (sz := 2) (j := 6) rfl rfl rfl rfl Try.underlying68 Kx (by decide) rfl ?_
      simp only [qz]
      refine rf_loadR (n := 2) rfl rfl rfl Try.underlying67 rfl Kx (fun w hw => Kn.hd0 (Kn.tl (Kn.tl (Kn.tlU (Kn.tlU (Kn.tlU (Kn.tlU (Kn.tlU hw)))))))) rfl rfl ?_
      simp only [qz]
      refine rg_move ?_
      simp only [qz]
      refine rf_field (n := 7) (j := 0) rfl rfl rfl Try.underlying70 rfl Kx rfl ?_
      simp only [qz]
      refine rf_indexA (n := 3) (sz := 2) (j := 6) rfl rfl rfl rfl Try.underlying68 Kx (by decide) rfl ?_
      simp only [qz]
      refine rf_loadR (n := 2) rfl rfl rfl Try.underlying67 rfl Kx (fun w hw => Kn.hd0 (Kn.tl (Kn.tlU (Kn.tlU (Kn.tlU (Kn.tlU (Kn.tlU hw))))))) rfl rfl ?_
      simp only [qz]
      refine rf_field (n := 7) (j := 0) rfl rfl rfl Try.underlying70 rfl Kx rfl ?_
      simp only [qz]
      apply (rg_made (T := fun v u => ∃ s, v = bgV (z.d + z2.d) s ∧ SU u s (z.d + z2.d).natAbs)) Rx Kx
      case hargs => exact Ax
      case h => exact fun w hw => badd_any z.d z2.d _ _ ld md w (hsk0.d.at hw (((((List.sublist_append_left _ _).trans (List.sublist_append_right _ _)).trans (List.sublist_append_right _ _)).trans (List.sublist_append_right _ _)).trans (List.sublist_append_right _ _))) (hsk1.d.at hw ((((List.sublist_append_left _ _).trans (List.sublist_append_right _ _)).trans (List.sublist_append_right _ _)).trans (List.sublist_append_right _ _)))
      case hz => exact (fun _ h => by cases h; exact (List.Sublist.append_left (List.Sublist.append_left (List.Sublist.append_left (List.Sublist.append_left (List.Sublist.append_left (sc _ (sc _ (sc _ sn))) _) _) _) _) _))
      rintro _ u7 ⟨s7, rfl, hS7⟩
      obtain ⟨⟨sa7, sc7, rfl⟩, -⟩ := id hS7
      simp only [qz]
      refine rf_indexA (n := 3) (sz := 2) (j := 6) rfl rfl rfl rfl Try.underlying68 Kx (by decide) rfl ?_
      simp only [qz]
      refine rf_storeRM (n := 2) rfl rfl Kx rfl rfl (UpdR.app _ (UpdR.app _ (UpdR.app _ (UpdR.app _ (UpdR.app _ (UpdR.app _ (UpdR.there _ (UpdR.there _ (UpdR.here _ _ _ Nl))))))))) ((List.Sublist.append_left (List.Sublist.append_left (List.Sublist.append_left (List.Sublist.append_left (List.Sublist.append_left (sc _ (sc _ (sk _ sn))) _) _) _) _) _).trans (List.sublist_append_right _ _)) ?_
      simp only [qz, Nat.reduceAdd]
      refine rg_nil (ek_block (ek_next ?_))
      refine wk_region [0, 0, 0] rfl Kx ?_
      simp only [qy]
      refine rg_move ?_
      simp only [qz]
      refine rf_add (r := 4) rfl rfl rfl rfl (by decide) ?_
      simp only [qz]
      refine rg_assign ?_
      simp only [qz]
      refine rg_nil (ek_again (wk_seq (wk_seq ?_)))
      refine wk_region [0, 0] rfl Kx ?_
      simp only [qy]
      refine rg_move ?_
      simp only [qz]
      refine rf_lss (b := false) rfl rfl rfl rfl (by decide) ?_
      simp only [qz]
      refine rg_nil (ek_next (wk_cond_f rfl (wk_exit (ek_then_exit (ek_then_exit (ek_block_exit (ek_next (wk_seq ?_))))))))
      refine wk_region [0, 1] rfl Kx ?_
      simp only [qy]
      refine rf_loadR (n := 9) rfl rfl rfl Try.underlying70 rfl Kx (fun w hw => Kn.hd0 (Kn.tl (Kn.tl (Kn.tlU (Kn.tlU (Kn.tlU (Kn.tlU (Kn.tlU (Kn.tlU hw))))))))) rfl rfl ?_
      simp only [qz]
      refine rf_storeR (n := 9) rfl rfl Kx rfl rfl (UpdR.app _ (UpdR.app _ (UpdR.app _ (UpdR.app _ (UpdR.app _ (UpdR.app _ (UpdR.here _ _ _ Nl))))))) Nz ?_
      simp only [qz, Nat.reduceAdd]
      refine rg_nil (ek_next (wk_ret ?_))
      refine ek_ret (fun w hw => ⟨rfl, _, run_results1 rfl rfl (Kn.hd0 (Kn.tlU (Kn.tlU (Kn.tlU (Kn.tlU (Kn.tlU (Kn.tlU hw))))))) Try.underlying70 rfl Kx, ?_⟩)
      (try simp only [qz])
      have e : x.addR y = ⟨z.a + z2.a, z.b + z2.b, z.c + z2.c, z.d + z2.d, z.k⟩ := addR_up hz0.out hz1.out Ox Ox Ox
      show RetW _ (x.addR y) _ _
      rw [e]
      exact ⟨_, (u7 ++ (u6 ++ (u5 ++ u4))), rfl, ⟨_, _, _, _, rfl, ⟨(hS4.mono ((((List.Sublist.refl _).trans (List.sublist_append_right _ _)).trans (List.sublist_append_right _ _)).trans (List.sublist_append_right _ _))), (hS5.mono (((List.sublist_append_left _ _).trans (List.sublist_append_right _ _)).trans (List.sublist_append_right _ _))), (hS6.mono ((List.sublist_append_left _ _).trans (List.sublist_append_right _ _))), (hS7.mono (List.sublist_append_left _ _))⟩⟩, hw.made (List.Sublist.append_left (List.Sublist.append_left (List.Sublist.append_left (List.sublist_append_left _ _) _) _) _)⟩
    (try simp only [qd, ne_eq] at h2)
    simp only [qz]
    refine rg_nil (ek_next (wk_cond_t rfl (wk_skip (ek_next (wk_block ?_)))))
    refine wk_draws_m (hz1 := (List.Sublist.append_left (List.Sublist.append_left (sc _ (sk _ (sc _ sn))) _) _)) [(0, 0), (1, 0), (3, 0), (4, 0), (5, 3), (2, 1), (6, 0), (7, 2), (8, 0), (9, 1)] 7 Kx Kx (fun c d v a w h => by cases d <;> exact h) ?_
    simp only [List.map_cons, List.map_nil, List.getD_cons_zero, List.getD_cons_succ]
    refine rf_field (n := 7) (j := 0) rfl rfl rfl Try.underlying70 rfl Kx rfl ?_
    simp only [qz]
    refine rf_loadR (n := 8) rfl rfl rfl Try.underlying68 rfl Kx (fun w hw => Kn.hd0 (Kn.tl (Kn.tlU (Kn.tlU hw)))) rfl rfl ?_
    simp only [qz]
    refine rf_field (n := 0) (j := 8) rfl rfl rfl Try.underlying70 rfl Kx rfl ?_
    simp only [qz]
    refine rf_load rfl rfl rfl Try.underlying3 rfl (fun w hw => (Kn.hd0 (Kn.tl (Kn.tlU (Kn.tlU hw)))).at rfl) ?_
    simp only [qz]
    refine rf_add rfl rfl rfl rfl (wrap_ok Ox Ox) ?_
    simp only [qz]
    apply (rg_made (T := fun v u => ∃ s0 s1 s2 s3, v = arV (z2.tr) s0 s1 s2 s3 ∧ SU4 u (z2.tr) s0 s1 s2 s3)) Rx Kx
    case hargs => exact Ax
    case h => exact fun w hw => timesR_any z2 _ _ _ _ hfit1 w (hsk1.at hw (List.sublist_append_left _ _))
    case hz => exact (fun _ h => by cases h; exact (List.Sublist.append_left (List.Sublist.append_left (sc _ (sc _ (sc _ sn))) _) _))
    rintro _ u8 ⟨t0, t1, t2, t3, rfl, hS8⟩
    obtain ⟨⟨ta8_0, tc8_0, rfl⟩, -⟩ := id hS8.a
    obtain ⟨⟨ta8_1, tc8_1, rfl⟩, -⟩ := id hS8.b
    obtain ⟨⟨ta8_2, tc8_2, rfl⟩, -⟩ := id hS8.c
    obtain ⟨⟨ta8_3, tc8_3, rfl⟩, -⟩ := id hS8.d
    simp only [qz]
    refine rf_field (n := 7) (j := 0) rfl rfl rfl Try.underlying70 rfl Kx rfl ?_
    simp only [qz]
    refine rf_storeRM (n := 8) rfl rfl Kx rfl rfl (UpdR.app _ (UpdR.app _ (UpdR.app _ (UpdR.there _ (UpdR.here _ _ _ Nl))))) ((List.Sublist.append_left (List.Sublist.append_left (sc _ (sk _ (sc _ sn))) _) _).trans (List.sublist_append_right _ _)) ?_
    simp only [qz, Nat.reduceAdd]
    refine rf_field (n := 0) (j := 8) rfl rfl rfl Try.underlying70 rfl Kx rfl ?_
    simp only [qz]
    refine rf_store rfl rfl Kx rfl rfl (UpdR.app _ (UpdR.app _ (UpdR.app _ (UpdR.there _ (UpdR.here _ _ _ Nl))))) (fun _ h => by cases h; exact ((List.Sublist.append_left (List.Sublist.append_left (sc _ (sk _ (sc _ sn))) _) _).trans (List.sublist_append_right _ _))) ?_
    simp only [qz]
    refine rg_nil (ek_block ?_)
    have hup : Nm.up (i + 1) y = z2.tr := by rw [Nm.up_succ1, hz1.out]
    have hfn : z2.tr.Fit 9850501549098619803069760025035903451269934817616361666987073351061430442874302652853566563721228910201656997576704 := by rw [← hup]; exact up_fit_of hy Ox
    have hkt : z2.tr.k = z2.k + 1 := rfl
    refine ek_sub (List.Sublist.append_left ((List.Sublist.append_left (sc _ (sc _ (sc _ sn))) _).trans (List.sublist_append_right _ _)) _) ?_
    refine ek_roundF (20000 - (i + 1)) Ox Kx ?_
    exact ⟨i + 1, z2.tr, ta8_0, ta8_1, ta8_2, ta8_3, tc8_0, tc8_1, tc8_2, tc8_3, u8, by rfl, by rfl, hup, SK4.own hS8, hfn, Ox, Ox, Ox⟩
  (try simp only [qd, ne_eq] at h1)
  simp only [qz]
  refine rg_nil (ek_next (wk_cond_t rfl (wk_skip (ek_next (wk_block ?_)))))
  refine wk_draws_m (hz1 := (List.Sublist.append_left (sc _ (sc _ (sk _ sn))) _)) [(0, 0), (1, 0), (3, 0), (4, 0), (5, 3), (2, 1), (6, 0), (7, 2), (8, 0), (9, 1)] 7 Kx Kx (fun c d v a w h => by cases d <;> exact h) ?_
  simp only [List.map_cons, List.map_nil, List.getD_cons_zero, List.getD_cons_succ]
  refine rf_field (n := 7) (j := 0) rfl rfl rfl Try.underlying70 rfl Kx rfl ?_
  simp only [qz]
  refine rf_loadR (n := 8) rfl rfl rfl Try.underlying68 rfl Kx (fun w hw => Kn.hd0 (Kn.tl (Kn.tl (Kn.tlU hw)))) rfl rfl ?_
  simp only [qz]
  refine rf_field (n := 0) (j := 8) rfl rfl rfl Try.underlying70 rfl Kx rfl ?_
  simp only [qz]
  refine rf_load rfl rfl rfl Try.underlying3 rfl (fun w hw => (Kn.hd0 (Kn.tl (Kn.tl (Kn.tlU hw)))).at rfl) ?_
  simp only [qz]
  refine rf_add rfl rfl rfl rfl (wrap_ok Ox Ox) ?_
  simp only [qz]
  apply (rg_made (T := fun v u => ∃ s0 s1 s2 s3, v = arV (z.tr) s0 s1 s2 s3 ∧ SU4 u (z.tr) s0 s1 s2 s3)) Rx Kx
  case hargs => exact Ax
  case h => exact fun w hw => timesR_any z _ _ _ _ hfit0 w (hsk0.at hw (List.sublist_append_left _ _))
  case hz => exact (fun _ h => by cases h; exact (List.Sublist.append_left (sc _ (sc _ (sc _ sn))) _))
  rintro _ u9 ⟨t0, t1, t2, t3, rfl, hS9⟩
  obtain ⟨⟨ta9_0, tc9_0, rfl⟩, -⟩ := id hS9.a
  obtain ⟨⟨ta9_1, tc9_1, rfl⟩, -⟩ := id hS9.b
  obtain ⟨⟨ta9_2, tc9_2, rfl⟩, -⟩ := id hS9.c
  obtain ⟨⟨ta9_3, tc9_3, rfl⟩, -⟩ := id hS9.d
  simp only [qz]
  refine rf_field (n := 7) (j := 0) rfl rfl rfl Try.underlying70 rfl Kx rfl ?_
  simp only [qz]
  refine rf_storeRM (n := 8) rfl rfl Kx rfl rfl (UpdR.app _ (UpdR.app _ (UpdR.there _ (UpdR.there _ (UpdR.here _ _ _ Nl))))) ((List.Sublist.append_left (sc _ (sc _ (sk _ sn))) _).trans (List.sublist_append_right _ _)) ?_
  simp only [qz, Nat.reduceAdd]
  refine rf_field (n := 0) (j := 8) rfl rfl rfl Try.underlying70 rfl Kx rfl ?_
  simp only [qz]
  refine rf_store rfl rfl Kx rfl rfl (UpdR.app _ (UpdR.app _ (UpdR.there _ (UpdR.there _ (UpdR.here _ _ _ Nl))))) (fun _ h => by cases h; exact ((List.Sublist.append_left (sc _ (sc _ (sk _ sn))) _).trans (List.sublist_append_right _ _))) ?_
  simp only [qz]
  refine rg_nil (ek_block ?_)
  have hup : Nm.up (j + 1) x = z.tr := by rw [Nm.up_succ1, hz0.out]
  have hfn : z.tr.Fit 9850501549098619803069760025035903451269934817616361666987073351061430442874302652853566563721228910201656997576704 := by rw [← hup]; exact up_fit_of hx Ox
  have hkt : z.tr.k = z.k + 1 := rfl
  refine ek_sub (List.Sublist.append_left ((sc _ (sc _ (sc _ sn))).trans (List.sublist_append_right _ _)) _) ?_
  refine ek_roundF (20000 - (j + 1)) Ox Kx ?_
  exact ⟨j + 1, z.tr, ta9_0, ta9_1, ta9_2, ta9_3, tc9_0, tc9_1, tc9_2, tc9_3, u9, by rfl, by rfl, hup, SK4.own hS9, hfn, Ox, Ox, Ox⟩

end Go.Proofs.Ytccbinnlnkpplaa
namespace Go.Proofs.Ytccbinnlnkpplaa
set_option linter.all false
open Go.RowKit

/-- The digits of number m. -/
abbrev slD (T : Nat → Int) (sa : Nat → Option Addr) (sc : Nat → Nat) (m : Nat) : Value := .slice (sa m) (digs (T m).natAbs).length (sc m)
def wdC (T : Nat → Int) (sa : Nat → Option Addr) (sc : Nat → Nat) (k : Int) : Array Value :=
  #[.bool (decide (T 0 < 0)), slD T sa sc 0, .bool (decide (T 1 < 0)), slD T sa sc 1, .bool (decide (T 2 < 0)), slD T sa sc 2, .bool (decide (T 3 < 0)), slD T sa sc 3, .int .i64 k]
theorem wd_row {w : World} {g t m : Nat} {T : Nat → Int} {sa : Nat → Option Addr} {sc : Nat → Nat} {k : Int} (h : Hd w g t (wdC T sa sc k)) (hm : m < 4) : w.rangeAt g (0 + m * 2) [.bool (decide (T m < 0)), slD T sa sc m] := by
  have := cells_range h (0 + m * 2) 2
  have e : ((wdC T sa sc k).toList.drop (0 + m * 2)).take 2 = [.bool (decide (T m < 0)), slD T sa sc m] := by
    rcases lt4 hm with rfl | rfl | rfl | rfl <;> rfl
  rwa [e] at this
theorem wd_all {w : World} {g t : Nat} {T : Nat → Int} {sa : Nat → Option Addr} {sc : Nat → Nat} {k : Int} (h : Hd w g t (wdC T sa sc k)) :
    w.rangeAt g 0 [.bool (decide (T 0 < 0)), slD T sa sc 0, .bool (decide (T 1 < 0)), slD T sa sc 1, .bool (decide (T 2 < 0)), slD T sa sc 2, .bool (decide (T 3 < 0)), slD T sa sc 3, .int .i64 k] := cells_range h 0 9
theorem wd_set {m : Nat} {T : Nat → Int} {sa : Nat → Option Addr} {sc : Nat → Nat} {k : Int} {t : Int} {pa : Option Addr} {pc : Nat} (hm : m < 4) :
    setMany (wdC T sa sc k) (0 + m * 2) [.bool (decide (t < 0)), .slice pa (digs t.natAbs).length pc] = wdC (upd T m t) (upd sa m pa) (upd sc m pc) k := by
  rcases lt4 hm with rfl | rfl | rfl | rfl <;> rfl
theorem wd_set' {m : Nat} {T : Nat → Int} {sa : Nat → Option Addr} {sc : Nat → Nat} {k : Int} {t : Int} {pa : Option Addr} {pc : Nat} (hm : m < 4) :
    ((wdC T sa sc k).setIfInBounds (0 + m * 2) (.bool (decide (t < 0)))).setIfInBounds (0 + m * 2 + 1) (.slice pa (digs t.natAbs).length pc) = wdC (upd T m t) (upd sa m pa) (upd sc m pc) k := wd_set hm
theorem wd_size {T : Nat → Int} {sa : Nat → Option Addr} {sc : Nat → Nat} {k : Int} : (wdC T sa sc k).size = 9 := rfl
theorem wd_zero (k : Int) : (#[.bool false, .slice none 0 0, .bool false, .slice none 0 0, .bool false, .slice none 0 0, .bool false, .slice none 0 0, .int .i64 k] : Array Value) = wdC (fun _ => 0) (fun _ => none) (fun _ => 0) k := by
  unfold wdC
  simp only [slD, Int.natAbs_zero, digs_zero]
  rfl
theorem wd_wdV (z : Nm) (a0 a1 a2 a3 : Option Addr) (c0 c1 c2 c3 : Nat) : wdV z (.slice a0 (digs z.a.natAbs).length c0) (.slice a1 (digs z.b.natAbs).length c1) (.slice a2 (digs z.c.natAbs).length c2) (.slice a3 (digs z.d.natAbs).length c3) =
    .agg (wdC (sel4 z.a z.b z.c z.d) (sel4 a0 a1 a2 a3) (sel4 c0 c1 c2 c3) z.k) := rfl

/-- A call that hands back an amplitude of any size. -/
def RetT (w : World) (T : Nat → Int) (k : Int) (e : Ending) (w' : World) : Prop :=
  ∃ v u, e = .returned v ∧ (∃ sa sc, v = .agg (wdC T sa sc k) ∧ ∀ m, m < 4 → SU u (slD T sa sc m) (T m).natAbs) ∧ Made w u w'
theorem su_upd {u u' : List Blk} {T : Nat → Int} {sa : Nat → Option Addr} {sc : Nat → Nat} {j : Nat} {t : Int} {pa : Option Addr} {pc : Nat} (h : ∀ m, m < 4 → SU u (slD T sa sc m) (T m).natAbs) (h' : SU u' (.slice pa (digs t.natAbs).length pc) t.natAbs) :
    ∀ m, m < 4 → SU (u' ++ u) (slD (upd T j t) (upd sa j pa) (upd sc j pc) m) (upd T j t m).natAbs := by
  intro m hm
  by_cases e : m = j
  · subst e
    unfold slD
    rw [upd_same, upd_same, upd_same]
    exact h'.mono (List.sublist_append_left _ _)
  · unfold slD
    rw [upd_other T t e, upd_other sa pa e, upd_other sc pc e]
    exact (h m hm).mono (List.sublist_append_right _ _)
end Go.Proofs.Ytccbinnlnkpplaa
namespace Go.Proofs.Ytccbinnlnkpplaa
set_option linter.all false
open Go.RowKit

set_option maxRecDepth 100000 in
set_option maxHeartbeats 1000000 in
theorem wtimes_core (X Y : Nat → Int) (xa ya : Nat → Option Addr) (xc yc : Nat → Nat) (xk yk : Int) (lX : ∀ m, m < 4 → (digs (X m).natAbs).length ≤ 1000) (lY : ∀ m, m < 4 → (digs (Y m).natAbs).length ≤ 1000) (hP : ∀ i k, i < 4 → k < 4 → -1231312693637327475383720003129487931408741852202045208373384168882678805359287831606695820465153613775207124697088 ≤ X i * Y k ∧ X i * Y k ≤ 1231312693637327475383720003129487931408741852202045208373384168882678805359287831606695820465153613775207124697088) (hk : 0 ≤ xk) (hk1 : xk ≤ 10000) (hk2 : 0 ≤ yk) (hk3 : yk ≤ 10000) (w : World) (hX : ∀ m, m < 4 → SA w (slD X xa xc m) (X m).natAbs) (hY : ∀ m, m < 4 → SA w (slD Y ya yc m) (Y m).natAbs) : Calls Try.prog 117 #[.agg (wdC X xa xc xk), .agg (wdC Y ya yc yk)] w fun e w' => RetT w (acc X Y 16) (xk + yk) e w' := by
  go_enter Try.func117, Try.ntmps117
  refine wk_start ?_
  refine wk_seq ?_
  refine wk_region [1, 1, 1] rfl Kx ?_
  simp only [qy]
  refine Rgn fun g1 => ?_
  simp only [qz]
  refine Rgn fun g2 => ?_
  simp only [qz]
  refine Rgn fun g3 => ?_
  simp only [qz]
  refine rg_nil (ek_next (wk_seq ?_))
  refine wk_region [0, 0, 0, 0, 0, 0, 1, 1] rfl Kx ?_
  simp only [qy]
  refine rf_field (n := 0) (j := 8) rfl rfl rfl Try.underlying70 rfl Kx rfl ?_
  simp only [qz]
  refine rf_load rfl rfl rfl Try.underlying3 rfl (fun w hw => (Kn.hd0 (Kn.tl (Kn.tl hw))).at rfl) ?_
  simp only [qz]
  refine rf_field (n := 0) (j := 8) rfl rfl rfl Try.underlying70 rfl Kx rfl ?_
  simp only [qz]
  refine rf_load rfl rfl rfl Try.underlying3 rfl (fun w hw => (Kn.hd0 (Kn.tl hw)).at rfl) ?_
  simp only [qz]
  refine rf_add rfl rfl rfl rfl (wrap_ok Ox Ox) ?_
  simp only [qz]
  refine rf_build (cs := fun a => #[.bool false, .slice none 0 0, .bool false, .slice none 0 0, .bool false, .slice none 0 0, .bool false, .slice none 0 0, a.eval (.tmp 13)]) rfl rfl Kx ?_
  simp only [qz]
  refine Rgn fun g4 => ?_
  simp only [qz]
  refine rf_storeR (n := 9) rfl rfl Kx rfl rfl (UpdR.here _ _ _ Nl) Nz ?_
  simp only [qz, Nat.reduceAdd]
  refine rg_nil (ek_next (wk_seq (wk_seq ?_)))
  rw [wd_zero (xk + yk)]
  refine wk_region [0] rfl Kx ?_
  simp only [qy]
  refine rg_assign ?_
  simp only [qz]
  refine rg_nil (ek_next (wk_block ?_))
  refine wk_loopF [6, 7, 8, 15, 16, 17, 18, 19, 20, 21, 22, 23, 24, 25, 26, 27, 28, 29, 30, 31, 32, 33, 34, 35, 36, 37, 38, 39, 40, 41, 42, 43, 44, 45, 46, 47, 48, 49, 50, 51, 52] (fun mz f s => ∃ (i : Nat) (T : Nat → Int) (da : Nat → Option Addr) (dc : Nat → Nat) (u : List Blk), f 6 = .int .i64 i ∧ s = (u ++ ((g4, .cells (wdC T da dc (xk + yk)) 70) :: ((g3, .cells #[.bool false, .slice none 0 0, .bool false, .slice none 0 0, .bool false, .slice none 0 0, .bool false, .slice none 0 0, .int .i64 0] 70) :: ((g2, .cells (wdC Y ya yc yk) 70) :: ((g1, .cells (wdC X xa xc xk) 70) :: []))))) ∧ mz = 4 - i ∧ i ≤ 4 ∧ Hid (acc X Y (i * 4) = T) ∧ (∀ m, m < 4 → SU u (slD T da dc m) (T m).natAbs)) ((fun (i : Nat) (T : Nat → Int) (da : Nat → Option Addr) (dc : Nat → Nat) (u : List Blk) => 4 - i) (0) (fun _ => 0) (fun _ => none) (fun _ => 0) ([])) ?_ Kx ?_
  · exact ⟨0, fun _ => 0, fun _ => none, fun _ => 0, [], rfl, rfl, rfl, by omega, (Lib.hid rfl), (fun m _ => by unfold slD; simp only [Int.natAbs_zero, digs_zero]; exact SU.nil)⟩
  rintro mz f1 s ⟨i, T, da, dc, u, hs1_6, rfl, hn, hd1, hd2, hd3⟩
  simp only [Act.putF, List.foldl_cons, List.foldl_nil, hs1_6, Act.put, Act.eval, q1, q2, q3, q4, q5, q6, q7, q8, q9, q10, q11, q12, q13, q14, q15, q16, q17, q18, Nat.reduceAdd, Bool.not_true, Bool.not_false]
  clear hs1_6
  have hac := hd2
  have hsu := hd3
  clear hd2 hd3
  refine wk_seq (wk_seq ?_)
  refine wk_region [0, 0] rfl Kx ?_
  simp only [qy]
  refine rg_move ?_
  simp only [qz]
  refine rfb_lss rfl rfl rfl rfl ?_
  intro x h1
  cases x
  · (try simp only [qd, ne_eq] at h1)
    simp only [qz]
    refine rg_nil (ek_next (wk_cond_f rfl (wk_exit (ek_then_exit (ek_then_exit (ek_block_exit (ek_next (wk_seq ?_))))))))
    refine wk_region [0, 1] rfl Kx ?_
    simp only [qy]
    refine rf_loadC (n := 9) (vs := [.bool (decide (T 0 < 0)), slD T da dc 0, .bool (decide (T 1 < 0)), slD T da dc 1, .bool (decide (T 2 < 0)), slD T da dc 2, .bool (decide (T 3 < 0)), slD T da dc 3, .int .i64 (xk + yk)]) rfl rfl rfl Try.underlying70 rfl Kx rfl (fun w hw => wd_all (Kn.hd0 (Kn.tlU hw))) ?_
    simp only [qz]
    refine rf_storeR (n := 9) rfl rfl Kx rfl rfl (UpdR.app _ (UpdR.there _ (UpdR.here _ _ _ Nl))) Nz ?_
    simp only [qz, Nat.reduceAdd]
    refine rg_nil (ek_next (wk_ret ?_))
    refine ek_ret (fun w hw => ⟨rfl, _, run_results1 rfl rfl (Kn.hd0 (Kn.tl (Kn.tlU hw))) Try.underlying70 rfl Kx, ?_⟩)
    (try simp only [qz])
    obtain rfl : i = 4 := by omega
    exact ⟨_, u, rfl, ⟨da, dc, by rw [show acc X Y 16 = T from hac.out]; rfl, by rw [show acc X Y 16 = T from hac.out]; exact hsu⟩, hw.made (List.sublist_append_left _ _)⟩
  (try simp only [qd, ne_eq] at h1)
  simp only [qz]
  refine rg_nil (ek_next (wk_cond_t rfl (wk_skip (ek_next (wk_seq (wk_block (wk_seq ?_)))))))
  refine wk_region [0] rfl Kx ?_
  simp only [qy]
  refine rg_assign ?_
  simp only [qz]
  refine rg_nil (ek_next (wk_block ?_))
  refine wk_loopF [7, 8, 19, 20, 21, 22, 23, 24, 25, 26, 27, 28, 29, 30, 31, 32, 33, 34, 35, 36, 37, 38, 39, 40, 41, 42, 43, 44, 45, 46, 47, 48, 49, 50, 51, 52] (fun mz f s => ∃ (k : Nat) (T2 : Nat → Int) (da2 : Nat → Option Addr) (dc2 : Nat → Nat) (u2 : List Blk), f 7 = .int .i64 k ∧ s = (u2 ++ ((g4, .cells (wdC T2 da2 dc2 (xk + yk)) 70) :: ((g3, .cells #[.bool false, .slice none 0 0, .bool false, .slice none 0 0, .bool false, .slice none 0 0, .bool false, .slice none 0 0, .int .i64 0] 70) :: ((g2, .cells (wdC Y ya yc yk) 70) :: ((g1, .cells (wdC X xa xc xk) 70) :: []))))) ∧ mz = 4 - k ∧ k ≤ 4 ∧ Hid (acc X Y (i * 4 + k) = T2) ∧ (∀ m, m < 4 → SU u2 (slD T2 da2 dc2 m) (T2 m).natAbs)) ((fun (k : Nat) (T2 : Nat → Int) (da2 : Nat → Option Addr) (dc2 : Nat → Nat) (u2 : List Blk) => 4 - k) (0) (T) (da) (dc) (u)) ?_ Kx ?_
  · exact ⟨0, T, da, dc, u, rfl, rfl, rfl, by omega, hac, hsu⟩
  rintro mz f2 s ⟨k, T2, da2, dc2, u2, hs2_7, rfl, hn, he1, he2, he3⟩
  simp only [Act.putF, List.foldl_cons, List.foldl_nil, hs2_7, Act.put, Act.eval, q1, q2, q3, q4, q5, q6, q7, q8, q9, q10, q11, q12, q13, q14, q15, q16, q17, q18, Nat.reduceAdd, Bool.not_true, Bool.not_false]
  clear hs2_7
  have hac2 := he2
  have hsu2 := he3
  clear he2 he3
  refine wk_seq (wk_seq ?_)
  refine wk_region [0, 0] rfl Kx ?_
  simp only [qy]
  refine rg_move ?_
  simp only [qz]
  refine rfb_lss rfl rfl rfl rfl ?_
  intro x h2
  cases x
  · (try simp only [qd, ne_eq] at h2)
    simp only [qz]
    refine rg_nil (ek_next (wk_cond_f rfl (wk_exit (ek_then_exit (ek_then_exit (ek_block_exit (ek_block (ek_next ?_))))))))
    refine wk_region [0, 0, 0] rfl Kx ?_
    simp only [qy]
    refine rg_move ?_
    simp only [qz]
    refine rf_add rfl rfl rfl rfl (wrap_ok Ox Ox) ?_
    simp only [qz]
    refine rg_assign ?_
    simp only [qz]
    refine rg_nil ?_
    obtain rfl : k = 4 := by omega
    have hac' : acc X Y ((i + 1) * 4) = T2 := by rw [← hac2.out]; congr 1; omega
    refine ek_roundF (4 - (i + 1)) Ox Kx ?_
    exact ⟨i + 1, T2, da2, dc2, u2, rfl, by rfl, by rfl, Ox, (Lib.hid hac'), hsu2⟩
  (try simp only [qd, ne_eq] at h2)
  simp only [qz]
  refine rg_nil (ek_next (wk_cond_t rfl (wk_skip (ek_next (wk_seq (wk_block ?_))))))
  refine wk_cutF [8, 23, 24, 25, 26, 27, 28, 29, 30, 31] (fun f s => ∃ (gp : Nat) (uq : List Blk) (pa : Option Addr) (pc : Nat), f 8 = .pointer (some ⟨gp, 0, none⟩) ∧ s = ((gp, .cells #[.bool (decide (X i * Y k < 0)), .slice pa (digs (X i * Y k).natAbs).length pc] 67) :: (uq ++ (u2 ++ ((g4, .cells (wdC T2 da2 dc2 (xk + yk)) 70) :: ((g3, .cells #[.bool false, .slice none 0 0, .bool false, .slice none 0 0, .bool false, .slice none 0 0, .bool false, .slice none 0 0, .int .i64 0] 70) :: ((g2, .cells (wdC Y ya yc yk) 70) :: ((g1, .cells (wdC X xa xc xk) 70) :: []))))))) ∧ SU uq (.slice pa (digs (X i * Y k).natAbs).length pc) (X i * Y k).natAbs) ?_ ?_
  · refine wk_rt _ Kx (List.Sublist.append_left (sc _ (sc _ (sc _ (sc _ sn)))) _) ?_
    refine rt_soft (i := 0) rfl Kx (fun c d v a w h => by cases d <;> exact h) (List.Sublist.append_left (sc _ (sc _ (sc _ (sc _ sn)))) _) ?_
    refine rg_move ?_
    simp only [qz]
    refine rg_nil ?_
    refine ek_rt (List.Sublist.append_left (sc _ (sc _ (sc _ (sc _ sn)))) _) ?_
    refine rt_soft (i := 1) rfl Kx (fun c d v a w h => by cases d <;> exact h) (List.Sublist.append_left (sc _ (sc _ (sc _ (sc _ sn)))) _) ?_
    refine rf_field (n := 7) (j := 0) rfl rfl rfl Try.underlying70 rfl Kx rfl ?_
    simp only [qz]
    refine rg_nil ?_
    refine ek_rt (List.Sublist.append_left (sc _ (sc _ (sc _ (sc _ sn)))) _) ?_
    refine rt_soft (i := 2) rfl Kx (fun c d v a w h => by cases d <;> exact h) (List.Sublist.append_left (sc _ (sc _ (sc _ (sc _ sn)))) _) ?_
    refine rf_indexA (n := i) (sz := 2) (j := 0 + i * 2) rfl rfl rfl rfl Try.underlying68 Kx Ox rfl ?_
    simp only [qz]
    refine rg_nil ?_
    refine ek_rt (List.Sublist.append_left (sc _ (sc _ (sc _ (sc _ sn)))) _) ?_
    refine rt_soft (i := 3) rfl Kx (fun c d v a w h => by cases d <;> exact h) (List.Sublist.append_left (sc _ (sc _ (sc _ (sc _ sn)))) _) ?_
    refine rf_loadC (n := 2) (vs := [.bool (decide (X (i) < 0)), slD X xa xc (i)]) rfl rfl rfl Try.underlying67 rfl Kx rfl (fun w hw => wd_row (Kn.hd0 (Kn.tl (Kn.tl (Kn.tl (Kn.tlU hw))))) Ox) ?_
    simp only [qz]
    refine rg_nil ?_
    refine ek_rt (List.Sublist.append_left (sc _ (sc _ (sc _ (sc _ sn)))) _) ?_
    refine rt_soft (i := 4) rfl Kx (fun c d v a w h => by cases d <;> exact h) (List.Sublist.append_left (sc _ (sc _ (sc _ (sc _ sn)))) _) ?_
    refine rg_move ?_
    simp only [qz]
    refine rg_nil ?_
    refine ek_rt (List.Sublist.append_left (sc _ (sc _ (sc _ (sc _ sn)))) _) ?_
    refine rt_soft (i := 5) rfl Kx (fun c d v a w h => by cases d <;> exact h) (List.Sublist.append_left (sc _ (sc _ (sc _ (sc _ sn)))) _) ?_
    refine rf_field (n := 7) (j := 0) rfl rfl rfl Try.underlying70 rfl Kx rfl ?_
    simp only [qz]
    refine rg_nil ?_
    refine ek_rt (List.Sublist.append_left (sc _ (sc _ (sc _ (sc _ sn)))) _) ?_
    refine rt_soft (i := 6) rfl Kx (fun c d v a w h => by cases d <;> exact h) (List.Sublist.append_left (sc _ (sc _ (sc _ (sc _ sn)))) _) ?_
    refine rf_indexA (n := k) (sz := 2) (j := 0 + k * 2) rfl rfl rfl rfl Try.underlying68 Kx Ox rfl ?_
    simp only [qz]
    refine rg_nil ?_
    refine ek_rt (List.Sublist.append_left (sc _ (sc _ (sc _ (sc _ sn)))) _) ?_
    refine rt_soft (i := 7) rfl Kx (fun c d v a w h => by cases d <;> exact h) (List.Sublist.append_left (sc _ (sc _ (sc _ (sc _ sn)))) _) ?_
    refine rf_loadC (n := 2) (vs := [.bool (decide (Y (k) < 0)), slD Y ya yc (k)]) rfl rfl rfl Try.underlying67 rfl Kx rfl (fun w hw => wd_row (Kn.hd0 (Kn.tl (Kn.tl (Kn.tlU hw)))) Ox) ?_
    simp only [qz]
    refine rg_nil ?_
    refine ek_rt (List.Sublist.append_left (sc _ (sc _ (sc _ (sc _ sn)))) _) ?_
    refine rt_hard2 (i := 8) (j := 9) Kx rfl rfl ?_ ?_
    · apply (rg_made (T := fun v u => ∃ s, v = bgV (X i * Y k) s ∧ SU u s (X i * Y k).natAbs)) Rx Kx
      case hargs => exact Ax
      case h => exact fun w hw => bmul_any (X i) (Y k) _ _ (lX i Ox) (lY k Ox) w ((hX i Ox).kn hw) ((hY k Ox).kn hw)
      case hz => exact (fun _ h => by cases h; exact (List.Sublist.append_left (sc _ (sc _ (sc _ (sc _ sn)))) _))
      rintro _ uP ⟨sP, rfl, hSP⟩
      obtain ⟨⟨daP, dcP, rfl⟩, -⟩ := id hSP
      simp only [qz]
      refine rg_nil ?_
      refine ek_rt ((List.Sublist.append_left (sc _ (sc _ (sc _ (sc _ sn)))) _).trans (List.sublist_append_right _ _)) ?_
      refine rt_hard1 (i := 9) Kx rfl ?_
      refine rg_new (cs := ?_) (ty := ?_) Rx (fun w => ?_) (fun _ h => by cases h; exact ((List.Sublist.append_left (sc _ (sc _ (sc _ (sc _ sn)))) _).trans (List.sublist_append_right _ _))) (fun g5 => ?_); rotate_left 2
      focus (go_simp; rfl)
      simp only [qz]
      refine rg_nil ?_
      refine ek_rt (sk _ ((List.Sublist.append_left (sc _ (sc _ (sc _ (sc _ sn)))) _).trans (List.sublist_append_right _ _))) ?_
      refine rt_hard1 (i := 10) Kx rfl ?_
      refine rf_storeR (n := 2) rfl rfl Kx rfl rfl (UpdR.here _ _ _ Nl) (fun _ h => by cases h; exact (sk _ ((List.Sublist.append_left (sc _ (sc _ (sc _ (sc _ sn)))) _).trans (List.sublist_append_right _ _)))) ?_
      simp only [qz, Nat.reduceAdd]
      refine rg_nil ?_
      refine ek_rt (sk _ ((List.Sublist.append_left (sc _ (sc _ (sc _ (sc _ sn)))) _).trans (List.sublist_append_right _ _))) ?_
      refine rt_nil Kx ?_
      refine ek_midF Kx ?_
      exact ⟨g5, uP, daP, dcP, rfl, by rfl, hSP⟩
    refine rg_new (cs := ?_) (ty := ?_) Rx (fun w => ?_) (fun _ h => by cases h; exact (List.Sublist.append_left (sc _ (sc _ (sc _ (sc _ sn)))) _)) (fun g6 => ?_); rotate_left 2
    focus (go_simp; rfl)
    simp only [qz]
    refine rg_nil ?_
    refine ek_rt (sk _ (List.Sublist.append_left (sc _ (sc _ (sc _ (sc _ sn)))) _)) ?_
    refine rt_hard1 (i := 8) Kx rfl ?_
    apply (rg_made (T := fun v u => ∃ s, v = bgV (X i * Y k) s ∧ SU u s (X i * Y k).natAbs)) Rx Kx
    case hargs => exact Ax
    case h => exact fun w hw => bmul_any (X i) (Y k) _ _ (lX i Ox) (lY k Ox) w ((hX i Ox).kn hw) ((hY k Ox).kn hw)
    case hz => exact (fun _ h => by cases h; exact (sk _ (List.Sublist.append_left (sc _ (sc _ (sc _ (sc _ sn)))) _)))
    rintro _ uP ⟨sP, rfl, hSP⟩
    obtain ⟨⟨daP, dcP, rfl⟩, -⟩ := id hSP
    simp only [qz]
    refine rg_nil ?_
    refine ek_rt ((sk _ (List.Sublist.append_left (sc _ (sc _ (sc _ (sc _ sn)))) _)).trans (List.sublist_append_right _ _)) ?_
    refine rt_hard1 (i := 10) Kx rfl ?_
    refine rf_storeR (n := 2) rfl rfl Kx rfl rfl (UpdR.app _ (UpdR.here _ _ _ Nl)) (fun _ h => by cases h; exact ((sk _ (List.Sublist.append_left (sc _ (sc _ (sc _ (sc _ sn)))) _)).trans (List.sublist_append_right _ _))) ?_
    simp only [qz, Nat.reduceAdd]
    refine rg_nil ?_
    refine ek_rt ((sk _ (List.Sublist.append_left (sc _ (sc _ (sc _ (sc _ sn)))) _)).trans (List.sublist_append_right _ _)) ?_
    refine rt_nil Kx ?_
    refine ek_perm (perm_at (l := (uP)) (((((((List.Perm.refl _).cons _).cons _).cons _).cons _).append_left _).append_left _)) ?_
    refine ek_midF Kx ?_
    exact ⟨g6, uP, daP, dcP, rfl, by rfl, hSP⟩
  rintro f3 s ⟨gp, uq, pa, pc, hs3_8, rfl, hSp⟩
  simp only [Act.putF, List.foldl_cons, List.foldl_nil, hs3_8, Act.put, Act.eval, q1, q2, q3, q4, q5, q6, q7, q8, q9, q10, q11, q12, q13, q14, q15, q16, q17, q18, Nat.reduceAdd, Bool.not_true, Bool.not_false]
  clear hs3_8
  have hpp := hP i k Ox Ox
  refine wk_seq (wk_seq ?_)
  refine wk_region [0, 0, 0, 0] rfl Kx ?_
  simp only [qy]
  refine rg_move ?_
  simp only [qz]
  refine rg_move ?_
  simp only [qz]
  refine rf_add rfl rfl rfl rfl (wrap_ok Ox Ox) ?_
  simp only [qz]
  refine rfb_geq rfl rfl rfl rfl ?_
  intro x h3
  cases x
  · (try simp only [qd, ne_eq] at h3)
    simp only [qz]
    refine rg_nil (ek_next (wk_cond_f rfl (wk_skip (ek_next ?_))))
    refine wk_draws_m (hz1 := (sc _ (List.Sublist.append_left (List.Sublist.append_left (sk _ (sc _ (sc _ (sc _ sn)))) _) _))) [(0, 0), (1, 0), (2, 0), (3, 0), (4, 0), (5, 0), (6, 0), (7, 0), (8, 0), (9, 0), (10, 0), (11, 0), (13, 3), (12, 1), (14, 0), (15, 2)] 15 Kx Kx (fun c d v a w h => by cases d <;> exact h) ?_
    simp only [List.map_cons, List.map_nil, List.getD_cons_zero, List.getD_cons_succ]
    refine rg_move ?_
    simp only [qz]
    refine rg_move ?_
    simp only [qz]
    refine rf_add rfl rfl rfl rfl (wrap_ok Ox Ox) ?_
    simp only [qz]
    refine rf_rem (r := (((i + k) % 4 : Nat) : Int)) rfl rfl rfl rfl (by decide) ((rem_ok Ox).trans Ox) ?_
    simp only [qz]
    refine rg_move ?_
    simp only [qz]
    refine rg_move ?_
    simp only [qz]
    refine rf_add rfl rfl rfl rfl (wrap_ok Ox Ox) ?_
    simp only [qz]
    refine rf_rem (r := (((i + k) % 4 : Nat) : Int)) rfl rfl rfl rfl (by decide) ((rem_ok Ox).trans Ox) ?_
    simp only [qz]
    refine rf_field (n := 7) (j := 0) rfl rfl rfl Try.underlying70 rfl Kx rfl ?_
    simp only [qz]
    refine rf_indexA (n := (i + k) % 4) (sz := 2) (j := 0 + ((i + k) % 4) * 2) rfl rfl rfl rfl Try.underlying68 Kx Ox rfl ?_
    simp only [qz]
    refine rf_loadC (n := 2) (vs := [.bool (decide (T2 ((i + k) % 4) < 0)), slD T2 da2 dc2 ((i + k) % 4)]) rfl rfl rfl Try.underlying67 rfl Kx rfl (fun w hw => wd_row (Kn.hd0 (Kn.tlU (Kn.tlU (Kn.tl hw)))) Ox) ?_
    simp only [qz]
    refine rf_loadR (n := 2) rfl rfl rfl Try.underlying67 rfl Kx (fun w hw => Kn.hd0 hw) rfl rfl ?_
    simp only [qz]
    refine rf_field (n := 7) (j := 0) rfl rfl rfl Try.underlying70 rfl Kx rfl ?_
    simp only [qz]
    have hT := acc_bound (X := X) (Y := Y) (by decide) hP (i * 4 + k) ((i + k) % 4) Ox
    rw [hac2.out] at hT
    have hn15 : ((i * 4 + k : Nat) : Int) * 1231312693637327475383720003129487931408741852202045208373384168882678805359287831606695820465153613775207124697088 ≤ 15 * 1231312693637327475383720003129487931408741852202045208373384168882678805359287831606695820465153613775207124697088 := Int.mul_le_mul_of_nonneg_right Ox (by decide)
    have hpp := hP i k Ox Ox
    apply (rg_made (T := fun v u => ∃ s, v = bgV (T2 ((i + k) % 4) + X i * Y k) s ∧ SU u s (T2 ((i + k) % 4) + X i * Y k).natAbs)) Rx Kx
    case hargs => exact Ax
    case h => exact fun w hw => badd_any (T2 ((i + k) % 4)) (X i * Y k) _ _ (len_big Ox Ox) (len_big Ox Ox) w ((hsu2 _ Ox).at hw (List.Sublist.cons _ ((List.sublist_append_left _ _).trans (List.sublist_append_right _ _)))) (hSp.at hw (List.Sublist.cons _ (List.sublist_append_left _ _)))
    case hz => exact (fun _ h => by cases h; exact (sc _ (List.Sublist.append_left (List.Sublist.append_left (sc _ (sc _ (sc _ (sc _ sn)))) _) _)))
    rintro _ uN ⟨sN, rfl, hSN⟩
    obtain ⟨⟨daN, dcN, rfl⟩, -⟩ := id hSN
    simp only [qz]
    refine rf_indexA (n := (i + k) % 4) (sz := 2) (j := 0 + ((i + k) % 4) * 2) rfl rfl rfl rfl Try.underlying68 Kx Ox rfl ?_
    simp only [qz]
    refine rf_storeRM (n := 2) rfl rfl Kx rfl rfl (UpdR.app _ (UpdR.there _ (UpdR.app _ (UpdR.app _ (UpdR.here _ _ _ (show 0 + ((i + k) % 4) * 2 + 2 ≤ 9 by omega)))))) ((sc _ (List.Sublist.append_left (List.Sublist.append_left (sk _ (sc _ (sc _ (sc _ sn)))) _) _)).trans (List.sublist_append_right _ _)) ?_
    simp only [qz, Nat.reduceAdd]
    refine rg_nil (ek_block (ek_next ?_))
    refine wk_region [0, 0, 0] rfl Kx ?_
    simp only [qy]
    refine rg_move ?_
    simp only [qz]
    refine rf_add rfl rfl rfl rfl (wrap_ok Ox Ox) ?_
    simp only [qz]
    refine rg_assign ?_
    simp only [qz]
    refine rg_nil ?_
    refine ek_sub (List.Sublist.append_left (sk _ ((List.Sublist.append_left (sc _ (sc _ (sc _ (sc _ sn)))) _).trans (List.sublist_append_right _ _))) _) ?_
    refine ek_roundF (4 - (k + 1)) Ox Kx ?_
    exact ⟨k + 1, upd T2 ((i + k) % 4) (T2 ((i + k) % 4) + X i * Y k), upd da2 ((i + k) % 4) daN, upd dc2 ((i + k) % 4) dcN, uN ++ u2, rfl, (by rw [List.append_assoc, wd_set' Ox]), by rfl, Ox, (Lib.hid (by rw [acc_step Ox hac2.out, if_neg Ox])), (su_upd hsu2 hSN)⟩
  (try simp only [qd, ne_eq] at h3)
  simp only [qz]
  refine rg_nil (ek_next (wk_cond_t rfl ?_))
  refine wk_region [0, 1, 1] rfl Kx ?_
  simp only [qy]
  refine rf_loadR (n := 2) rfl rfl rfl Try.underlying67 rfl Kx (fun w hw => Kn.hd0 hw) rfl rfl ?_
  simp only [qz]
  apply rg_pure Rx Kx
  case hargs => exact Ax
  case h => exact fun w hw => bneg_any (X i * Y k) _ (len_big Ox Ox) w (hSp.at hw (List.Sublist.cons _ (List.sublist_append_left _ _)))
  case hz => exact Nz
  simp only [qz]
  refine rf_storeR (n := 2) rfl rfl Kx rfl rfl (UpdR.here _ _ _ Nl) Nz ?_
  simp only [qz, Nat.reduceAdd]
  refine rg_nil (ek_next ?_)
  refine wk_draws_m (hz1 := (sc _ (List.Sublist.append_left (List.Sublist.append_left (sk _ (sc _ (sc _ (sc _ sn)))) _) _))) [(0, 0), (1, 0), (2, 0), (3, 0), (4, 0), (5, 0), (6, 0), (7, 0), (8, 0), (9, 0), (10, 0), (11, 0), (13, 3), (12, 1), (14, 0), (15, 2)] 15 Kx Kx (fun c d v a w h => by cases d <;> exact h) ?_
  simp only [List.map_cons, List.map_nil, List.getD_cons_zero, List.getD_cons_succ]
  refine rg_move ?_
  simp only [qz]
  refine rg_move ?_
  simp only [qz]
  refine rf_add rfl rfl rfl rfl (wrap_ok Ox Ox) ?_
  simp only [qz]
  refine rf_rem (r := (((i + k) % 4 : Nat) : Int)) rfl rfl rfl rfl (by decide) ((rem_ok Ox).trans Ox) ?_
  simp only [qz]
  refine rg_move ?_
  simp only [qz]
  refine rg_move ?_
  simp only [qz]
  refine rf_add rfl rfl rfl rfl (wrap_ok Ox Ox) ?_
  simp only [qz]
  refine rf_rem (r := (((i + k) % 4 : Nat) : Int)) rfl rfl rfl rfl (by decide) ((rem_ok Ox).trans Ox) ?_
  simp only [qz]
  refine rf_field (n := 7) (j := 0) rfl rfl rfl Try.underlying70 rfl Kx rfl ?_
  simp only [qz]
  refine rf_indexA (n := (i + k) % 4) (sz := 2) (j := 0 + ((i + k) % 4) * 2) rfl rfl rfl rfl Try.underlying68 Kx Ox rfl ?_
  simp only [qz]
  refine rf_loadC (n := 2) (vs := [.bool (decide (T2 ((i + k) % 4) < 0)), slD T2 da2 dc2 ((i + k) % 4)]) rfl rfl rfl Try.underlying67 rfl Kx rfl (fun w hw => wd_row (Kn.hd0 (Kn.tlU (Kn.tlU (Kn.tl hw)))) Ox) ?_
  simp only [qz]
  refine rf_loadR (n := 2) rfl rfl rfl Try.underlying67 rfl Kx (fun w hw => Kn.hd0 hw) rfl rfl ?_
  simp only [qz]
  refine rf_field (n := 7) (j := 0) rfl rfl rfl Try.underlying70 rfl Kx rfl ?_
  simp only [qz]
  have hT := acc_bound (X := X) (Y := Y) (by decide) hP (i * 4 + k) ((i + k) % 4) Ox
  rw [hac2.out] at hT
  have hn15 : ((i * 4 + k : Nat) : Int) * 1231312693637327475383720003129487931408741852202045208373384168882678805359287831606695820465153613775207124697088 ≤ 15 * 1231312693637327475383720003129487931408741852202045208373384168882678805359287831606695820465153613775207124697088 := Int.mul_le_mul_of_nonneg_right Ox (by decide)
  have hpp := hP i k Ox Ox
  apply (rg_made (T := fun v u => ∃ s, v = bgV (T2 ((i + k) % 4) + -(X i * Y k)) s ∧ SU u s (T2 ((i + k) % 4) + -(X i * Y k)).natAbs)) Rx Kx
  case hargs => exact Ax
  case h => exact fun w hw => badd_any (T2 ((i + k) % 4)) (-(X i * Y k)) _ _ (len_big Ox Ox) (len_big Ox Ox) w ((hsu2 _ Ox).at hw (List.Sublist.cons _ ((List.sublist_append_left _ _).trans (List.sublist_append_right _ _)))) (by rw [Int.natAbs_neg]; exact hSp.at hw (List.Sublist.cons _ (List.sublist_append_left _ _)))
  case hz => exact (fun _ h => by cases h; exact (sc _ (List.Sublist.append_left (List.Sublist.append_left (sc _ (sc _ (sc _ (sc _ sn)))) _) _)))
  rintro _ uN ⟨sN, rfl, hSN⟩
  obtain ⟨⟨daN, dcN, rfl⟩, -⟩ := id hSN
  simp only [qz]
  refine rf_indexA (n := (i + k) % 4) (sz := 2) (j := 0 + ((i + k) % 4) * 2) rfl rfl rfl rfl Try.underlying68 Kx Ox rfl ?_
  simp only [qz]
  refine rf_storeRM (n := 2) rfl rfl Kx rfl rfl (UpdR.app _ (UpdR.there _ (UpdR.app _ (UpdR.app _ (UpdR.here _ _ _ (show 0 + ((i + k) % 4) * 2 + 2 ≤ 9 by omega)))))) ((sc _ (List.Sublist.append_left (List.Sublist.append_left (sk _ (sc _ (sc _ (sc _ sn)))) _) _)).trans (List.sublist_append_right _ _)) ?_
  simp only [qz, Nat.reduceAdd]
  refine rg_nil (ek_block (ek_next ?_))
  refine wk_region [0, 0, 0] rfl Kx ?_
  simp only [qy]
  refine rg_move ?_
  simp only [qz]
  refine rf_add rfl rfl rfl rfl (wrap_ok Ox Ox) ?_
  simp only [qz]
  refine rg_assign ?_
  simp only [qz]
  refine rg_nil ?_
  refine ek_sub (List.Sublist.append_left (sk _ ((List.Sublist.append_left (sc _ (sc _ (sc _ (sc _ sn)))) _).trans (List.sublist_append_right _ _))) _) ?_
  refine ek_roundF (4 - (k + 1)) Ox Kx ?_
  exact ⟨k + 1, upd T2 ((i + k) % 4) (T2 ((i + k) % 4) + -(X i * Y k)), upd da2 ((i + k) % 4) daN, upd dc2 ((i + k) % 4) dcN, uN ++ u2, rfl, (by rw [List.append_assoc, wd_set' Ox]), by rfl, Ox, (Lib.hid (by rw [acc_step Ox hac2.out, if_pos Ox])), (su_upd hsu2 hSN)⟩

def ProdB (x y : Nm) : Prop := ∀ i k, i < 4 → k < 4 → -1231312693637327475383720003129487931408741852202045208373384168882678805359287831606695820465153613775207124697088 ≤ sel4 x.a x.b x.c x.d i * sel4 y.a y.b y.c y.d k ∧ sel4 x.a x.b x.c x.d i * sel4 y.a y.b y.c y.d k ≤ 1231312693637327475383720003129487931408741852202045208373384168882678805359287831606695820465153613775207124697088
theorem prodB_ok {x y : Nm} (hx : x.Fit 1000000000) (hy : y.Fit 1000000000) : ProdB x y := by
  obtain ⟨a1, a2, a3, a4, a5, a6, a7, a8⟩ := hx
  obtain ⟨b1, b2, b3, b4, b5, b6, b7, b8⟩ := hy
  have key : ∀ a b : Int, -1000000000 ≤ a → a ≤ 1000000000 → -1000000000 ≤ b → b ≤ 1000000000 → -1231312693637327475383720003129487931408741852202045208373384168882678805359287831606695820465153613775207124697088 ≤ a * b ∧ a * b ≤ 1231312693637327475383720003129487931408741852202045208373384168882678805359287831606695820465153613775207124697088 := fun a b h1 h2 h3 h4 => by
    have := mul_le h1 h2 h3 h4
    omega
  intro i k hi hk
  rcases lt4 hi with rfl | rfl | rfl | rfl <;> rcases lt4 hk with rfl | rfl | rfl | rfl <;> exact key _ _ (by assumption) (by assumption) (by assumption) (by assumption)
theorem wtimes_any (x y : Nm) (s0 s1 s2 s3 p0 p1 p2 p3 : Value) (hx : x.Fit 9850501549098619803069760025035903451269934817616361666987073351061430442874302652853566563721228910201656997576704) (hy : y.Fit 9850501549098619803069760025035903451269934817616361666987073351061430442874302652853566563721228910201656997576704) (hP : ProdB x y) (hk : 0 ≤ x.k) (hk1 : x.k ≤ 10000) (hk2 : 0 ≤ y.k) (hk3 : y.k ≤ 10000) (w : World) (hs : SA4 w x s0 s1 s2 s3) (hs2 : SA4 w y p0 p1 p2 p3) :
    Calls Try.prog 117 #[wdV x s0 s1 s2 s3, wdV y p0 p1 p2 p3] w fun e w' => RetW w (x.mulR y) e w' := by
  obtain ⟨⟨a0, c0, rfl⟩, ⟨a1, c1, rfl⟩, ⟨a2, c2, rfl⟩, ⟨a3, c3, rfl⟩⟩ := (⟨hs.a.form, hs.b.form, hs.c.form, hs.d.form⟩ : _ ∧ _ ∧ _ ∧ _)
  obtain ⟨⟨b0, d0, rfl⟩, ⟨b1, d1, rfl⟩, ⟨b2, d2, rfl⟩, ⟨b3, d3, rfl⟩⟩ := (⟨hs2.a.form, hs2.b.form, hs2.c.form, hs2.d.form⟩ : _ ∧ _ ∧ _ ∧ _)
  obtain ⟨la, lb, lc, ld⟩ := fit_big hx
  obtain ⟨ma, mb, mc, md⟩ := fit_big hy
  refine (wtimes_core (sel4 x.a x.b x.c x.d) (sel4 y.a y.b y.c y.d) (sel4 a0 a1 a2 a3) (sel4 b0 b1 b2 b3) (sel4 c0 c1 c2 c3) (sel4 d0 d1 d2 d3) x.k y.k (sel_cases la lb lc ld) (sel_cases ma mb mc md) hP hk hk1 hk2 hk3 w (sel_cases hs.a hs.b hs.c hs.d) (sel_cases hs2.a hs2.b hs2.c hs2.d)).mono ?_
  rintro e w' ⟨v, u, he, ⟨sa, sc, hv, hsu⟩, hm⟩
  rw [← acc_16 x y]
  exact ⟨v, u, he, ⟨_, _, _, _, hv, ⟨hsu 0 (by decide), hsu 1 (by decide), hsu 2 (by decide), hsu 3 (by decide)⟩⟩, hm⟩
end Go.Proofs.Ytccbinnlnkpplaa
namespace Go.Proofs.Ytccbinnlnkpplaa
set_option linter.all false
open Go.RowKit

theorem tr_len {z : Nm} (h : z.Fit 9850501549098619803069760025035903451269934817616361666987073351061430442874302652853566563721228910201656997576704) : (digs z.tr.a.natAbs).length ≤ 1000 ∧ (digs z.tr.b.natAbs).length ≤ 1000 ∧ (digs z.tr.c.natAbs).length ≤ 1000 ∧ (digs z.tr.d.natAbs).length ≤ 1000 := by
  obtain ⟨h1, h2, h3, h4, h5, h6, h7, h8⟩ := h
  simp only [Nm.tr]
  exact ⟨len_big Ox Ox, len_big Ox Ox, len_big Ox Ox, len_big Ox Ox⟩
set_option maxRecDepth 100000 in
set_option maxHeartbeats 2000000 in
theorem wnum_any (z : Nm) (s0 s1 s2 s3 : Value) (hz : z.Fit 9850501549098619803069760025035903451269934817616361666987073351061430442874302652853566563721228910201656997576704) (hk : 0 ≤ z.k) (hk1 : z.k ≤ 10000) (w : World) (hs : SA4 w z s0 s1 s2 s3) : Calls Try.prog 53 #[wdV z s0 s1 s2 s3] w fun e w' => e = .returned (.tuple #[nmV (wnum z).1, .bool (wnum z).2]) ∧ Below w.heap.size w w' := by
  obtain ⟨⟨a0, c0, rfl⟩, ⟨a1, c1, rfl⟩, ⟨a2, c2, rfl⟩, ⟨a3, c3, rfl⟩⟩ := (⟨hs.a.form, hs.b.form, hs.c.form, hs.d.form⟩ : _ ∧ _ ∧ _ ∧ _)
  go_enter Try.func53, Try.ntmps53
  refine wk_start ?_
  refine wk_seq ?_
  refine wk_region [1, 1, 0] rfl Kx ?_
  simp only [qy]
  refine Rgn fun g1 => ?_
  simp only [qz]
  refine Rgn fun g2 => ?_
  simp only [qz]
  refine rg_assign ?_
  simp only [qz]
  refine rg_nil (ek_next ?_)
  refine wk_cutF [4, 5, 10, 11, 12, 13, 14, 15, 16, 17, 18, 19, 20, 21, 22, 23, 24, 25, 26, 27, 28, 29, 30, 31, 32, 33, 34, 35, 36, 37, 38, 39, 40, 41, 42, 43, 44, 45, 46, 47, 48, 49, 50, 51] (fun f s => ∃ (y : Nm) (ta0 ta1 ta2 ta3 : Option Addr) (tc0 tc1 tc2 tc3 : Nat) (u : List Blk), s = (u ++ ((g2, .cells #[.int .i64 0, .int .i64 0, .int .i64 0, .int .i64 0, .int .i64 0] 45) :: ((g1, .cells #[.bool (decide (y.a < 0)), .slice ta0 (digs y.a.natAbs).length tc0, .bool (decide (y.b < 0)), .slice ta1 (digs y.b.natAbs).length tc1, .bool (decide (y.c < 0)), .slice ta2 (digs y.c.natAbs).length tc2, .bool (decide (y.d < 0)), .slice ta3 (digs y.d.natAbs).length tc3, .int .i64 y.k] 70) :: []))) ∧ Hid (y.nf = z.nf) ∧ y.nf = y ∧ SK4 w u y (.slice ta0 (digs y.a.natAbs).length tc0) (.slice ta1 (digs y.b.natAbs).length tc1) (.slice ta2 (digs y.c.natAbs).length tc2) (.slice ta3 (digs y.d.natAbs).length tc3) ∧ y.Fit 9850501549098619803069760025035903451269934817616361666987073351061430442874302652853566563721228910201656997576704) ?_ ?_
  · refine wk_block ?_
    refine wk_loopF [4, 5, 10, 11, 12, 13, 14, 15, 16, 17, 18, 19, 20, 21, 22, 23, 24, 25, 26, 27, 28, 29, 30, 31, 32, 33, 34, 35, 36, 37, 38, 39, 40, 41, 42, 43, 44, 45, 46, 47, 48, 49, 50, 51] (fun mz f s => ∃ (y : Nm) (ta0 ta1 ta2 ta3 : Option Addr) (tc0 tc1 tc2 tc3 : Nat) (u : List Blk), s = (u ++ ((g2, .cells #[.int .i64 0, .int .i64 0, .int .i64 0, .int .i64 0, .int .i64 0] 45) :: ((g1, .cells #[.bool (decide (y.a < 0)), .slice ta0 (digs y.a.natAbs).length tc0, .bool (decide (y.b < 0)), .slice ta1 (digs y.b.natAbs).length tc1, .bool (decide (y.c < 0)), .slice ta2 (digs y.c.natAbs).length tc2, .bool (decide (y.d < 0)), .slice ta3 (digs y.d.natAbs).length tc3, .int .i64 y.k] 70) :: []))) ∧ mz = y.k.toNat ∧ Hid (y.nf = z.nf) ∧ SK4 w u y (.slice ta0 (digs y.a.natAbs).length tc0) (.slice ta1 (digs y.b.natAbs).length tc1) (.slice ta2 (digs y.c.natAbs).length tc2) (.slice ta3 (digs y.d.natAbs).length tc3) ∧ y.Fit 9850501549098619803069760025035903451269934817616361666987073351061430442874302652853566563721228910201656997576704 ∧ 0 ≤ y.k ∧ y.k ≤ 10000) ((fun (y : Nm) (ta0 ta1 ta2 ta3 : Option Addr) (tc0 tc1 tc2 tc3 : Nat) (u : List Blk) => y.k.toNat) (z) (a0) (a1) (a2) (a3) (c0) (c1) (c2) (c3) ([])) ?_ Kx ?_
    · exact ⟨z, a0, a1, a2, a3, c0, c1, c2, c3, [], rfl, rfl, Lib.hid rfl, SK4.arg hs, hz, hk, hk1⟩
    rintro mz f1 s ⟨y, ta0, ta1, ta2, ta3, tc0, tc1, tc2, tc3, u, rfl, hn, hd1, hd2, hd3, hd4, hd5⟩
    simp only [Act.putF, List.foldl_cons, List.foldl_nil, Act.put, Act.eval, q1, q2, q3, q4, q5, q6, q7, q8, q9, q10, q11, q12, q13, q14, q15, q16, q17, q18, Nat.reduceAdd, Bool.not_true, Bool.not_false]
    have hnf := hd1
    have hsk := hd2
    have hfit := hd3
    clear hd1 hd2 hd3
    refine wk_seq (wk_seq ?_)
    refine wk_region [0, 0, 0, 0, 0, 0, 0, 0, 0, 0, 1, 1, 0, 0, 0, 0, 0, 0, 0, 0, 1, 1, 0] rfl Kx ?_
    simp only [qy]
    refine rf_field (n := 0) (j := 8) rfl rfl rfl Try.underlying70 rfl Kx rfl ?_
    simp only [qz]
    refine rf_load rfl rfl rfl Try.underlying3 rfl (fun w hw => (Kn.hd0 (Kn.tl (Kn.tlU hw))).at rfl) ?_
    simp only [qz]
    refine rfb_gtr rfl rfl rfl rfl ?_
    intro x h1
    cases x
    · (try simp only [qd, ne_eq] at h1)
      simp only [qz]
      refine rg_move ?_
      simp only [qz]
      refine rg_skip Rx ?_
      simp only [qz]
      refine rg_skip Rx ?_
      simp only [qz]
      refine rg_skip Rx ?_
      simp only [qz]
      refine rg_skip Rx ?_
      simp only [qz]
      refine rg_skip Rx ?_
      simp only [qz]
      refine rg_skip Rx ?_
      simp only [qz]
      refine rg_skip_h Rx Nz ?_
      simp only [qz]
      refine rg_skip_h Rx Nz ?_
      simp only [qz]
      refine rf_pick rfl rfl rfl ?_
      simp only [qz]
      refine rg_move ?_
      simp only [qz]
      refine rg_skip Rx ?_
      simp only [qz]
      refine rg_skip Rx ?_
      simp only [qz]
      refine rg_skip Rx ?_
      simp only [qz]
      refine rg_skip Rx ?_
      simp only [qz]
      refine rg_skip Rx ?_
      simp only [qz]
      refine rg_skip Rx ?_
      simp only [qz]
      refine rg_skip_h Rx Nz ?_
      simp only [qz]
      refine rg_skip_h Rx Nz ?_
      simp only [qz]
      refine rf_pick rfl rfl rfl ?_
      simp only [qz]
      refine rg_nil (ek_next (wk_cond_f rfl (wk_exit (ek_then_exit (ek_then_exit (ek_block_exit ?_))))))
      refine ek_midF Kx ?_
      exact ⟨y, ta0, ta1, ta2, ta3, tc0, tc1, tc2, tc3, u, by rfl, hnf, (nf_stop (fun hh => by have := hh.1; have := hh.2.1; have := hh.2.2; omega)), hsk, hfit⟩
    (try simp only [qd, ne_eq] at h1)
    simp only [qz]
    refine rg_move ?_
    simp only [qz]
    refine rf_field (n := 7) (j := 0) rfl rfl rfl Try.underlying70 rfl Kx rfl ?_
    simp only [qz]
    refine rf_indexA (n := 0) (sz := 2) (j := 0) rfl rfl rfl rfl Try.underlying68 Kx (by decide) rfl ?_
    simp only [qz]
    refine rf_loadR (n := 2) rfl rfl rfl Try.underlying67 rfl Kx (fun w hw => Kn.hd0 (Kn.tl (Kn.tlU hw))) rfl rfl ?_
    simp only [qz]
    refine rf_field (n := 7) (j := 0) rfl rfl rfl Try.underlying70 rfl Kx rfl ?_
    simp only [qz]
    refine rf_indexA (n := 2) (sz := 2) (j := 4) rfl rfl rfl rfl Try.underlying68 Kx (by decide) rfl ?_
    simp only [qz]
    refine rf_loadR (n := 2) rfl rfl rfl Try.underlying67 rfl Kx (fun w hw => Kn.hd0 (Kn.tl (Kn.tlU hw))) rfl rfl ?_
    simp only [qz]
    obtain ⟨la, lb, lc, ld⟩ := fit_big hfit
    obtain ⟨fa0, fa1, fb0, fb1, fc0, fc1, fd0, fd1⟩ := id hfit
    apply (rg_made (T := fun v u => ∃ s, v = bgV (y.a + y.c) s ∧ SU u s (y.a + y.c).natAbs)) Rx Kx
    case hargs => exact Ax
    case h => exact fun w hw => badd_any y.a y.c _ _ la lc w (hsk.a.at hw (List.sublist_append_left _ _)) (hsk.c.at hw (List.sublist_append_left _ _))
    case hz => exact Nz
    rintro _ u3 ⟨s3, rfl, hS3⟩
    obtain ⟨⟨sa3, sc3, rfl⟩, -⟩ := id hS3
    simp only [qz]
    apply rg_pureb Rx Kx
    case hargs => exact Ax
    case h => exact fun w hw => beven_any (y.a + y.c) _ (len_big Ox Ox) w (hS3.at hw (List.sublist_append_left _ _))
    case hz => exact Nz
    intro x h2
    cases x
    · (try simp only [qd, ne_eq] at h2)
      simp only [qz]
      refine rf_pick rfl rfl rfl ?_
      simp only [qz]
      refine rg_move ?_
      simp only [qz]
      refine rg_skip Rx ?_
      simp only [qz]
      refine rg_skip Rx ?_
      simp only [qz]
      refine rg_skip Rx ?_
      simp only [qz]
      refine rg_skip Rx ?_
      simp only [qz]
      refine rg_skip Rx ?_
      simp only [qz]
      refine rg_skip Rx ?_
      simp only [qz]
      refine rg_skip_h Rx Nz ?_
      simp only [qz]
      refine rg_skip_h Rx Nz ?_
      simp only [qz]
      refine rf_pick rfl rfl rfl ?_
      simp only [qz]
      refine rg_nil (ek_next (wk_cond_f rfl (wk_exit (ek_then_exit (ek_then_exit (ek_block_exit ?_))))))
      refine ek_sub ((List.Sublist.append_left (sc _ (sc _ sn)) _).trans (List.sublist_append_right _ _)) ?_
      refine ek_midF Kx ?_
      exact ⟨y, ta0, ta1, ta2, ta3, tc0, tc1, tc2, tc3, u, by rfl, hnf, (nf_stop (fun hh => by have := hh.1; have := hh.2.1; have := hh.2.2; omega)), hsk, hfit⟩
    (try simp only [qd, ne_eq] at h2)
    simp only [qz]
    refine rf_pick rfl rfl rfl ?_
    simp only [qz]
    refine rg_move ?_
    simp only [qz]
    refine rf_field (n := 7) (j := 0) rfl rfl rfl Try.underlying70 rfl Kx rfl ?_
    simp only [qz]
    refine rf_indexA (n := 1) (sz := 2) (j := 2) rfl rfl rfl rfl Try.underlying68 Kx (by decide) rfl ?_
    simp only [qz]
    refine rf_loadR (n := 2) rfl rfl rfl Try.underlying67 rfl Kx (fun w hw => Kn.hd0 (Kn.tl (Kn.tlU (Kn.tlU hw)))) rfl rfl ?_
    simp only [qz]
    refine rf_field (n := 7) (j := 0) rfl rfl rfl Try.underlying70 rfl Kx rfl ?_
    simp only [qz]
    refine rf_indexA (n := 3) (sz := 2) (j := 6) rfl rfl rfl rfl Try.underlying68 Kx (by decide) rfl ?_
    simp only [qz]
    refine rf_loadR (n := 2) rfl rfl rfl Try.underlying67 rfl Kx (fun w hw => Kn.hd0 (Kn.tl (Kn.tlU (Kn.tlU hw)))) rfl rfl ?_
    simp only [qz]
    apply (rg_made (T := fun v u => ∃ s, v = bgV (y.b + y.d) s ∧ SU u s (y.b + y.d).natAbs)) Rx Kx
    case hargs => exact Ax
    case h => exact fun w hw => badd_any y.b y.d _ _ lb ld w (hsk.b.at hw ((List.sublist_append_left _ _).trans (List.sublist_append_right _ _))) (hsk.d.at hw ((List.sublist_append_left _ _).trans (List.sublist_append_right _ _)))
    case hz => exact Nz
    rintro _ u4 ⟨s4, rfl, hS4⟩
    obtain ⟨⟨sa4, sc4, rfl⟩, -⟩ := id hS4
    simp only [qz]
    apply rg_pureb Rx Kx
    case hargs => exact Ax
    case h => exact fun w hw => beven_any (y.b + y.d) _ (len_big Ox Ox) w (hS4.at hw (List.sublist_append_left _ _))
    case hz => exact Nz
    intro x h3
    cases x
    · (try simp only [qd, ne_eq] at h3)
      simp only [qz]
      refine rf_pick rfl rfl rfl ?_
      simp only [qz]
      refine rg_nil (ek_next (wk_cond_f rfl (wk_exit (ek_then_exit (ek_then_exit (ek_block_exit ?_))))))
      refine ek_sub (((List.Sublist.append_left (sc _ (sc _ sn)) _).trans (List.sublist_append_right _ _)).trans (List.sublist_append_right _ _)) ?_
      refine ek_midF Kx ?_
      exact ⟨y, ta0, ta1, ta2, ta3, tc0, tc1, tc2, tc3, u, by rfl, hnf, (nf_stop (fun hh => by have := hh.1; have := hh.2.1; have := hh.2.2; omega)), hsk, hfit⟩
    (try simp only [qd, ne_eq] at h3)
    simp only [qz]
    refine rf_pick rfl rfl rfl ?_
    simp only [qz]
    refine rg_nil (ek_next (wk_cond_t rfl (wk_skip (ek_next (wk_block (wk_seq ?_))))))
    refine wk_region [0, 0, 1, 1, 1] rfl Kx ?_
    simp only [qy]
    refine rf_field (n := 7) (j := 0) rfl rfl rfl Try.underlying70 rfl Kx rfl ?_
    simp only [qz]
    refine rf_loadR (n := 8) rfl rfl rfl Try.underlying68 rfl Kx (fun w hw => Kn.hd0 (Kn.tl (Kn.tlU (Kn.tlU (Kn.tlU hw))))) rfl rfl ?_
    simp only [qz]
    apply (rg_made (T := fun v u => ∃ s0 s1 s2 s3, v = arV (y.tr) s0 s1 s2 s3 ∧ SU4 u (y.tr) s0 s1 s2 s3)) Rx Kx
    case hargs => exact Ax
    case h => exact fun w hw => timesR_any y _ _ _ _ hfit w (hsk.at hw (((List.sublist_append_left _ _).trans (List.sublist_append_right _ _)).trans (List.sublist_append_right _ _)))
    case hz => exact Nz
    rintro _ u5 ⟨t0, t1, t2, t3, rfl, hS5⟩
    obtain ⟨⟨ta5_0, tc5_0, rfl⟩, -⟩ := id hS5.a
    obtain ⟨⟨ta5_1, tc5_1, rfl⟩, -⟩ := id hS5.b
    obtain ⟨⟨ta5_2, tc5_2, rfl⟩, -⟩ := id hS5.c
    obtain ⟨⟨ta5_3, tc5_3, rfl⟩, -⟩ := id hS5.d
    simp only [qz]
    obtain ⟨ma, mb, mc, md⟩ := tr_len hfit
    refine Rgn fun g6 => ?_
    simp only [qz]
    refine rf_storeR (n := 8) rfl rfl Kx rfl rfl (UpdR.here _ _ _ Nl) Nz ?_
    simp only [qz, Nat.reduceAdd]
    refine rg_nil (ek_next (wk_seq (wk_seq ?_)))
    refine wk_region [0] rfl Kx ?_
    simp only [qy]
    refine rg_assign ?_
    simp only [qz]
    refine rg_nil (ek_next (wk_block ?_))
    refine wk_unroll 4 ?_
    refine wk_seq (wk_seq ?_)
    refine wk_region [0, 0] rfl Kx ?_
    simp only [qy]
    refine rg_move ?_
    simp only [qz]
    refine rf_lss (b := true) rfl rfl rfl rfl (by decide) ?_
    simp only [qz]
    refine rg_nil (ek_next (wk_cond_t rfl (wk_skip (ek_next (wk_seq (wk_block ?_))))))
    refine wk_region [0, 0, 0, 0, 1, 0, 1] rfl Kx ?_
    simp only [qy]
    refine rg_move ?_
    simp only [qz]
    refine rg_move ?_
    simp only [qz]
    refine rf_indexA (n := 0) (sz := 2) (j := 0) rfl rfl rfl rfl Try.underlying68 Kx (by decide) rfl ?_
    simp only [qz]
    refine rf_loadR (n := 2) rfl rfl rfl Try.underlying67 rfl Kx (fun w hw => Kn.hd0 hw) rfl rfl ?_
    simp only [qz]
    apply (rg_made (T := fun v u => ∃ s, v = bgV (y.tr.a / 2) s ∧ SU u s (y.tr.a / 2).natAbs)) Rx Kx
    case hargs => exact Ax
    case h => exact fun w hw => bhalf_any y.tr.a _ ma (by simp only [Nm.tr]; omega) w (hS5.a.at hw (List.Sublist.cons _ (List.sublist_append_left _ _)))
    case hz => exact Nz
    rintro _ u7 ⟨s7, rfl, hS7⟩
    obtain ⟨⟨sa7, sc7, rfl⟩, -⟩ := id hS7
    simp only [qz]
    refine rf_indexA (n := 0) (sz := 2) (j := 0) rfl rfl rfl rfl Try.underlying68 Kx (by decide) rfl ?_
    simp only [qz]
    refine rf_storeR (n := 2) rfl rfl Kx rfl rfl (UpdR.app _ (UpdR.here _ _ _ Nl)) Nz ?_
    simp only [qz, Nat.reduceAdd]
    refine rg_nil (ek_block (ek_next ?_))
    refine wk_region [0, 0, 0] rfl Kx ?_
    simp only [qy]
    refine rg_move ?_
    simp only [qz]
    refine rf_add (r := 1) rfl rfl rfl rfl (by decide) ?_
    simp only [qz]
    refine rg_assign ?_
    simp only [qz]
    refine rg_nil (ek_again (wk_seq (wk_seq ?_)))
    refine wk_region [0, 0] rfl Kx ?_
    simp only [qy]
    refine rg_move ?_
    simp only [qz]
    refine rf_lss (b := true) rfl rfl rfl rfl (by decide) ?_
    simp only [qz]
    refine rg_nil (ek_next (wk_cond_t rfl (wk_skip (ek_next (wk_seq (wk_block ?_))))))
    refine wk_region [0, 0, 0, 0, 1, 0, 1] rfl Kx ?_
    simp only [qy]
    refine rg_move ?_
    simp only [qz]
    refine rg_move ?_
    simp only [qz]
    refine rf_indexA (n := 1) (sz := 2) (j := 2) rfl rfl rfl rfl Try.underlying68 Kx (by decide) rfl ?_
    simp only [qz]
    refine rf_loadR (n := 2) rfl rfl rfl Try.underlying67 rfl Kx (fun w hw => Kn.hd0 (Kn.tlU hw)) rfl rfl ?_
    simp only [qz]
    apply (rg_made (T := fun v u => ∃ s, v = bgV (y.tr.b / 2) s ∧ SU u s (y.tr.b / 2).natAbs)) Rx Kx
    case hargs => exact Ax
    case h => exact fun w hw => bhalf_any y.tr.b _ mb (by simp only [Nm.tr]; omega) w (hS5.b.at hw ((List.Sublist.cons _ (List.sublist_append_left _ _)).trans (List.sublist_append_right _ _)))
    case hz => exact Nz
    rintro _ u8 ⟨s8, rfl, hS8⟩
    obtain ⟨⟨sa8, sc8, rfl⟩, -⟩ := id hS8
    simp only [qz]
    refine rf_indexA (n := 1) (sz := 2) (j := 2) rfl rfl rfl rfl Try.underlying68 Kx (by decide) rfl ?_
    simp only [qz]
    refine rf_storeR (n := 2) rfl rfl Kx rfl rfl (UpdR.app _ (UpdR.app _ (UpdR.here _ _ _ Nl))) Nz ?_
    simp only [qz, Nat.reduceAdd]
    refine rg_nil (ek_block (ek_next ?_))
    refine wk_region [0, 0, 0] rfl Kx ?_
    simp only [qy]
    refine rg_move ?_
    simp only [qz]
    refine rf_add (r := 2) rfl rfl rfl rfl (by decide) ?_
    simp only [qz]
    refine rg_assign ?_
    simp only [qz]
    refine rg_nil (ek_again (wk_seq (wk_seq ?_)))
    refine wk_region [0, 0] rfl Kx ?_
    simp only [qy]
    refine rg_move ?_
    simp only [qz]
    refine rf_lss (b := true) rfl rfl rfl rfl (by decide) ?_
    simp only [qz]
    refine rg_nil (ek_next (wk_cond_t rfl (wk_skip (ek_next (wk_seq (wk_block ?_))))))
    refine wk_region [0, 0, 0, 0, 1, 0, 1] rfl Kx ?_
    simp only [qy]
    refine rg_move ?_
    simp only [qz]
    refine rg_move ?_
    simp only [qz]
    refine rf_indexA (n := 2) (sz := 2) (j := 4) rfl rfl rfl rfl Try.underlying68 Kx (by decide) rfl ?_
    simp only [qz]
    refine rf_loadR (n := 2) rfl rfl rfl Try.underlying67 rfl Kx (fun w hw => Kn.hd0 (Kn.tlU (Kn.tlU hw))) rfl rfl ?_
    simp only [qz]
    apply (rg_made (T := fun v u => ∃ s, v = bgV (y.tr.c / 2) s ∧ SU u s (y.tr.c / 2).natAbs)) Rx Kx
    case hargs => exact Ax
    case h => exact fun w hw => bhalf_any y.tr.c _ mc (by simp only [Nm.tr]; omega) w (hS5.c.at hw (((List.Sublist.cons _ (List.sublist_append_left _ _)).trans (List.sublist_append_right _ _)).trans (List.sublist_append_right _ _)))
    case hz => exact Nz
    rintro _ u9 ⟨s9, rfl, hS9⟩
    obtain ⟨⟨sa9, sc9, rfl⟩, -⟩ := id hS9
    simp only [qz]
    refine rf_indexA (n := 2) (sz := 2) (j := 4) rfl rfl rfl rfl Try.underlying68 Kx (by decide) rfl ?_
    simp only [qz]
    refine rf_storeR (n := 2) rfl rfl Kx rfl rfl (UpdR.app _ (UpdR.app _ (UpdR.app _ (UpdR.here _ _ _ Nl)))) Nz ?_
    simp only [qz, Nat.reduceAdd]
    refine rg_nil (ek_block (ek_next ?_))
    refine wk_region [0, 0, 0] rfl Kx ?_
    simp only [qy]
    refine rg_move ?_
    simp only [qz]
    refine rf_add (r := 3) rfl rfl rfl rfl (by decide) ?_
    simp only [qz]
    refine rg_assign ?_
    simp only [qz]
    refine rg_nil (ek_again (wk_seq (wk_seq ?_)))
    refine wk_region [0, 0] rfl Kx ?_
    simp only [qy]
    refine rg_move ?_
    simp only [qz]
    refine rf_lss (b := true) rfl rfl rfl rfl (by decide) ?_
    simp only [qz]
    refine rg_nil (ek_next (wk_cond_t rfl (wk_skip (ek_next (wk_seq (wk_block ?_))))))
    refine wk_region [0, 0, 0, 0, 1, 0, 1] rfl Kx ?_
    simp only [qy]
    refine rg_move ?_
    simp only [qz]
    refine rg_move ?_
    simp only [qz]
    refine rf_indexA (n := 3) (sz := 2) (j := 6) rfl rfl rfl rfl Try.underlying68 Kx (by decide) rfl ?_
    simp only [qz]
    refine rf_loadR (n := 2) rfl rfl rfl Try.underlying67 rfl Kx (fun w hw => Kn.hd0 (Kn.tlU (Kn.tlU (Kn.tlU hw)))) rfl rfl ?_
    simp only [qz]
    apply (rg_made (T := fun v u => ∃ s, v = bgV (y.tr.d / 2) s ∧ SU u s (y.tr.d / 2).natAbs)) Rx Kx
    case hargs => exact Ax
    case h => exact fun w hw => bhalf_any y.tr.d _ md (by simp only [Nm.tr]; omega) w (hS5.d.at hw ((((List.Sublist.cons _ (List.sublist_append_left _ _)).trans (List.sublist_append_right _ _)).trans (List.sublist_append_right _ _)).trans (List.sublist_append_right _ _)))
    case hz => exact Nz
    rintro _ u10 ⟨s10, rfl, hS10⟩
    obtain ⟨⟨sa10, sc10, rfl⟩, -⟩ := id hS10
    simp only [qz]
    refine rf_indexA (n := 3) (sz := 2) (j := 6) rfl rfl rfl rfl Try.underlying68 Kx (by decide) rfl ?_
    simp only [qz]
    refine rf_storeR (n := 2) rfl rfl Kx rfl rfl (UpdR.app _ (UpdR.app _ (UpdR.app _ (UpdR.app _ (UpdR.here _ _ _ Nl))))) Nz ?_
    simp only [qz, Nat.reduceAdd]
    refine rg_nil (ek_block (ek_next ?_))
    refine wk_region [0, 0, 0] rfl Kx ?_
    simp only [qy]
    refine rg_move ?_
    simp only [qz]
    refine rf_add (r := 4) rfl rfl rfl rfl (by decide) ?_
    simp only [qz]
    refine rg_assign ?_
    simp only [qz]
    refine rg_nil (ek_again (wk_seq (wk_seq ?_)))
    refine wk_region [0, 0] rfl Kx ?_
    simp only [qy]
    refine rg_move ?_
    simp only [qz]
    refine rf_lss (b := false) rfl rfl rfl rfl (by decide) ?_
    simp only [qz]
    refine rg_nil (ek_next (wk_cond_f rfl (wk_exit (ek_then_exit (ek_then_exit (ek_block_exit (ek_next ?_)))))))
    refine wk_region [0, 0, 0, 0, 0, 1, 0, 1] rfl Kx ?_
    simp only [qy]
    refine rf_loadR (n := 8) rfl rfl rfl Try.underlying68 rfl Kx (fun w hw => Kn.hd0 (Kn.tlU (Kn.tlU (Kn.tlU (Kn.tlU hw))))) rfl rfl ?_
    simp only [qz]
    refine rf_field (n := 0) (j := 8) rfl rfl rfl Try.underlying70 rfl Kx rfl ?_
    simp only [qz]
    refine rf_load rfl rfl rfl Try.underlying3 rfl (fun w hw => (Kn.hd0 (Kn.tl (Kn.tlU (Kn.tlU (Kn.tlU (Kn.tlU (Kn.tl (Kn.tlU (Kn.tlU (Kn.tlU (Kn.tlU hw))))))))))).at rfl) ?_
    simp only [qz]
    refine rf_sub rfl rfl rfl rfl (wrap_ok Ox Ox) ?_
    simp only [qz]
    refine rf_field (n := 7) (j := 0) rfl rfl rfl Try.underlying70 rfl Kx rfl ?_
    simp only [qz]
    refine rf_storeR (n := 8) rfl rfl Kx rfl rfl (UpdR.app _ (UpdR.app _ (UpdR.app _ (UpdR.app _ (UpdR.there _ (UpdR.app _ (UpdR.app _ (UpdR.app _ (UpdR.app _ (UpdR.there _ (UpdR.here _ _ _ Nl))))))))))) Nz ?_
    simp only [qz, Nat.reduceAdd]
    refine rf_field (n := 0) (j := 8) rfl rfl rfl Try.underlying70 rfl Kx rfl ?_
    simp only [qz]
    refine rf_store rfl rfl Kx rfl rfl (UpdR.app _ (UpdR.app _ (UpdR.app _ (UpdR.app _ (UpdR.there _ (UpdR.app _ (UpdR.app _ (UpdR.app _ (UpdR.app _ (UpdR.there _ (UpdR.here _ _ _ Nl))))))))))) Nz ?_
    simp only [qz]
    refine rg_nil (ek_block ?_)
    refine ek_sub (List.Sublist.append_left (List.Sublist.append_left (List.Sublist.append_left (List.Sublist.append_left (sk _ (((((sc _ (sc _ sn)).trans (List.sublist_append_right _ _)).trans (List.sublist_append_right _ _)).trans (List.sublist_append_right _ _)).trans (List.sublist_append_right _ _))) _) _) _) _) ?_
    refine ek_roundF (y.step.k.toNat) ((by simp only [Nm.step]; omega)) Kx ?_
    exact ⟨y.step, sa7, sa8, sa9, sa10, sc7, sc8, sc9, sc10, (u10 ++ (u9 ++ (u8 ++ u7))), (by simp only [List.append_assoc]; rfl), by rfl, (Lib.hid ((nf_step Ox ⟨by omega, by omega⟩).symm.trans hnf.out)), ⟨(SK.own (hS7.mono ((((List.Sublist.refl _).trans (List.sublist_append_right _ _)).trans (List.sublist_append_right _ _)).trans (List.sublist_append_right _ _)))), (SK.own (hS8.mono (((List.sublist_append_left _ _).trans (List.sublist_append_right _ _)).trans (List.sublist_append_right _ _)))), (SK.own (hS9.mono ((List.sublist_append_left _ _).trans (List.sublist_append_right _ _)))), (SK.own (hS10.mono (List.sublist_append_left _ _)))⟩, (Nm.step_fit hfit), (by simp only [Nm.step]; omega), (by simp only [Nm.step]; omega)⟩
  rintro f1 s ⟨y, ta0, ta1, ta2, ta3, tc0, tc1, tc2, tc3, u, rfl, hnf, hst, hsk, hfit⟩
  simp only [Act.putF, List.foldl_cons, List.foldl_nil, Act.put, Act.eval, q1, q2, q3, q4, q5, q6, q7, q8, q9, q10, q11, q12, q13, q14, q15, q16, q17, q18, Nat.reduceAdd, Bool.not_true, Bool.not_false]
  have hyz : y = z.nf := hst.symm.trans hnf.out
  replace hyz := Lib.hid hyz
  clear hst hnf
  obtain ⟨la, lb, lc, ld⟩ := fit_big hfit
  refine wk_seq ?_
  refine wk_region [0, 0, 0, 1, 1] rfl Kx ?_
  simp only [qy]
  refine rf_field (n := 0) (j := 8) rfl rfl rfl Try.underlying70 rfl Kx rfl ?_
  simp only [qz]
  refine rf_load rfl rfl rfl Try.underlying3 rfl (fun w hw => (Kn.hd0 (Kn.tl (Kn.tlU hw))).at rfl) ?_
  simp only [qz]
  refine rf_build (cs := fun a => #[.int .i64 0, .int .i64 0, .int .i64 0, .int .i64 0, a.eval (.tmp 53)]) rfl rfl Kx ?_
  simp only [qz]
  refine Rgn fun g11 => ?_
  simp only [qz]
  refine rf_storeR (n := 5) rfl rfl Kx rfl rfl (UpdR.here _ _ _ Nl) Nz ?_
  simp only [qz, Nat.reduceAdd]
  refine rg_nil (ek_next (wk_seq (wk_seq ?_)))
  refine wk_region [0] rfl Kx ?_
  simp only [qy]
  refine rg_assign ?_
  simp only [qz]
  refine rg_nil (ek_next (wk_block ?_))
  refine wk_unroll 4 ?_
  refine wk_seq (wk_seq ?_)
  refine wk_region [0, 0] rfl Kx ?_
  simp only [qy]
  refine rg_move ?_
  simp only [qz]
  refine rf_lss (b := true) rfl rfl rfl rfl (by decide) ?_
  simp only [qz]
  refine rg_nil (ek_next (wk_cond_t rfl (wk_skip (ek_next (wk_seq (wk_block (wk_seq ?_)))))))
  refine wk_region [0, 0, 0, 0, 1, 0, 0, 0, 0, 0] rfl Kx ?_
  simp only [qy]
  refine rg_move ?_
  simp only [qz]
  refine rf_field (n := 7) (j := 0) rfl rfl rfl Try.underlying70 rfl Kx rfl ?_
  simp only [qz]
  refine rf_indexA (n := 0) (sz := 2) (j := 0) rfl rfl rfl rfl Try.underlying68 Kx (by decide) rfl ?_
  simp only [qz]
  refine rf_loadR (n := 2) rfl rfl rfl Try.underlying67 rfl Kx (fun w hw => Kn.hd0 (Kn.tl (Kn.tlU (Kn.tl hw)))) rfl rfl ?_
  simp only [qz]
  cases hq0 : smB y.a
  · apply rg_pure Rx Kx
    case hargs => exact Ax
    case h => exact fun w hw => by have := bsmall_any y.a _ la w (hsk.a.at hw (List.Sublist.cons _ (List.sublist_append_left _ _))); rw [hq0] at this; exact this
    case hz => exact Nz
    simp only [qz]
    refine rg_move ?_
    simp only [qz]
    refine rf_extract rfl rfl rfl rfl ?_
    simp only [qz]
    refine rf_extract rfl rfl rfl rfl ?_
    simp only [qz]
    refine rg_assign ?_
    simp only [qz]
    refine rg_assign ?_
    simp only [qz]
    refine rg_nil (ek_next (wk_seq (wk_seq ?_)))
    refine wk_region [0, 0] rfl Kx ?_
    simp only [qy]
    refine rg_move ?_
    simp only [qz]
    refine rf_not rfl rfl rfl ?_
    simp only [qz]
    refine rg_nil (ek_next (wk_cond_t rfl (wk_seq ?_)))
    refine wk_region [0, 1, 0] rfl Kx ?_
    simp only [qy]
    refine rf_build (cs := fun a => #[.int .i64 0, .int .i64 0, .int .i64 0, .int .i64 0, .int .i64 0]) rfl rfl Kx ?_
    simp only [qz]
    refine rf_storeR (n := 5) rfl rfl Kx rfl rfl (UpdR.there _ (UpdR.app _ (UpdR.here _ _ _ Nl))) Nz ?_
    simp only [qz, Nat.reduceAdd]
    refine rg_assign ?_
    simp only [qz]
    refine rg_nil (ek_next (wk_ret (ek_then_ret (ek_block_ret (ek_then_ret (ek_then_ret (ek_block_ret (ek_then_ret ?_))))))))
    refine ek_ret (fun w hw => ⟨rfl, _, run_results2 rfl rfl (Kn.hd0 (Kn.tlU (Kn.tl hw))) Try.underlying45 rfl Kx, ?_⟩)
    (try simp only [qz])
    exact ⟨by unfold wnum; rw [← hyz.out]; unfold numOk; simp [*, Nm.zero], hw.below⟩
  apply rg_pure Rx Kx
  case hargs => exact Ax
  case h => exact fun w hw => by have := bsmall_any y.a _ la w (hsk.a.at hw (List.Sublist.cons _ (List.sublist_append_left _ _))); rw [hq0] at this; exact this
  case hz => exact Nz
  simp only [qz]
  refine rg_move ?_
  simp only [qz]
  refine rf_extract rfl rfl rfl rfl ?_
  simp only [qz]
  refine rf_extract rfl rfl rfl rfl ?_
  simp only [qz]
  refine rg_assign ?_
  simp only [qz]
  refine rg_assign ?_
  simp only [qz]
  refine rg_nil (ek_next (wk_seq (wk_seq ?_)))
  refine wk_region [0, 0] rfl Kx ?_
  simp only [qy]
  refine rg_move ?_
  simp only [qz]
  refine rf_not rfl rfl rfl ?_
  simp only [qz]
  refine rg_nil (ek_next (wk_cond_f rfl (wk_skip (ek_next ?_))))
  refine wk_region [0, 0, 0, 0, 1] rfl Kx ?_
  simp only [qy]
  refine rg_move ?_
  simp only [qz]
  refine rg_move ?_
  simp only [qz]
  refine rf_field (n := 3) (j := 0) rfl rfl rfl Try.underlying45 rfl Kx rfl ?_
  simp only [qz]
  refine rf_indexA (n := 0) (sz := 1) (j := 0) rfl rfl rfl rfl Try.underlying43 Kx (by decide) rfl ?_
  simp only [qz]
  refine rf_store rfl rfl Kx rfl rfl (UpdR.here _ _ _ Nl) Nz ?_
  simp only [qz]
  refine rg_nil (ek_block (ek_next ?_))
  refine wk_region [0, 0, 0] rfl Kx ?_
  simp only [qy]
  refine rg_move ?_
  simp only [qz]
  refine rf_add (r := 1) rfl rfl rfl rfl (by decide) ?_
  simp only [qz]
  refine rg_assign ?_
  simp only [qz]
  refine rg_nil (ek_again (wk_seq (wk_seq ?_)))
  refine wk_region [0, 0] rfl Kx ?_
  simp only [qy]
  refine rg_move ?_
  simp only [qz]
  refine rf_lss (b := true) rfl rfl rfl rfl (by decide) ?_
  simp only [qz]
  refine rg_nil (ek_next (wk_cond_t rfl (wk_skip (ek_next (wk_seq (wk_block (wk_seq ?_)))))))
  refine wk_region [0, 0, 0, 0, 1, 0, 0, 0, 0, 0] rfl Kx ?_
  simp only [qy]
  refine rg_move ?_
  simp only [qz]
  refine rf_field (n := 7) (j := 0) rfl rfl rfl Try.underlying70 rfl Kx rfl ?_
  simp only [qz]
  refine rf_indexA (n := 1) (sz := 2) (j := 2) rfl rfl rfl rfl Try.underlying68 Kx (by decide) rfl ?_
  simp only [qz]
  refine rf_loadR (n := 2) rfl rfl rfl Try.underlying67 rfl Kx (fun w hw => Kn.hd0 (Kn.tl (Kn.tlU (Kn.tl hw)))) rfl rfl ?_
  simp only [qz]
  cases hq1 : smB y.b
  · apply rg_pure Rx Kx
    case hargs => exact Ax
    case h => exact fun w hw => by have := bsmall_any y.b _ lb w (hsk.b.at hw (List.Sublist.cons _ (List.sublist_append_left _ _))); rw [hq1] at this; exact this
    case hz => exact Nz
    simp only [qz]
    refine rg_move ?_
    simp only [qz]
    refine rf_extract rfl rfl rfl rfl ?_
    simp only [qz]
    refine rf_extract rfl rfl rfl rfl ?_
    simp only [qz]
    refine rg_assign ?_
    simp only [qz]
    refine rg_assign ?_
    simp only [qz]
    refine rg_nil (ek_next (wk_seq (wk_seq ?_)))
    refine wk_region [0, 0] rfl Kx ?_
    simp only [qy]
    refine rg_move ?_
    simp only [qz]
    refine rf_not rfl rfl rfl ?_
    simp only [qz]
    refine rg_nil (ek_next (wk_cond_t rfl (wk_seq ?_)))
    refine wk_region [0, 1, 0] rfl Kx ?_
    simp only [qy]
    refine rf_build (cs := fun a => #[.int .i64 0, .int .i64 0, .int .i64 0, .int .i64 0, .int .i64 0]) rfl rfl Kx ?_
    simp only [qz]
    refine rf_storeR (n := 5) rfl rfl Kx rfl rfl (UpdR.there _ (UpdR.app _ (UpdR.here _ _ _ Nl))) Nz ?_
    simp only [qz, Nat.reduceAdd]
    refine rg_assign ?_
    simp only [qz]
    refine rg_nil (ek_next (wk_ret (ek_then_ret (ek_block_ret (ek_then_ret (ek_then_ret (ek_block_ret (ek_then_ret ?_))))))))
    refine ek_ret (fun w hw => ⟨rfl, _, run_results2 rfl rfl (Kn.hd0 (Kn.tlU (Kn.tl hw))) Try.underlying45 rfl Kx, ?_⟩)
    (try simp only [qz])
    exact ⟨by unfold wnum; rw [← hyz.out]; unfold numOk; simp [*, Nm.zero], hw.below⟩
  apply rg_pure Rx Kx
  case hargs => exact Ax
  case h => exact fun w hw => by have := bsmall_any y.b _ lb w (hsk.b.at hw (List.Sublist.cons _ (List.sublist_append_left _ _))); rw [hq1] at this; exact this
  case hz => exact Nz
  simp only [qz]
  refine rg_move ?_
  simp only [qz]
  refine rf_extract rfl rfl rfl rfl ?_
  simp only [qz]
  refine rf_extract rfl rfl rfl rfl ?_
  simp only [qz]
  refine rg_assign ?_
  simp only [qz]
  refine rg_assign ?_
  simp only [qz]
  refine rg_nil (ek_next (wk_seq (wk_seq ?_)))
  refine wk_region [0, 0] rfl Kx ?_
  simp only [qy]
  refine rg_move ?_
  simp only [qz]
  refine rf_not rfl rfl rfl ?_
  simp only [qz]
  refine rg_nil (ek_next (wk_cond_f rfl (wk_skip (ek_next ?_))))
  refine wk_region [0, 0, 0, 0, 1] rfl Kx ?_
  simp only [qy]
  refine rg_move ?_
  simp only [qz]
  refine rg_move ?_
  simp only [qz]
  refine rf_field (n := 3) (j := 0) rfl rfl rfl Try.underlying45 rfl Kx rfl ?_
  simp only [qz]
  refine rf_indexA (n := 1) (sz := 1) (j := 1) rfl rfl rfl rfl Try.underlying43 Kx (by decide) rfl ?_
  simp only [qz]
  refine rf_store rfl rfl Kx rfl rfl (UpdR.here _ _ _ Nl) Nz ?_
  simp only [qz]
  refine rg_nil (ek_block (ek_next ?_))
  refine wk_region [0, 0, 0] rfl Kx ?_
  simp only [qy]
  refine rg_move ?_
  simp only [qz]
  refine rf_add (r := 2) rfl rfl rfl rfl (by decide) ?_
  simp only [qz]
  refine rg_assign ?_
  simp only [qz]
  refine rg_nil (ek_again (wk_seq (wk_seq ?_)))
  refine wk_region [0, 0] rfl Kx ?_
  simp only [qy]
  refine rg_move ?_
  simp only [qz]
  refine rf_lss (b := true) rfl rfl rfl rfl (by decide) ?_
  simp only [qz]
  refine rg_nil (ek_next (wk_cond_t rfl (wk_skip (ek_next (wk_seq (wk_block (wk_seq ?_)))))))
  refine wk_region [0, 0, 0, 0, 1, 0, 0, 0, 0, 0] rfl Kx ?_
  simp only [qy]
  refine rg_move ?_
  simp only [qz]
  refine rf_field (n := 7) (j := 0) rfl rfl rfl Try.underlying70 rfl Kx rfl ?_
  simp only [qz]
  refine rf_indexA (n := 2) (sz := 2) (j := 4) rfl rfl rfl rfl Try.underlying68 Kx (by decide) rfl ?_
  simp only [qz]
  refine rf_loadR (n := 2) rfl rfl rfl Try.underlying67 rfl Kx (fun w hw => Kn.hd0 (Kn.tl (Kn.tlU (Kn.tl hw)))) rfl rfl ?_
  simp only [qz]
  cases hq2 : smB y.c
  · apply rg_pure Rx Kx
    case hargs => exact Ax
    case h => exact fun w hw => by have := bsmall_any y.c _ lc w (hsk.c.at hw (List.Sublist.cons _ (List.sublist_append_left _ _))); rw [hq2] at this; exact this
    case hz => exact Nz
    simp only [qz]
    refine rg_move ?_
    simp only [qz]
    refine rf_extract rfl rfl rfl rfl ?_
    simp only [qz]
    refine rf_extract rfl rfl rfl rfl ?_
    simp only [qz]
    refine rg_assign ?_
    simp only [qz]
    refine rg_assign ?_
    simp only [qz]
    refine rg_nil (ek_next (wk_seq (wk_seq ?_)))
    refine wk_region [0, 0] rfl Kx ?_
    simp only [qy]
    refine rg_move ?_
    simp only [qz]
    refine rf_not rfl rfl rfl ?_
    simp only [qz]
    refine rg_nil (ek_next (wk_cond_t rfl (wk_seq ?_)))
    refine wk_region [0, 1, 0] rfl Kx ?_
    simp only [qy]
    refine rf_build (cs := fun a => #[.int .i64 0, .int .i64 0, .int .i64 0, .int .i64 0, .int .i64 0]) rfl rfl Kx ?_
    simp only [qz]
    refine rf_storeR (n := 5) rfl rfl Kx rfl rfl (UpdR.there _ (UpdR.app _ (UpdR.here _ _ _ Nl))) Nz ?_
    simp only [qz, Nat.reduceAdd]
    refine rg_assign ?_
    simp only [qz]
    refine rg_nil (ek_next (wk_ret (ek_then_ret (ek_block_ret (ek_then_ret (ek_then_ret (ek_block_ret (ek_then_ret ?_))))))))
    refine ek_ret (fun w hw => ⟨rfl, _, run_results2 rfl rfl (Kn.hd0 (Kn.tlU (Kn.tl hw))) Try.underlying45 rfl Kx, ?_⟩)
    (try simp only [qz])
    exact ⟨by unfold wnum; rw [← hyz.out]; unfold numOk; simp [*, Nm.zero], hw.below⟩
  apply rg_pure Rx Kx
  case hargs => exact Ax
  case h => exact fun w hw => by have := bsmall_any y.c _ lc w (hsk.c.at hw (List.Sublist.cons _ (List.sublist_append_left _ _))); rw [hq2] at this; exact this
  case hz => exact Nz
  simp only [qz]
  refine rg_move ?_
  simp only [qz]
  refine rf_extract rfl rfl rfl rfl ?_
  simp only [qz]
  refine rf_extract rfl rfl rfl rfl ?_
  simp only [qz]
  refine rg_assign ?_
  simp only [qz]
  refine rg_assign ?_
  simp only [qz]
  refine rg_nil (ek_next (wk_seq (wk_seq ?_)))
  refine wk_region [0, 0] rfl Kx ?_
  simp only [qy]
  refine rg_move ?_
  simp only [qz]
  refine rf_not rfl rfl rfl ?_
  simp only [qz]
  refine rg_nil (ek_next (wk_cond_f rfl (wk_skip (ek_next ?_))))
  refine wk_region [0, 0, 0, 0, 1] rfl Kx ?_
  simp only [qy]
  refine rg_move ?_
  simp only [qz]
  refine rg_move ?_
  simp only [qz]
  refine rf_field (n := 3) (j := 0) rfl rfl rfl Try.underlying45 rfl Kx rfl ?_
  simp only [qz]
  refine rf_indexA (n := 2) (sz := 1) (j := 2) rfl rfl rfl rfl Try.underlying43 Kx (by decide) rfl ?_
  simp only [qz]
  refine rf_store rfl rfl Kx rfl rfl (UpdR.here _ _ _ Nl) Nz ?_
  simp only [qz]
  refine rg_nil (ek_block (ek_next ?_))
  refine wk_region [0, 0, 0] rfl Kx ?_
  simp only [qy]
  refine rg_move ?_
  simp only [qz]
  refine rf_add (r := 3) rfl rfl rfl rfl (by decide) ?_
  simp only [qz]
  refine rg_assign ?_
  simp only [qz]
  refine rg_nil (ek_again (wk_seq (wk_seq ?_)))
  refine wk_region [0, 0] rfl Kx ?_
  simp only [qy]
  refine rg_move ?_
  simp only [qz]
  refine rf_lss (b := true) rfl rfl rfl rfl (by decide) ?_
  simp only [qz]
  refine rg_nil (ek_next (wk_cond_t rfl (wk_skip (ek_next (wk_seq (wk_block (wk_seq ?_)))))))
  refine wk_region [0, 0, 0, 0, 1, 0, 0, 0, 0, 0] rfl Kx ?_
  simp only [qy]
  refine rg_move ?_
  simp only [qz]
  refine rf_field (n := 7) (j := 0) rfl rfl rfl Try.underlying70 rfl Kx rfl ?_
  simp only [qz]
  refine rf_indexA (n := 3) (sz := 2) (j := 6) rfl rfl rfl rfl Try.underlying68 Kx (by decide) rfl ?_
  simp only [qz]
  refine rf_loadR (n := 2) rfl rfl rfl Try.underlying67 rfl Kx (fun w hw => Kn.hd0 (Kn.tl (Kn.tlU (Kn.tl hw)))) rfl rfl ?_
  simp only [qz]
  cases hq3 : smB y.d
  · apply rg_pure Rx Kx
    case hargs => exact Ax
    case h => exact fun w hw => by have := bsmall_any y.d _ ld w (hsk.d.at hw (List.Sublist.cons _ (List.sublist_append_left _ _))); rw [hq3] at this; exact this
    case hz => exact Nz
    simp only [qz]
    refine rg_move ?_
    simp only [qz]
    refine rf_extract rfl rfl rfl rfl ?_
    simp only [qz]
    refine rf_extract rfl rfl rfl rfl ?_
    simp only [qz]
    refine rg_assign ?_
    simp only [qz]
    refine rg_assign ?_
    simp only [qz]
    refine rg_nil (ek_next (wk_seq (wk_seq ?_)))
    refine wk_region [0, 0] rfl Kx ?_
    simp only [qy]
    refine rg_move ?_
    simp only [qz]
    refine rf_not rfl rfl rfl ?_
    simp only [qz]
    refine rg_nil (ek_next (wk_cond_t rfl (wk_seq ?_)))
    refine wk_region [0, 1, 0] rfl Kx ?_
    simp only [qy]
    refine rf_build (cs := fun a => #[.int .i64 0, .int .i64 0, .int .i64 0, .int .i64 0, .int .i64 0]) rfl rfl Kx ?_
    simp only [qz]
    refine rf_storeR (n := 5) rfl rfl Kx rfl rfl (UpdR.there _ (UpdR.app _ (UpdR.here _ _ _ Nl))) Nz ?_
    simp only [qz, Nat.reduceAdd]
    refine rg_assign ?_
    simp only [qz]
    refine rg_nil (ek_next (wk_ret (ek_then_ret (ek_block_ret (ek_then_ret (ek_then_ret (ek_block_ret (ek_then_ret ?_))))))))
    refine ek_ret (fun w hw => ⟨rfl, _, run_results2 rfl rfl (Kn.hd0 (Kn.tlU (Kn.tl hw))) Try.underlying45 rfl Kx, ?_⟩)
    (try simp only [qz])
    exact ⟨by unfold wnum; rw [← hyz.out]; unfold numOk; simp [*, Nm.zero], hw.below⟩
  apply rg_pure Rx Kx
  case hargs => exact Ax
  case h => exact fun w hw => by have := bsmall_any y.d _ ld w (hsk.d.at hw (List.Sublist.cons _ (List.sublist_append_left _ _))); rw [hq3] at this; exact this
  case hz => exact Nz
  simp only [qz]
  refine rg_move ?_
  simp only [qz]
  refine rf_extract rfl rfl rfl rfl ?_
  simp only [qz]
  refine rf_extract rfl rfl rfl rfl ?_
  simp only [qz]
  refine rg_assign ?_
  simp only [qz]
  refine rg_assign ?_
  simp only [qz]
  refine rg_nil (ek_next (wk_seq (wk_seq ?_)))
  refine wk_region [0, 0] rfl Kx ?_
  simp only [qy]
  refine rg_move ?_
  simp only [qz]
  refine rf_not rfl rfl rfl ?_
  simp only [qz]
  refine rg_nil (ek_next (wk_cond_f rfl (wk_skip (ek_next ?_))))
  refine wk_region [0, 0, 0, 0, 1] rfl Kx ?_
  simp only [qy]
  refine rg_move ?_
  simp only [qz]
  refine rg_move ?_
  simp only [qz]
  refine rf_field (n := 3) (j := 0) rfl rfl rfl Try.underlying45 rfl Kx rfl ?_
  simp only [qz]
  refine rf_indexA (n := 3) (sz := 1) (j := 3) rfl rfl rfl rfl Try.underlying43 Kx (by decide) rfl ?_
  simp only [qz]
  refine rf_store rfl rfl Kx rfl rfl (UpdR.here _ _ _ Nl) Nz ?_
  simp only [qz]
  refine rg_nil (ek_block (ek_next ?_))
  refine wk_region [0, 0, 0] rfl Kx ?_
  simp only [qy]
  refine rg_move ?_
  simp only [qz]
  refine rf_add (r := 4) rfl rfl rfl rfl (by decide) ?_
  simp only [qz]
  refine rg_assign ?_
  simp only [qz]
  refine rg_nil (ek_again (wk_seq (wk_seq ?_)))
  refine wk_region [0, 0] rfl Kx ?_
  simp only [qy]
  refine rg_move ?_
  simp only [qz]
  refine rf_lss (b := false) rfl rfl rfl rfl (by decide) ?_
  simp only [qz]
  refine rg_nil (ek_next (wk_cond_f rfl (wk_exit (ek_then_exit (ek_then_exit (ek_block_exit (ek_next (wk_seq ?_))))))))
  refine wk_draws_m (hz1 := (sc _ (List.Sublist.append_left (sk _ (sc _ sn)) _))) [(0, 0), (1, 3), (2, 3), (3, 3), (4, 2), (5, 0)] 4 Kx Kx (fun c d v a w h => by cases d <;> exact h) ?_
  simp only [List.map_cons, List.map_nil, List.getD_cons_zero, List.getD_cons_succ]
  refine rf_loadR (n := 5) rfl rfl rfl Try.underlying45 rfl Kx (fun w hw => Kn.hd0 hw) rfl rfl ?_
  simp only [qz]
  refine rf_field (n := 0) (j := 8) rfl rfl rfl Try.underlying70 rfl Kx rfl ?_
  simp only [qz]
  refine rf_load rfl rfl rfl Try.underlying3 rfl (fun w hw => (Kn.hd0 (Kn.tlU (Kn.tl hw))).at rfl) ?_
  simp only [qz]
  refine rf_leq rfl rfl rfl rfl rfl ?_
  simp only [qz]
  refine rf_storeRM (n := 5) rfl rfl Kx rfl rfl (UpdR.there _ (UpdR.app _ (UpdR.here _ _ _ Nl))) (sc _ (List.Sublist.append_left (sk _ (sc _ sn)) _)) ?_
  simp only [qz, Nat.reduceAdd]
  refine rg_assign ?_
  simp only [qz]
  refine rg_nil (ek_next (wk_ret ?_))
  refine ek_ret (fun w hw => ⟨rfl, _, run_results2 rfl rfl (Kn.hd0 (Kn.tlU (Kn.tl hw))) Try.underlying45 rfl Kx, ?_⟩)
  (try simp only [qz])
  exact ⟨by unfold wnum; rw [← hyz.out]; unfold numOk; simp [*, Nm.zero], hw.below⟩

end Go.Proofs.Ytccbinnlnkpplaa
namespace Go.Proofs.Ytccbinnlnkpplaa
set_option linter.all false
open Go.RowKit

theorem fit382 {z : Nm} (h : z.Fit 1000000000) : z.Fit 9850501549098619803069760025035903451269934817616361666987073351061430442874302652853566563721228910201656997576704 := Nm.fit_mono h (by decide)
theorem to_fit {z : Nm} {m : Int} (h : z.Fit 1000000000) (h0 : z.k ≤ m) (h1 : m - z.k ≤ 40) : (z.to m).Fit 9850501549098619803069760025035903451269934817616361666987073351061430442874302652853566563721228910201656997576704 := by
  unfold Nm.to
  exact Nm.fit_mono (Nm.up40_fit (n := (m - z.k).toNat) h Ox) (by decide)
theorem addR_fitW {x y : Nm} (hx : x.Ok) (hy : y.Ok) : (x.addR y).Fit 9850501549098619803069760025035903451269934817616361666987073351061430442874302652853566563721228910201656997576704 := Nm.fit_mono (addR_fit hx hy) (by decide)
theorem mulR_fitW {x y : Nm} (hx : x.Ok) (hy : y.Ok) : (x.mulR y).Fit 9850501549098619803069760025035903451269934817616361666987073351061430442874302652853566563721228910201656997576704 := Nm.fit_mono (mulR_fit hx.fit hy.fit) (by decide)
end Go.Proofs.Ytccbinnlnkpplaa
namespace Go.Proofs.Ytccbinnlnkpplaa
set_option linter.all false
open Go.RowKit

set_option maxRecDepth 100000 in
set_option maxHeartbeats 1000000 in
theorem rAt_any (N i k : Nat) (xs : List Nm) (a : Option Addr) (c : Nat) (hl : xs.length = N * N) (hN : N ≤ 6) (hi : i < N) (hk : k < N) (w : World) (hA : AS w a (nms xs)) : Calls Try.prog 115 #[.agg #[.int .i64 N, .slice a xs.length c], .int .i64 i, .int .i64 k] w fun e w' => e = .returned (nmV (nm xs (i * N + k))) ∧ Below w.heap.size w w' := by
  have hm := ix_small hi hN
  have hc0 : ((i * N : Nat) : Int) = (i : Int) * N := Int.natCast_mul i N
  obtain ⟨b, off, rfl, hlt, hcell⟩ := AS.openN hA Ox
  go_enter Try.func115, Try.ntmps115
  refine wk_start ?_
  refine wk_seq ?_
  refine wk_region [1, 1] rfl Kx ?_
  simp only [qy]
  refine Rgn fun g1 => ?_
  simp only [qz]
  refine Rgn fun g2 => ?_
  simp only [qz]
  refine rg_nil (ek_next (wk_seq ?_))
  refine wk_region [0, 0, 0, 0, 0, 0, 0, 0, 0, 0, 1] rfl Kx ?_
  simp only [qy]
  refine rf_field (n := 0) (j := 1) rfl rfl rfl Try.underlying38 rfl Kx rfl ?_
  simp only [qz]
  refine rf_load rfl rfl rfl Try.underlying36 rfl (fun w hw => (Kn.hd0 (Kn.tl hw)).at rfl) ?_
  simp only [qz]
  refine rg_move ?_
  simp only [qz]
  refine rf_field (n := 0) (j := 0) rfl rfl rfl Try.underlying38 rfl Kx rfl ?_
  simp only [qz]
  refine rf_load rfl rfl rfl Try.underlying3 rfl (fun w hw => (Kn.hd0 (Kn.tl hw)).at rfl) ?_
  simp only [qz]
  refine rf_mul rfl rfl rfl rfl (wrap_ok Ox Ox) ?_
  simp only [qz]
  refine rg_move ?_
  simp only [qz]
  refine rf_add rfl rfl rfl rfl (wrap_ok Ox Ox) ?_
  simp only [qz]
  refine rf_indexS (n := i * N + k) (sz := 5) (j := off + (i * N + k) * 5) rfl rfl rfl rfl Try.underlying36 Kx (by rw [Int.natCast_add, Int.natCast_mul]) Ox rfl ?_
  simp only [qz]
  refine rf_loadC (n := 5) (vs := nmC (nm xs (i * N + k))) rfl rfl rfl Try.underlying45 rfl Kx rfl (fun w hw => atN_range ((hcell _ Ox).kn hw hlt (by simp))) ?_
  simp only [qz]
  refine rf_storeR (n := 5) rfl rfl Kx rfl rfl (UpdR.here _ _ _ Nl) Nz ?_
  simp only [qz, Nat.reduceAdd]
  refine rg_nil (ek_next (wk_ret ?_))
  refine ek_ret (fun w hw => ⟨rfl, _, run_results1 rfl rfl (Kn.hd0 hw) Try.underlying45 rfl Kx, ?_⟩)
  (try simp only [qz])
  first | exact ⟨rfl, hw.below⟩ | exact ⟨trivial, hw.below⟩ | exact hw.below

set_option maxRecDepth 100000 in
set_option maxHeartbeats 1000000 in
theorem rOne_any  (w : World) : Calls Try.prog 54 #[] w fun e w' => e = .returned (nmV Nm.one) ∧ Below w.heap.size w w' := by
  go_enter Try.func54, Try.ntmps54
  refine wk_start ?_
  refine wk_seq ?_
  refine wk_region [1] rfl Kx ?_
  simp only [qy]
  refine Rgn fun g1 => ?_
  simp only [qz]
  refine rg_nil (ek_next (wk_seq ?_))
  refine wk_region [0, 0, 1] rfl Kx ?_
  simp only [qy]
  refine rf_build (cs := fun a => #[a.eval (.const (.int .i64 1)), .int .i64 0, .int .i64 0, .int .i64 0]) rfl rfl Kx ?_
  simp only [qz]
  refine rf_build (cs := fun a => #[cellAt (a.eval (.tmp 1)) 0, cellAt (a.eval (.tmp 1)) 1, cellAt (a.eval (.tmp 1)) 2, cellAt (a.eval (.tmp 1)) 3, .int .i64 0]) rfl rfl Kx ?_
  simp only [qz]
  refine rf_storeR (n := 5) rfl rfl Kx rfl rfl (UpdR.here _ _ _ Nl) Nz ?_
  simp only [qz, Nat.reduceAdd]
  refine rg_nil (ek_next (wk_ret ?_))
  refine ek_ret (fun w hw => ⟨rfl, _, run_results1 rfl rfl (Kn.hd0 hw) Try.underlying45 rfl Kx, ?_⟩)
  (try simp only [qz])
  first | exact ⟨rfl, hw.below⟩ | exact ⟨trivial, hw.below⟩ | exact hw.below

end Go.Proofs.Ytccbinnlnkpplaa
namespace Go.Proofs.Ytccbinnlnkpplaa
set_option linter.all false
open Go.RowKit

theorem emp : (⟨#[]⟩ : ByteArray).toList.isEmpty = true := by
  unfold ByteArray.toList
  unfold ByteArray.toList.loop
  rfl
theorem wd_c (k : Int) : wd (cplI k) = 2 := by
  unfold wd cplI
  rw [if_neg (by show ¬ (2 : Int) = 1; decide), if_pos (.inl rfl), if_pos ⟨rfl, emp⟩]
theorem wd_p (k n : Int) (h : 1 ≤ n ∧ n ≤ 7) : wd (phsI k n) = 1 := by
  unfold wd phsI
  rw [if_pos rfl, if_pos ⟨h.1, h.2, emp⟩]
theorem fit_c : fitB 2 (cplI 1) = true := fitB_true ⟨by rw [wd_c]; decide, by show (1 : Int) ≤ 1; decide, by rw [wd_c]; show (1 : Int) ≤ _; decide⟩
theorem fit_p {n : Int} (h : 1 ≤ n ∧ n ≤ 7) : fitB 2 (phsI 1 n) = true := fitB_true ⟨by rw [wd_p 1 n h]; decide, by show (1 : Int) ≤ 1; decide, by rw [wd_p 1 n h]; show (1 : Int) ≤ _; decide⟩
theorem sw_item {n : Int} (h : 0 ≤ n ∧ n ≤ 7) : itemE 2 (swI 1 n) = 0 := by
  have hv : validI 2 (swI 1 n) = true := by
    refine validI_true (by decide) (by decide) ?_ ?_
    · unfold swI; split <;> simp
    · unfold swI
      split
      · simp [fit_c]
      · simp [fit_c, fit_p (n := n) (by omega)]
  unfold itemE
  rw [if_pos (by decide), if_pos hv]
/-- What the document forms: the power of (w^n - 1) / 2. -/
def barX (n : Nat) : Nm := ((Nm.turn n Nm.one).addR ⟨-1, 0, 0, 0, 0⟩).mulR ⟨1, 0, 0, 0, 2⟩
def barW (n : Nat) : Nm := (barX n).mulR (barX n).conj
def fitC (M : Int) (z : Nm) : Bool := decide (-M ≤ z.a) && decide (z.a ≤ M) && (decide (-M ≤ z.b) && decide (z.b ≤ M)) && (decide (-M ≤ z.c) && decide (z.c ≤ M)) && (decide (-M ≤ z.d) && decide (z.d ≤ M))
theorem fitC_fit {M : Int} {z : Nm} (h : fitC M z = true) : z.Fit M := by
  simp only [fitC, Bool.and_eq_true, decide_eq_true_eq] at h
  obtain ⟨⟨⟨⟨h1, h2⟩, h3, h4⟩, h5, h6⟩, h7, h8⟩ := h
  exact ⟨h1, h2, h3, h4, h5, h6, h7, h8⟩
theorem bar_fit : ∀ n, n ≤ 7 → (fitC 10 (Nm.turn n Nm.one) && (fitC 10 ((Nm.turn n Nm.one).addR ⟨-1, 0, 0, 0, 0⟩) && (fitC 10 (barX n) && fitC 1000 (barW n)))) = true ∧ (Nm.turn n Nm.one).k = 0 ∧ ((Nm.turn n Nm.one).addR ⟨-1, 0, 0, 0, 0⟩).k = 0 ∧ (barX n).k = 2 ∧ (barW n).k = 4 := by decide
theorem bar_mat : ∀ n : Nat, n ≤ 7 → ∃ l, matS 2 (swI 1 n) (swI 1 n).length = .ok l ∧ l.length = 4 ∧ (nm l 0).okB = true ∧ (nm l 0).power = .ok (wnum (barW n)).1 := by
  intro n hn
  rcases (by omega : n = 0 ∨ n = 1 ∨ n = 2 ∨ n = 3 ∨ n = 4 ∨ n = 5 ∨ n = 6 ∨ n = 7) with rfl | rfl | rfl | rfl | rfl | rfl | rfl | rfl
  all_goals exact ⟨_, rfl, rfl, rfl, rfl⟩
/-- Bar: the program's and the document's. -/
def barR (n : Int) : NR := if 0 ≤ n ∧ n ≤ 7 then .ok (wnum (barW n.toNat)).1 else .error 2
theorem swE_zero {k n : Int} (h : swE k n = 0) : 1 ≤ k ∧ k ≤ 5 ∧ 0 ≤ n ∧ n ≤ 7 := by
  unfold swE at h
  split at h
  · next hh => exact of_decide_eq_true hh
  cases h
theorem SA4.cj {w : World} {z : Nm} {s0 s1 s2 s3 : Value} (h : SA4 w z s0 s1 s2 s3) : SA4 w z.conj s0 s3 s2 s1 :=
  ⟨h.a, by simp only [Nm.conj, Int.natAbs_neg]; exact h.d, by simp only [Nm.conj, Int.natAbs_neg]; exact h.c, by simp only [Nm.conj, Int.natAbs_neg]; exact h.b⟩
theorem conj_fitC {M : Int} {z : Nm} (h : z.Fit M) : z.conj.Fit M := by
  obtain ⟨h1, h2, h3, h4, h5, h6, h7, h8⟩ := h
  unfold Nm.conj
  exact ⟨h1, h2, by dsimp only; omega, by dsimp only; omega, by dsimp only; omega, by dsimp only; omega, by dsimp only; omega, by dsimp only; omega⟩
theorem to_0 {z : Nm} {m : Int} (h : z.k = m) : z.to m = z := by
  unfold Nm.to
  rw [h, Int.sub_self]
  rfl
set_option maxRecDepth 100000 in
set_option maxHeartbeats 1000000 in
theorem mbar_any (n : Int) (w : World) : Calls Try.prog 27 #[.int .i64 n] w fun e w' => e = .returned (numV (barR n)) ∧ Below w.heap.size w w' := by
  go_enter Try.func27, Try.ntmps27
  refine wk_start ?_
  refine wk_seq ?_
  refine wk_region [1, 0] rfl (by kernel_rfl) ?_
  simp only [qy]
  refine rg_new (cs := ?_) (ty := ?_) (by rfl) (fun w => ?_) (fun _ h => by cases h) (fun g1 => ?_); rotate_left 2
  focus (go_simp; rfl)
  simp only [qz]
  refine rg_assign ?_
  simp only [qz]
  refine rg_nil (ek_next (wk_seq ?_))
  refine wk_region [0, 1, 0, 0, 0, 0, 0] rfl (by kernel_rfl) ?_
  simp only [qy]
  refine rg_move ?_
  simp only [qz]
  apply rg_retS (by rfl) (by kernel_rfl)
  case hargs => (simp only [qm, qs, Act.eval]; exact rfl)
  case h => exact fun w hw => mswitch_any 1 n w
  case hz => exact (fun _ h => by cases h)
  intro va2 vc2 u2 hO2
  simp only [qz]
  refine rg_move ?_
  simp only [qz]
  refine rf_extract rfl rfl rfl rfl ?_
  simp only [qz]
  refine rf_extract rfl rfl rfl rfl ?_
  simp only [qz]
  refine rg_assign ?_
  simp only [qz]
  refine rg_assign ?_
  simp only [qz]
  refine rg_nil (ek_next (wk_seq (wk_seq ?_)))
  refine wk_region [0, 0] rfl (by kernel_rfl) ?_
  simp only [qy]
  refine rg_move ?_
  simp only [qz]
  refine rfb_neq rfl rfl rfl rfl ?_
  intro x h1
  cases x
  · (try simp only [qd, ne_eq] at h1)
    simp only [qz]
    have hsz := swE_zero (k := 1) (n := n) (by simpa using h1)
    clear h1
    obtain ⟨m, rfl⟩ : ∃ m : Nat, n = m := ⟨n.toNat, by omega⟩
    refine rg_nil (ek_next (wk_cond_f rfl (wk_skip (ek_next (wk_seq ?_)))))
    refine wk_region [0, 1, 0, 0, 0, 1, 1, 0] rfl (by kernel_rfl) ?_
    simp only [qy]
    refine rg_move ?_
    simp only [qz]
    obtain ⟨l, hml, hl4, hok0, hpw⟩ := bar_mat m (by omega)
    have hmo : matO 2 (swL 1 (m : Int)) = .ok l := by (rw [(sw_yes (at_ := 1) (n := (m : Int)) (by omega)).1]; unfold matO; rw [if_pos (sw_item (by omega))]; exact hml)
    replace hmo := Lib.hid hmo
    replace hml := Lib.hid hml
    replace hpw := Lib.hid hpw
    replace hl4 := Lib.hid hl4
    replace hok0 := okB_iff.1 hok0
    apply (rg_retM (n := 2) (zs := l) (c := 0)) (by rfl) (by kernel_rfl)
    case hargs => (simp only [qm, qs, Act.eval]; exact rfl)
    case h => exact fun w hw => by have := matrixOf_any 2 (swL 1 (m : Int)) va2 vc2 w (hO2.asT (hw.perm (List.Perm.refl _))); rw [hmo.out] at this; exact this
    case hz => exact (fun _ h => by cases h)
    intro va3 vc3 u3 hO3
    simp only [qz]
    refine rg_move ?_
    simp only [qz]
    refine rf_extract rfl rfl rfl rfl ?_
    simp only [qz]
    refine rf_extract rfl rfl rfl rfl ?_
    simp only [qz]
    refine rg_new (cs := ?_) (ty := ?_) (by rfl) (fun w => ?_) (fun _ h => by cases h) (fun g4 => ?_); rotate_left 2
    focus (go_simp; rfl)
    simp only [qz]
    refine rf_storeR (n := 2) rfl rfl (by kernel_rfl) rfl rfl (UpdR.here _ _ _ (Nat.le_of_ble_eq_true rfl)) (fun _ h => by cases h) ?_
    simp only [qz, Nat.reduceAdd]
    refine rg_assign ?_
    simp only [qz]
    refine rg_nil (ek_next (wk_seq (wk_seq ?_)))
    refine wk_region [0, 0] rfl (by kernel_rfl) ?_
    simp only [qy]
    refine rg_move ?_
    simp only [qz]
    refine rf_neq (b := false) rfl rfl rfl rfl (by decide) ?_
    simp only [qz]
    refine rg_nil (ek_next (wk_cond_f rfl (wk_skip (ek_next (wk_seq ?_)))))
    obtain ⟨go, capo, resto, hu, hvo, -, -, -⟩ := hO3.openM (by rw [hl4.out]; decide)
    subst hu
    cases hvo
    simp only [List.cons_append, List.nil_append]
    refine wk_region [0, 0, 0, 0, 1, 0, 0, 1, 0] rfl (by kernel_rfl) ?_
    simp only [qy]
    refine rf_field (n := 0) (j := 1) rfl rfl rfl Try.underlying38 rfl (by kernel_rfl) rfl ?_
    simp only [qz]
    refine rf_load rfl rfl rfl Try.underlying36 rfl (fun w hw => (Kn.hd0 hw).at rfl) ?_
    simp only [qz]
    refine rf_indexS (n := 0) (sz := 5) (j := 0 + 0 * 5) rfl rfl rfl rfl Try.underlying36 (by kernel_rfl) (by rfl) (by rw [hl4.out]; decide) rfl ?_
    simp only [qz]
    refine rf_loadC (n := 5) (vs := nmC (nm l 0)) rfl rfl rfl Try.underlying45 rfl (by kernel_rfl) rfl (fun w hw => fl_range (E := NmE) (Kn.hd0 (Kn.tl hw)) (k := 0) (by rw [hl4.out]; decide)) ?_
    simp only [qz]
    apply rg_pure (by rfl) (by kernel_rfl)
    case hargs => (simp only [qm, qs, Act.eval]; exact rfl)
    case h => exact fun w hw => amPower_ok (nm l 0) hok0 w
    case hz => exact (fun _ h => by cases h)
    rw [hpw.out, show numV (Except.ok (wnum (barW m)).1) = .tuple #[nmV (wnum (barW m)).1, .int .i64 0] from rfl]
    simp only [qz]
    refine rf_extract rfl rfl rfl rfl ?_
    simp only [qz]
    refine rf_extract rfl rfl rfl rfl ?_
    simp only [qz]
    refine rf_storeR (n := 5) rfl rfl (by kernel_rfl) rfl rfl (UpdR.there _ (UpdR.there _ (UpdR.app _ (UpdR.here _ _ _ (Nat.le_of_ble_eq_true rfl))))) (fun _ h => by cases h) ?_
    simp only [qz, Nat.reduceAdd]
    refine rg_assign ?_
    simp only [qz]
    refine rg_nil (ek_next (wk_ret ?_))
    refine ek_ret (fun w hw => ⟨rfl, _, run_results2 rfl rfl (Kn.hd0 (Kn.tlU (Kn.tl (Kn.tl hw)))) Try.underlying45 rfl (by kernel_rfl), ?_⟩)
    (try simp only [qz])
    exact ⟨by unfold barR; rw [if_pos (by omega), Int.toNat_natCast]; rfl, hw.below⟩
  (try simp only [qd, ne_eq] at h1)
  simp only [qz]
  refine rg_nil (ek_next (wk_cond_t rfl (wk_seq ?_)))
  refine wk_region [0, 0, 1, 0] rfl (by kernel_rfl) ?_
  simp only [qy]
  refine rf_build (cs := fun a => #[.int .i64 0, .int .i64 0, .int .i64 0, .int .i64 0, .int .i64 0]) rfl rfl (by kernel_rfl) ?_
  simp only [qz]
  refine rg_move ?_
  simp only [qz]
  refine rf_storeR (n := 5) rfl rfl (by kernel_rfl) rfl rfl (UpdR.app _ (UpdR.here _ _ _ (Nat.le_of_ble_eq_true rfl))) (fun _ h => by cases h) ?_
  simp only [qz, Nat.reduceAdd]
  refine rg_assign ?_
  simp only [qz]
  refine rg_nil (ek_next (wk_ret (ek_then_ret ?_)))
  refine ek_ret (fun w hw => ⟨rfl, _, run_results2 rfl rfl (Kn.hd0 (Kn.tlU hw)) Try.underlying45 rfl (by kernel_rfl), ?_⟩)
  (try simp only [qz])
  have hb : ¬ (0 ≤ n ∧ n ≤ 7) := fun hh => h1 (sw_yes (at_ := 1) (n := n) (by omega)).2
  exact ⟨by unfold barR; rw [if_neg hb, (sw_no (at_ := 1) (n := n) (by omega)).2]; rfl, hw.below⟩

set_option maxRecDepth 100000 in
set_option maxHeartbeats 1000000 in
theorem rbarw_any (m : Nat) (hm : m ≤ 7) (w : World) : Calls Try.prog 70 #[.int .i64 (m : Int)] w fun e w' => RetW w (barW m) e w' := by
  obtain ⟨hft, hk0, hk1, hk2, hk3⟩ := bar_fit m hm
  simp only [Bool.and_eq_true] at hft
  obtain ⟨ht, hs_, hx, hb⟩ := hft
  have ft := fitC_fit ht
  have fs := fitC_fit hs_
  have fx := fitC_fit hx
  have fm : (⟨-1, 0, 0, 0, 0⟩ : Nm).Fit 10 := fitC_fit (by decide)
  have fh : (⟨1, 0, 0, 0, 2⟩ : Nm).Fit 10 := fitC_fit (by decide)
  clear ht hs_ hx hb
  go_enter Try.func70, Try.ntmps70
  refine wk_start ?_
  refine wk_seq ?_
  refine wk_region [1] rfl (by kernel_rfl) ?_
  simp only [qy]
  refine rg_new (cs := ?_) (ty := ?_) (by rfl) (fun w => ?_) (fun _ h => by cases h) (fun g1 => ?_); rotate_left 2
  focus (go_simp; rfl)
  simp only [qz]
  refine rg_nil (ek_next (wk_seq ?_))
  refine wk_region [0, 0, 1, 1] rfl (by kernel_rfl) ?_
  simp only [qy]
  refine rf_build (cs := fun a => #[a.eval (.const (.int .i64 (-1))), .int .i64 0, .int .i64 0, .int .i64 0]) rfl rfl (by kernel_rfl) ?_
  simp only [qz]
  refine rf_build (cs := fun a => #[cellAt (a.eval (.tmp 6)) 0, cellAt (a.eval (.tmp 6)) 1, cellAt (a.eval (.tmp 6)) 2, cellAt (a.eval (.tmp 6)) 3, .int .i64 0]) rfl rfl (by kernel_rfl) ?_
  simp only [qz]
  refine rg_new (cs := ?_) (ty := ?_) (by rfl) (fun w => ?_) (fun _ h => by cases h) (fun g2 => ?_); rotate_left 2
  focus (go_simp; rfl)
  simp only [qz]
  refine rf_storeR (n := 5) rfl rfl (by kernel_rfl) rfl rfl (UpdR.here _ _ _ (Nat.le_of_ble_eq_true rfl)) (fun _ h => by cases h) ?_
  simp only [qz, Nat.reduceAdd]
  refine rg_nil (ek_next (wk_seq ?_))
  refine wk_region [0, 0, 1, 1, 1] rfl (by kernel_rfl) ?_
  simp only [qy]
  refine rf_build (cs := fun a => #[a.eval (.const (.int .i64 1)), .int .i64 0, .int .i64 0, .int .i64 0]) rfl rfl (by kernel_rfl) ?_
  simp only [qz]
  refine rf_build (cs := fun a => #[cellAt (a.eval (.tmp 8)) 0, cellAt (a.eval (.tmp 8)) 1, cellAt (a.eval (.tmp 8)) 2, cellAt (a.eval (.tmp 8)) 3, a.eval (.const (.int .i64 2))]) rfl rfl (by kernel_rfl) ?_
  simp only [qz]
  apply (rg_made (T := fun v u => ∃ s0 s1 s2 s3, v = wdV ((⟨1, 0, 0, 0, 2⟩ : Nm)) s0 s1 s2 s3 ∧ SU4 u ((⟨1, 0, 0, 0, 2⟩ : Nm)) s0 s1 s2 s3)) (by rfl) (by kernel_rfl)
  case hargs => (simp only [qm, qs, Act.eval]; exact rfl)
  case h => exact fun w hw => wideOf_any ((⟨1, 0, 0, 0, 2⟩ : Nm)) (Nm.fit_mono fh (by decide)) w
  case hz => exact (fun _ h => by cases h)
  rintro _ u3 ⟨t0, t1, t2, t3, rfl, hS3⟩
  obtain ⟨⟨ta3_0, tc3_0, rfl⟩, -⟩ := id hS3.a
  obtain ⟨⟨ta3_1, tc3_1, rfl⟩, -⟩ := id hS3.b
  obtain ⟨⟨ta3_2, tc3_2, rfl⟩, -⟩ := id hS3.c
  obtain ⟨⟨ta3_3, tc3_3, rfl⟩, -⟩ := id hS3.d
  simp only [qz]
  refine rg_new (cs := ?_) (ty := ?_) (by rfl) (fun w => ?_) (fun _ h => by cases h) (fun g4 => ?_); rotate_left 2
  focus (go_simp; rfl)
  simp only [qz]
  refine rf_storeR (n := 9) rfl rfl (by kernel_rfl) rfl rfl (UpdR.here _ _ _ (Nat.le_of_ble_eq_true rfl)) (fun _ h => by cases h) ?_
  simp only [qz, Nat.reduceAdd]
  refine rg_nil (ek_next (wk_seq ?_))
  refine wk_rt _ (by kernel_rfl) (sc _ (List.Sublist.append_left (sc _ (sc _ sn)) _)) ?_
  refine rt_soft (i := 1) rfl (by kernel_rfl) (fun c d v a w h => by cases d <;> exact h) (sc _ (List.Sublist.append_left (sc _ (sc _ sn)) _)) ?_
  refine rg_move ?_
  simp only [qz]
  refine rg_nil ?_
  refine ek_rt (sc _ (List.Sublist.append_left (sc _ (sc _ sn)) _)) ?_
  refine rt_soft (i := 4) rfl (by kernel_rfl) (fun c d v a w h => by cases d <;> exact h) (sc _ (List.Sublist.append_left (sc _ (sc _ sn)) _)) ?_
  refine rf_loadR (n := 5) rfl rfl rfl Try.underlying45 rfl (by kernel_rfl) (fun w hw => Kn.hd0 (Kn.tlU (Kn.tl hw))) rfl rfl ?_
  simp only [qz]
  refine rg_nil ?_
  refine ek_rt (sc _ (List.Sublist.append_left (sc _ (sc _ sn)) _)) ?_
  refine rt_soft (i := 7) rfl (by kernel_rfl) (fun c d v a w h => by cases d <;> exact h) (sc _ (List.Sublist.append_left (sc _ (sc _ sn)) _)) ?_
  refine rf_loadR (n := 9) rfl rfl rfl Try.underlying70 rfl (by kernel_rfl) (fun w hw => Kn.hd0 hw) rfl rfl ?_
  simp only [qz]
  refine rg_nil ?_
  refine ek_rt (sc _ (List.Sublist.append_left (sc _ (sc _ sn)) _)) ?_
  refine rt_hard2 (i := 0) (j := 9) (by kernel_rfl) rfl rfl ?_ ?_
  · apply rg_pure (by rfl) (by kernel_rfl)
    case hargs => (simp only [qm, qs, Act.eval]; exact rfl)
    case h => exact fun w hw => rOne_any w
    case hz => exact (fun _ h => by cases h; exact (sc _ (List.Sublist.append_left (sc _ (sc _ sn)) _)))
    simp only [qz]
    refine rg_nil ?_
    refine ek_rt (sc _ (List.Sublist.append_left (sc _ (sc _ sn)) _)) ?_
    refine rt_hard2 (i := 2) (j := 9) (by kernel_rfl) rfl rfl ?_ ?_
    · apply rg_pure (by rfl) (by kernel_rfl)
      case hargs => (simp only [qm, qs, Act.eval]; exact rfl)
      case h => exact fun w hw => rTurned_any Nm.one m one_ok (by omega) w
      case hz => exact (fun _ h => by cases h; exact (sc _ (List.Sublist.append_left (sc _ (sc _ sn)) _)))
      simp only [qz]
      refine rg_nil ?_
      refine ek_rt (sc _ (List.Sublist.append_left (sc _ (sc _ sn)) _)) ?_
      refine rt_hard2 (i := 3) (j := 9) (by kernel_rfl) rfl rfl ?_ ?_
      · apply (rg_made (T := fun v u => ∃ s0 s1 s2 s3, v = wdV (Nm.turn m Nm.one) s0 s1 s2 s3 ∧ SU4 u (Nm.turn m Nm.one) s0 s1 s2 s3)) (by rfl) (by kernel_rfl)
        case hargs => (simp only [qm, qs, Act.eval]; exact rfl)
        case h => exact fun w hw => wideOf_any (Nm.turn m Nm.one) (Nm.fit_mono ft (by decide)) w
        case hz => exact (fun _ h => by cases h; exact (sc _ (List.Sublist.append_left (sc _ (sc _ sn)) _)))
        rintro _ u5 ⟨t0, t1, t2, t3, rfl, hS5⟩
        obtain ⟨⟨ta5_0, tc5_0, rfl⟩, -⟩ := id hS5.a
        obtain ⟨⟨ta5_1, tc5_1, rfl⟩, -⟩ := id hS5.b
        obtain ⟨⟨ta5_2, tc5_2, rfl⟩, -⟩ := id hS5.c
        obtain ⟨⟨ta5_3, tc5_3, rfl⟩, -⟩ := id hS5.d
        simp only [qz]
        refine rg_nil ?_
        refine ek_rt ((sc _ (List.Sublist.append_left (sc _ (sc _ sn)) _)).trans (List.sublist_append_right _ _)) ?_
        refine rt_hard2 (i := 5) (j := 9) (by kernel_rfl) rfl rfl ?_ ?_
        · apply (rg_made (T := fun v u => ∃ s0 s1 s2 s3, v = wdV ((⟨-1, 0, 0, 0, 0⟩ : Nm)) s0 s1 s2 s3 ∧ SU4 u ((⟨-1, 0, 0, 0, 0⟩ : Nm)) s0 s1 s2 s3)) (by rfl) (by kernel_rfl)
          case hargs => (simp only [qm, qs, Act.eval]; exact rfl)
          case h => exact fun w hw => wideOf_any ((⟨-1, 0, 0, 0, 0⟩ : Nm)) (Nm.fit_mono fm (by decide)) w
          case hz => exact (fun _ h => by cases h; exact ((sc _ (List.Sublist.append_left (sc _ (sc _ sn)) _)).trans (List.sublist_append_right _ _)))
          rintro _ u6 ⟨t0, t1, t2, t3, rfl, hS6⟩
          obtain ⟨⟨ta6_0, tc6_0, rfl⟩, -⟩ := id hS6.a
          obtain ⟨⟨ta6_1, tc6_1, rfl⟩, -⟩ := id hS6.b
          obtain ⟨⟨ta6_2, tc6_2, rfl⟩, -⟩ := id hS6.c
          obtain ⟨⟨ta6_3, tc6_3, rfl⟩, -⟩ := id hS6.d
          simp only [qz]
          refine rg_nil ?_
          refine ek_rt (((sc _ (List.Sublist.append_left (sc _ (sc _ sn)) _)).trans (List.sublist_append_right _ _)).trans (List.sublist_append_right _ _)) ?_
          refine rt_hard2 (i := 6) (j := 9) (by kernel_rfl) rfl rfl ?_ ?_
          · apply (rg_made (T := fun v u => ∃ s0 s1 s2 s3, v = wdV ((Nm.turn m Nm.one).addR ⟨-1, 0, 0, 0, 0⟩) s0 s1 s2 s3 ∧ SU4 u ((Nm.turn m Nm.one).addR ⟨-1, 0, 0, 0, 0⟩) s0 s1 s2 s3)) (by rfl) (by kernel_rfl)
            case hargs => (simp only [qm, qs, Act.eval]; exact rfl)
            case h => exact fun w hw => wplus_any (Nm.turn m Nm.one) (⟨-1, 0, 0, 0, 0⟩ : Nm) _ _ _ _ _ _ _ _ (by rw [hk0, show max (0 : Int) ((⟨-1, 0, 0, 0, 0⟩ : Nm)).k = 0 from rfl, to_0 hk0]; exact (Nm.fit_mono ft (by decide))) (by rw [hk0]; exact (Nm.fit_mono fm (by decide))) (by omega) (by omega) (by decide) (by decide) w (hS5.at hw ((List.sublist_append_left _ _).trans (List.sublist_append_right _ _))) (hS6.at hw (List.sublist_append_left _ _))
            case hz => exact (fun _ h => by cases h; exact (((sc _ (List.Sublist.append_left (sc _ (sc _ sn)) _)).trans (List.sublist_append_right _ _)).trans (List.sublist_append_right _ _)))
            rintro _ u7 ⟨t0, t1, t2, t3, rfl, hS7⟩
            obtain ⟨⟨ta7_0, tc7_0, rfl⟩, -⟩ := id hS7.a
            obtain ⟨⟨ta7_1, tc7_1, rfl⟩, -⟩ := id hS7.b
            obtain ⟨⟨ta7_2, tc7_2, rfl⟩, -⟩ := id hS7.c
            obtain ⟨⟨ta7_3, tc7_3, rfl⟩, -⟩ := id hS7.d
            simp only [qz]
            refine rg_nil ?_
            refine ek_rt ((((sc _ (List.Sublist.append_left (sc _ (sc _ sn)) _)).trans (List.sublist_append_right _ _)).trans (List.sublist_append_right _ _)).trans (List.sublist_append_right _ _)) ?_
            refine rt_hard2 (i := 8) (j := 9) (by kernel_rfl) rfl rfl ?_ ?_
            · apply (rg_made (T := fun v u => ∃ s0 s1 s2 s3, v = wdV (barX m) s0 s1 s2 s3 ∧ SU4 u (barX m) s0 s1 s2 s3)) (by rfl) (by kernel_rfl)
              case hargs => (simp only [qm, qs, Act.eval]; exact rfl)
              case h => exact fun w hw => wtimes_any ((Nm.turn m Nm.one).addR ⟨-1, 0, 0, 0, 0⟩) (⟨1, 0, 0, 0, 2⟩ : Nm) _ _ _ _ _ _ _ _ (Nm.fit_mono fs (by decide)) (Nm.fit_mono fh (by decide)) (prodB_ok (Nm.fit_mono fs (by decide)) (Nm.fit_mono fh (by decide))) (by omega) (by omega) (by decide) (by decide) w (hS7.at hw (List.sublist_append_left _ _)) (hS3.at hw ((((List.Sublist.cons _ (List.sublist_append_left _ _)).trans (List.sublist_append_right _ _)).trans (List.sublist_append_right _ _)).trans (List.sublist_append_right _ _)))
              case hz => exact (fun _ h => by cases h; exact ((((sc _ (List.Sublist.append_left (sc _ (sc _ sn)) _)).trans (List.sublist_append_right _ _)).trans (List.sublist_append_right _ _)).trans (List.sublist_append_right _ _)))
              rintro _ u8 ⟨t0, t1, t2, t3, rfl, hS8⟩
              obtain ⟨⟨ta8_0, tc8_0, rfl⟩, -⟩ := id hS8.a
              obtain ⟨⟨ta8_1, tc8_1, rfl⟩, -⟩ := id hS8.b
              obtain ⟨⟨ta8_2, tc8_2, rfl⟩, -⟩ := id hS8.c
              obtain ⟨⟨ta8_3, tc8_3, rfl⟩, -⟩ := id hS8.d
              simp only [qz]
              refine rg_nil ?_
              refine ek_rt (((((sc _ (List.Sublist.append_left (sc _ (sc _ sn)) _)).trans (List.sublist_append_right _ _)).trans (List.sublist_append_right _ _)).trans (List.sublist_append_right _ _)).trans (List.sublist_append_right _ _)) ?_
              refine rt_hard1 (i := 9) (by kernel_rfl) rfl ?_
              refine rg_new (cs := ?_) (ty := ?_) (by rfl) (fun w => ?_) (fun _ h => by cases h; exact (((((sc _ (List.Sublist.append_left (sc _ (sc _ sn)) _)).trans (List.sublist_append_right _ _)).trans (List.sublist_append_right _ _)).trans (List.sublist_append_right _ _)).trans (List.sublist_append_right _ _))) (fun g9 => ?_); rotate_left 2
              focus (go_simp; rfl)
              simp only [qz]
              refine rg_nil ?_
              refine ek_rt (sk _ (((((sc _ (List.Sublist.append_left (sc _ (sc _ sn)) _)).trans (List.sublist_append_right _ _)).trans (List.sublist_append_right _ _)).trans (List.sublist_append_right _ _)).trans (List.sublist_append_right _ _))) ?_
              refine rt_hard1 (i := 10) (by kernel_rfl) rfl ?_
              refine rf_storeR (n := 9) rfl rfl (by kernel_rfl) rfl rfl (UpdR.here _ _ _ (Nat.le_of_ble_eq_true rfl)) (fun _ h => by cases h; exact (sk _ (((((sc _ (List.Sublist.append_left (sc _ (sc _ sn)) _)).trans (List.sublist_append_right _ _)).trans (List.sublist_append_right _ _)).trans (List.sublist_append_right _ _)).trans (List.sublist_append_right _ _)))) ?_
              simp only [qz, Nat.reduceAdd]
              refine rg_nil ?_
              refine ek_rt (sk _ (((((sc _ (List.Sublist.append_left (sc _ (sc _ sn)) _)).trans (List.sublist_append_right _ _)).trans (List.sublist_append_right _ _)).trans (List.sublist_append_right _ _)).trans (List.sublist_append_right _ _))) ?_
              refine rt_nil (by kernel_rfl) ?_
              refine ek_next (wk_seq ?_)
              refine wk_draws_m (hz1 := (sc _ (List.Sublist.append_left (List.Sublist.append_left (List.Sublist.append_left (List.Sublist.append_left (sc _ (List.Sublist.append_left (sc _ (sk _ sn)) _)) _) _) _) _))) [(0, 0), (1, 0), (2, 1), (3, 1), (4, 2)] 4 (by kernel_rfl) (by kernel_rfl) (fun c d v a w h => by cases d <;> exact h) ?_
              simp only [List.map_cons, List.map_nil, List.getD_cons_zero, List.getD_cons_succ]
              refine rf_loadR (n := 9) rfl rfl rfl Try.underlying70 rfl (by kernel_rfl) (fun w hw => Kn.hd0 hw) rfl rfl ?_
              simp only [qz]
              refine rf_loadR (n := 9) rfl rfl rfl Try.underlying70 rfl (by kernel_rfl) (fun w hw => Kn.hd0 hw) rfl rfl ?_
              simp only [qz]
              apply rg_pure (by rfl) (by kernel_rfl)
              case hargs => (simp only [qm, qs, Act.eval]; exact rfl)
              case h => exact fun w hw => wconj_any (barX m) _ _ _ _ (Nm.fit_mono fx (by decide)) w (hS8.at hw (List.Sublist.cons _ (List.sublist_append_left _ _)))
              case hz => exact (fun _ h => by cases h; exact (sc _ (List.Sublist.append_left (List.Sublist.append_left (List.Sublist.append_left (List.Sublist.append_left (sc _ (List.Sublist.append_left (sc _ (sc _ sn)) _)) _) _) _) _)))
              simp only [qz]
              apply (rg_made (T := fun v u => ∃ s0 s1 s2 s3, v = wdV (barW m) s0 s1 s2 s3 ∧ SU4 u (barW m) s0 s1 s2 s3)) (by rfl) (by kernel_rfl)
              case hargs => (simp only [qm, qs, Act.eval]; exact rfl)
              case h => exact fun w hw => wtimes_any (barX m) (barX m).conj _ _ _ _ _ _ _ _ (Nm.fit_mono fx (by decide)) (Nm.fit_mono (conj_fitC fx) (by decide)) (prodB_ok (Nm.fit_mono fx (by decide)) (Nm.fit_mono (conj_fitC fx) (by decide))) (by omega) (by omega) (by show 0 ≤ (barX m).k; omega) (by show (barX m).k ≤ 10000; omega) w (hS8.at hw (List.Sublist.cons _ (List.sublist_append_left _ _))) (hS8.at hw (List.Sublist.cons _ (List.sublist_append_left _ _))).cj
              case hz => exact (fun _ h => by cases h; exact (sc _ (List.Sublist.append_left (List.Sublist.append_left (List.Sublist.append_left (List.Sublist.append_left (sc _ (List.Sublist.append_left (sc _ (sc _ sn)) _)) _) _) _) _)))
              rintro _ u10 ⟨t0, t1, t2, t3, rfl, hS10⟩
              obtain ⟨⟨ta10_0, tc10_0, rfl⟩, -⟩ := id hS10.a
              obtain ⟨⟨ta10_1, tc10_1, rfl⟩, -⟩ := id hS10.b
              obtain ⟨⟨ta10_2, tc10_2, rfl⟩, -⟩ := id hS10.c
              obtain ⟨⟨ta10_3, tc10_3, rfl⟩, -⟩ := id hS10.d
              simp only [qz]
              refine rf_storeRM (n := 9) rfl rfl (by kernel_rfl) rfl rfl (UpdR.app _ (UpdR.there _ (UpdR.app _ (UpdR.app _ (UpdR.app _ (UpdR.app _ (UpdR.there _ (UpdR.app _ (UpdR.there _ (UpdR.here _ _ _ (Nat.le_of_ble_eq_true rfl))))))))))) ((sc _ (List.Sublist.append_left (List.Sublist.append_left (List.Sublist.append_left (List.Sublist.append_left (sc _ (List.Sublist.append_left (sc _ (sk _ sn)) _)) _) _) _) _)).trans (List.sublist_append_right _ _)) ?_
              simp only [qz, Nat.reduceAdd]
              refine rg_nil (ek_next (wk_ret ?_))
              refine ek_ret (fun w hw => ⟨rfl, _, run_results1 rfl rfl (Kn.hd0 (Kn.tl (Kn.tlU (Kn.tl (Kn.tlU (Kn.tlU (Kn.tlU (Kn.tlU (Kn.tl (Kn.tlU hw)))))))))) Try.underlying70 rfl (by kernel_rfl), ?_⟩)
              (try simp only [qz])
              exact ⟨_, u10, rfl, ⟨_, _, _, _, rfl, hS10⟩, hw.made (List.sublist_append_left _ _)⟩
            refine rg_new (cs := ?_) (ty := ?_) (by rfl) (fun w => ?_) (fun _ h => by cases h; exact ((((sc _ (List.Sublist.append_left (sc _ (sc _ sn)) _)).trans (List.sublist_append_right _ _)).trans (List.sublist_append_right _ _)).trans (List.sublist_append_right _ _))) (fun g11 => ?_); rotate_left 2
            focus (go_simp; rfl)
            simp only [qz]
            refine rg_nil ?_
            refine ek_rt (sk _ ((((sc _ (List.Sublist.append_left (sc _ (sc _ sn)) _)).trans (List.sublist_append_right _ _)).trans (List.sublist_append_right _ _)).trans (List.sublist_append_right _ _))) ?_
            refine rt_hard1 (i := 8) (by kernel_rfl) rfl ?_
            apply (rg_made (T := fun v u => ∃ s0 s1 s2 s3, v = wdV (barX m) s0 s1 s2 s3 ∧ SU4 u (barX m) s0 s1 s2 s3)) (by rfl) (by kernel_rfl)
            case hargs => (simp only [qm, qs, Act.eval]; exact rfl)
            case h => exact fun w hw => wtimes_any ((Nm.turn m Nm.one).addR ⟨-1, 0, 0, 0, 0⟩) (⟨1, 0, 0, 0, 2⟩ : Nm) _ _ _ _ _ _ _ _ (Nm.fit_mono fs (by decide)) (Nm.fit_mono fh (by decide)) (prodB_ok (Nm.fit_mono fs (by decide)) (Nm.fit_mono fh (by decide))) (by omega) (by omega) (by decide) (by decide) w (hS7.at hw (List.Sublist.cons _ (List.sublist_append_left _ _))) (hS3.at hw (List.Sublist.cons _ ((((List.Sublist.cons _ (List.sublist_append_left _ _)).trans (List.sublist_append_right _ _)).trans (List.sublist_append_right _ _)).trans (List.sublist_append_right _ _))))
            case hz => exact (fun _ h => by cases h; exact (sk _ ((((sc _ (List.Sublist.append_left (sc _ (sc _ sn)) _)).trans (List.sublist_append_right _ _)).trans (List.sublist_append_right _ _)).trans (List.sublist_append_right _ _))))
            rintro _ u12 ⟨t0, t1, t2, t3, rfl, hS12⟩
            obtain ⟨⟨ta12_0, tc12_0, rfl⟩, -⟩ := id hS12.a
            obtain ⟨⟨ta12_1, tc12_1, rfl⟩, -⟩ := id hS12.b
            obtain ⟨⟨ta12_2, tc12_2, rfl⟩, -⟩ := id hS12.c
            obtain ⟨⟨ta12_3, tc12_3, rfl⟩, -⟩ := id hS12.d
            simp only [qz]
            refine rg_nil ?_
            refine ek_rt ((sk _ ((((sc _ (List.Sublist.append_left (sc _ (sc _ sn)) _)).trans (List.sublist_append_right _ _)).trans (List.sublist_append_right _ _)).trans (List.sublist_append_right _ _))).trans (List.sublist_append_right _ _)) ?_
            refine rt_hard1 (i := 10) (by kernel_rfl) rfl ?_
            refine rf_storeR (n := 9) rfl rfl (by kernel_rfl) rfl rfl (UpdR.app _ (UpdR.here _ _ _ (Nat.le_of_ble_eq_true rfl))) (fun _ h => by cases h; exact ((sk _ ((((sc _ (List.Sublist.append_left (sc _ (sc _ sn)) _)).trans (List.sublist_append_right _ _)).trans (List.sublist_append_right _ _)).trans (List.sublist_append_right _ _))).trans (List.sublist_append_right _ _))) ?_
            simp only [qz, Nat.reduceAdd]
            refine rg_nil ?_
            refine ek_rt ((sk _ ((((sc _ (List.Sublist.append_left (sc _ (sc _ sn)) _)).trans (List.sublist_append_right _ _)).trans (List.sublist_append_right _ _)).trans (List.sublist_append_right _ _))).trans (List.sublist_append_right _ _)) ?_
            refine rt_nil (by kernel_rfl) ?_
            refine ek_next (wk_seq ?_)
            refine wk_draws_m (hz1 := (List.Sublist.append_left (sc _ (List.Sublist.append_left (List.Sublist.append_left (List.Sublist.append_left (sc _ (List.Sublist.append_left (sc _ (sk _ sn)) _)) _) _) _)) _)) [(0, 0), (1, 0), (2, 1), (3, 1), (4, 2)] 4 (by kernel_rfl) (by kernel_rfl) (fun c d v a w h => by cases d <;> exact h) ?_
            simp only [List.map_cons, List.map_nil, List.getD_cons_zero, List.getD_cons_succ]
            refine rf_loadR (n := 9) rfl rfl rfl Try.underlying70 rfl (by kernel_rfl) (fun w hw => Kn.hd0 (Kn.tlU hw)) rfl rfl ?_
            simp only [qz]
            refine rf_loadR (n := 9) rfl rfl rfl Try.underlying70 rfl (by kernel_rfl) (fun w hw => Kn.hd0 (Kn.tlU hw)) rfl rfl ?_
            simp only [qz]
            apply rg_pure (by rfl) (by kernel_rfl)
            case hargs => (simp only [qm, qs, Act.eval]; exact rfl)
            case h => exact fun w hw => wconj_any (barX m) _ _ _ _ (Nm.fit_mono fx (by decide)) w (hS12.at hw (List.sublist_append_left _ _))
            case hz => exact (fun _ h => by cases h; exact (List.Sublist.append_left (sc _ (List.Sublist.append_left (List.Sublist.append_left (List.Sublist.append_left (sc _ (List.Sublist.append_left (sc _ (sc _ sn)) _)) _) _) _)) _))
            simp only [qz]
            apply (rg_made (T := fun v u => ∃ s0 s1 s2 s3, v = wdV (barW m) s0 s1 s2 s3 ∧ SU4 u (barW m) s0 s1 s2 s3)) (by rfl) (by kernel_rfl)
            case hargs => (simp only [qm, qs, Act.eval]; exact rfl)
            case h => exact fun w hw => wtimes_any (barX m) (barX m).conj _ _ _ _ _ _ _ _ (Nm.fit_mono fx (by decide)) (Nm.fit_mono (conj_fitC fx) (by decide)) (prodB_ok (Nm.fit_mono fx (by decide)) (Nm.fit_mono (conj_fitC fx) (by decide))) (by omega) (by omega) (by show 0 ≤ (barX m).k; omega) (by show (barX m).k ≤ 10000; omega) w (hS12.at hw (List.sublist_append_left _ _)) (hS12.at hw (List.sublist_append_left _ _)).cj
            case hz => exact (fun _ h => by cases h; exact (List.Sublist.append_left (sc _ (List.Sublist.append_left (List.Sublist.append_left (List.Sublist.append_left (sc _ (List.Sublist.append_left (sc _ (sc _ sn)) _)) _) _) _)) _))
            rintro _ u13 ⟨t0, t1, t2, t3, rfl, hS13⟩
            obtain ⟨⟨ta13_0, tc13_0, rfl⟩, -⟩ := id hS13.a
            obtain ⟨⟨ta13_1, tc13_1, rfl⟩, -⟩ := id hS13.b
            obtain ⟨⟨ta13_2, tc13_2, rfl⟩, -⟩ := id hS13.c
            obtain ⟨⟨ta13_3, tc13_3, rfl⟩, -⟩ := id hS13.d
            simp only [qz]
            refine rf_storeRM (n := 9) rfl rfl (by kernel_rfl) rfl rfl (UpdR.app _ (UpdR.app _ (UpdR.there _ (UpdR.app _ (UpdR.app _ (UpdR.app _ (UpdR.there _ (UpdR.app _ (UpdR.there _ (UpdR.here _ _ _ (Nat.le_of_ble_eq_true rfl))))))))))) ((List.Sublist.append_left (sc _ (List.Sublist.append_left (List.Sublist.append_left (List.Sublist.append_left (sc _ (List.Sublist.append_left (sc _ (sk _ sn)) _)) _) _) _)) _).trans (List.sublist_append_right _ _)) ?_
            simp only [qz, Nat.reduceAdd]
            refine rg_nil (ek_next (wk_ret ?_))
            refine ek_ret (fun w hw => ⟨rfl, _, run_results1 rfl rfl (Kn.hd0 (Kn.tl (Kn.tlU (Kn.tl (Kn.tlU (Kn.tlU (Kn.tlU (Kn.tl (Kn.tlU (Kn.tlU hw)))))))))) Try.underlying70 rfl (by kernel_rfl), ?_⟩)
            (try simp only [qz])
            exact ⟨_, u13, rfl, ⟨_, _, _, _, rfl, hS13⟩, hw.made (List.sublist_append_left _ _)⟩
          refine rg_new (cs := ?_) (ty := ?_) (by rfl) (fun w => ?_) (fun _ h => by cases h; exact (((sc _ (List.Sublist.append_left (sc _ (sc _ sn)) _)).trans (List.sublist_append_right _ _)).trans (List.sublist_append_right _ _))) (fun g14 => ?_); rotate_left 2
          focus (go_simp; rfl)
          simp only [qz]
          refine rg_nil ?_
          refine ek_rt (sk _ (((sc _ (List.Sublist.append_left (sc _ (sc _ sn)) _)).trans (List.sublist_append_right _ _)).trans (List.sublist_append_right _ _))) ?_
          refine rt_hard1 (i := 6) (by kernel_rfl) rfl ?_
          apply (rg_made (T := fun v u => ∃ s0 s1 s2 s3, v = wdV ((Nm.turn m Nm.one).addR ⟨-1, 0, 0, 0, 0⟩) s0 s1 s2 s3 ∧ SU4 u ((Nm.turn m Nm.one).addR ⟨-1, 0, 0, 0, 0⟩) s0 s1 s2 s3)) (by rfl) (by kernel_rfl)
          case hargs => (simp only [qm, qs, Act.eval]; exact rfl)
          case h => exact fun w hw => wplus_any (Nm.turn m Nm.one) (⟨-1, 0, 0, 0, 0⟩ : Nm) _ _ _ _ _ _ _ _ (by rw [hk0, show max (0 : Int) ((⟨-1, 0, 0, 0, 0⟩ : Nm)).k = 0 from rfl, to_0 hk0]; exact (Nm.fit_mono ft (by decide))) (by rw [hk0]; exact (Nm.fit_mono fm (by decide))) (by omega) (by omega) (by decide) (by decide) w (hS5.at hw (List.Sublist.cons _ ((List.sublist_append_left _ _).trans (List.sublist_append_right _ _)))) (hS6.at hw (List.Sublist.cons _ (List.sublist_append_left _ _)))
          case hz => exact (fun _ h => by cases h; exact (sk _ (((sc _ (List.Sublist.append_left (sc _ (sc _ sn)) _)).trans (List.sublist_append_right _ _)).trans (List.sublist_append_right _ _))))
          rintro _ u15 ⟨t0, t1, t2, t3, rfl, hS15⟩
          obtain ⟨⟨ta15_0, tc15_0, rfl⟩, -⟩ := id hS15.a
          obtain ⟨⟨ta15_1, tc15_1, rfl⟩, -⟩ := id hS15.b
          obtain ⟨⟨ta15_2, tc15_2, rfl⟩, -⟩ := id hS15.c
          obtain ⟨⟨ta15_3, tc15_3, rfl⟩, -⟩ := id hS15.d
          simp only [qz]
          refine rg_nil ?_
          refine ek_rt ((sk _ (((sc _ (List.Sublist.append_left (sc _ (sc _ sn)) _)).trans (List.sublist_append_right _ _)).trans (List.sublist_append_right _ _))).trans (List.sublist_append_right _ _)) ?_
          refine rt_hard1 (i := 8) (by kernel_rfl) rfl ?_
          apply (rg_made (T := fun v u => ∃ s0 s1 s2 s3, v = wdV (barX m) s0 s1 s2 s3 ∧ SU4 u (barX m) s0 s1 s2 s3)) (by rfl) (by kernel_rfl)
          case hargs => (simp only [qm, qs, Act.eval]; exact rfl)
          case h => exact fun w hw => wtimes_any ((Nm.turn m Nm.one).addR ⟨-1, 0, 0, 0, 0⟩) (⟨1, 0, 0, 0, 2⟩ : Nm) _ _ _ _ _ _ _ _ (Nm.fit_mono fs (by decide)) (Nm.fit_mono fh (by decide)) (prodB_ok (Nm.fit_mono fs (by decide)) (Nm.fit_mono fh (by decide))) (by omega) (by omega) (by decide) (by decide) w (hS15.at hw (List.sublist_append_left _ _)) (hS3.at hw ((List.Sublist.cons _ (((List.Sublist.cons _ (List.sublist_append_left _ _)).trans (List.sublist_append_right _ _)).trans (List.sublist_append_right _ _))).trans (List.sublist_append_right _ _)))
          case hz => exact (fun _ h => by cases h; exact ((sk _ (((sc _ (List.Sublist.append_left (sc _ (sc _ sn)) _)).trans (List.sublist_append_right _ _)).trans (List.sublist_append_right _ _))).trans (List.sublist_append_right _ _)))
          rintro _ u16 ⟨t0, t1, t2, t3, rfl, hS16⟩
          obtain ⟨⟨ta16_0, tc16_0, rfl⟩, -⟩ := id hS16.a
          obtain ⟨⟨ta16_1, tc16_1, rfl⟩, -⟩ := id hS16.b
          obtain ⟨⟨ta16_2, tc16_2, rfl⟩, -⟩ := id hS16.c
          obtain ⟨⟨ta16_3, tc16_3, rfl⟩, -⟩ := id hS16.d
          simp only [qz]
          refine rg_nil ?_
          refine ek_rt (((sk _ (((sc _ (List.Sublist.append_left (sc _ (sc _ sn)) _)).trans (List.sublist_append_right _ _)).trans (List.sublist_append_right _ _))).trans (List.sublist_append_right _ _)).trans (List.sublist_append_right _ _)) ?_
          refine rt_hard1 (i := 10) (by kernel_rfl) rfl ?_
          refine rf_storeR (n := 9) rfl rfl (by kernel_rfl) rfl rfl (UpdR.app _ (UpdR.app _ (UpdR.here _ _ _ (Nat.le_of_ble_eq_true rfl)))) (fun _ h => by cases h; exact (((sk _ (((sc _ (List.Sublist.append_left (sc _ (sc _ sn)) _)).trans (List.sublist_append_right _ _)).trans (List.sublist_append_right _ _))).trans (List.sublist_append_right _ _)).trans (List.sublist_append_right _ _))) ?_
          simp only [qz, Nat.reduceAdd]
          refine rg_nil ?_
          refine ek_rt (((sk _ (((sc _ (List.Sublist.append_left (sc _ (sc _ sn)) _)).trans (List.sublist_append_right _ _)).trans (List.sublist_append_right _ _))).trans (List.sublist_append_right _ _)).trans (List.sublist_append_right _ _)) ?_
          refine rt_nil (by kernel_rfl) ?_
          refine ek_next (wk_seq ?_)
          refine wk_draws_m (hz1 := (List.Sublist.append_left (List.Sublist.append_left (sc _ (List.Sublist.append_left (List.Sublist.append_left (sc _ (List.Sublist.append_left (sc _ (sk _ sn)) _)) _) _)) _) _)) [(0, 0), (1, 0), (2, 1), (3, 1), (4, 2)] 4 (by kernel_rfl) (by kernel_rfl) (fun c d v a w h => by cases d <;> exact h) ?_
          simp only [List.map_cons, List.map_nil, List.getD_cons_zero, List.getD_cons_succ]
          refine rf_loadR (n := 9) rfl rfl rfl Try.underlying70 rfl (by kernel_rfl) (fun w hw => Kn.hd0 (Kn.tlU (Kn.tlU hw))) rfl rfl ?_
          simp only [qz]
          refine rf_loadR (n := 9) rfl rfl rfl Try.underlying70 rfl (by kernel_rfl) (fun w hw => Kn.hd0 (Kn.tlU (Kn.tlU hw))) rfl rfl ?_
          simp only [qz]
          apply rg_pure (by rfl) (by kernel_rfl)
          case hargs => (simp only [qm, qs, Act.eval]; exact rfl)
          case h => exact fun w hw => wconj_any (barX m) _ _ _ _ (Nm.fit_mono fx (by decide)) w (hS16.at hw (List.sublist_append_left _ _))
          case hz => exact (fun _ h => by cases h; exact (List.Sublist.append_left (List.Sublist.append_left (sc _ (List.Sublist.append_left (List.Sublist.append_left (sc _ (List.Sublist.append_left (sc _ (sc _ sn)) _)) _) _)) _) _))
          simp only [qz]
          apply (rg_made (T := fun v u => ∃ s0 s1 s2 s3, v = wdV (barW m) s0 s1 s2 s3 ∧ SU4 u (barW m) s0 s1 s2 s3)) (by rfl) (by kernel_rfl)
          case hargs => (simp only [qm, qs, Act.eval]; exact rfl)
          case h => exact fun w hw => wtimes_any (barX m) (barX m).conj _ _ _ _ _ _ _ _ (Nm.fit_mono fx (by decide)) (Nm.fit_mono (conj_fitC fx) (by decide)) (prodB_ok (Nm.fit_mono fx (by decide)) (Nm.fit_mono (conj_fitC fx) (by decide))) (by omega) (by omega) (by show 0 ≤ (barX m).k; omega) (by show (barX m).k ≤ 10000; omega) w (hS16.at hw (List.sublist_append_left _ _)) (hS16.at hw (List.sublist_append_left _ _)).cj
          case hz => exact (fun _ h => by cases h; exact (List.Sublist.append_left (List.Sublist.append_left (sc _ (List.Sublist.append_left (List.Sublist.append_left (sc _ (List.Sublist.append_left (sc _ (sc _ sn)) _)) _) _)) _) _))
          rintro _ u17 ⟨t0, t1, t2, t3, rfl, hS17⟩
          obtain ⟨⟨ta17_0, tc17_0, rfl⟩, -⟩ := id hS17.a
          obtain ⟨⟨ta17_1, tc17_1, rfl⟩, -⟩ := id hS17.b
          obtain ⟨⟨ta17_2, tc17_2, rfl⟩, -⟩ := id hS17.c
          obtain ⟨⟨ta17_3, tc17_3, rfl⟩, -⟩ := id hS17.d
          simp only [qz]
          refine rf_storeRM (n := 9) rfl rfl (by kernel_rfl) rfl rfl (UpdR.app _ (UpdR.app _ (UpdR.app _ (UpdR.there _ (UpdR.app _ (UpdR.app _ (UpdR.there _ (UpdR.app _ (UpdR.there _ (UpdR.here _ _ _ (Nat.le_of_ble_eq_true rfl))))))))))) ((List.Sublist.append_left (List.Sublist.append_left (sc _ (List.Sublist.append_left (List.Sublist.append_left (sc _ (List.Sublist.append_left (sc _ (sk _ sn)) _)) _) _)) _) _).trans (List.sublist_append_right _ _)) ?_
          simp only [qz, Nat.reduceAdd]
          refine rg_nil (ek_next (wk_ret ?_))
          refine ek_ret (fun w hw => ⟨rfl, _, run_results1 rfl rfl (Kn.hd0 (Kn.tl (Kn.tlU (Kn.tl (Kn.tlU (Kn.tlU (Kn.tl (Kn.tlU (Kn.tlU (Kn.tlU hw)))))))))) Try.underlying70 rfl (by kernel_rfl), ?_⟩)
          (try simp only [qz])
          exact ⟨_, u17, rfl, ⟨_, _, _, _, rfl, hS17⟩, hw.made (List.sublist_append_left _ _)⟩
        refine rg_new (cs := ?_) (ty := ?_) (by rfl) (fun w => ?_) (fun _ h => by cases h; exact ((sc _ (List.Sublist.append_left (sc _ (sc _ sn)) _)).trans (List.sublist_append_right _ _))) (fun g18 => ?_); rotate_left 2
        focus (go_simp; rfl)
        simp only [qz]
        refine rg_nil ?_
        refine ek_rt (sk _ ((sc _ (List.Sublist.append_left (sc _ (sc _ sn)) _)).trans (List.sublist_append_right _ _))) ?_
        refine rt_hard1 (i := 5) (by kernel_rfl) rfl ?_
        apply (rg_made (T := fun v u => ∃ s0 s1 s2 s3, v = wdV ((⟨-1, 0, 0, 0, 0⟩ : Nm)) s0 s1 s2 s3 ∧ SU4 u ((⟨-1, 0, 0, 0, 0⟩ : Nm)) s0 s1 s2 s3)) (by rfl) (by kernel_rfl)
        case hargs => (simp only [qm, qs, Act.eval]; exact rfl)
        case h => exact fun w hw => wideOf_any ((⟨-1, 0, 0, 0, 0⟩ : Nm)) (Nm.fit_mono fm (by decide)) w
        case hz => exact (fun _ h => by cases h; exact (sk _ ((sc _ (List.Sublist.append_left (sc _ (sc _ sn)) _)).trans (List.sublist_append_right _ _))))
        rintro _ u19 ⟨t0, t1, t2, t3, rfl, hS19⟩
        obtain ⟨⟨ta19_0, tc19_0, rfl⟩, -⟩ := id hS19.a
        obtain ⟨⟨ta19_1, tc19_1, rfl⟩, -⟩ := id hS19.b
        obtain ⟨⟨ta19_2, tc19_2, rfl⟩, -⟩ := id hS19.c
        obtain ⟨⟨ta19_3, tc19_3, rfl⟩, -⟩ := id hS19.d
        simp only [qz]
        refine rg_nil ?_
        refine ek_rt ((sk _ ((sc _ (List.Sublist.append_left (sc _ (sc _ sn)) _)).trans (List.sublist_append_right _ _))).trans (List.sublist_append_right _ _)) ?_
        refine rt_hard1 (i := 6) (by kernel_rfl) rfl ?_
        apply (rg_made (T := fun v u => ∃ s0 s1 s2 s3, v = wdV ((Nm.turn m Nm.one).addR ⟨-1, 0, 0, 0, 0⟩) s0 s1 s2 s3 ∧ SU4 u ((Nm.turn m Nm.one).addR ⟨-1, 0, 0, 0, 0⟩) s0 s1 s2 s3)) (by rfl) (by kernel_rfl)
        case hargs => (simp only [qm, qs, Act.eval]; exact rfl)
        case h => exact fun w hw => wplus_any (Nm.turn m Nm.one) (⟨-1, 0, 0, 0, 0⟩ : Nm) _ _ _ _ _ _ _ _ (by rw [hk0, show max (0 : Int) ((⟨-1, 0, 0, 0, 0⟩ : Nm)).k = 0 from rfl, to_0 hk0]; exact (Nm.fit_mono ft (by decide))) (by rw [hk0]; exact (Nm.fit_mono fm (by decide))) (by omega) (by omega) (by decide) (by decide) w (hS5.at hw ((List.Sublist.cons _ (List.sublist_append_left _ _)).trans (List.sublist_append_right _ _))) (hS19.at hw (List.sublist_append_left _ _))
        case hz => exact (fun _ h => by cases h; exact ((sk _ ((sc _ (List.Sublist.append_left (sc _ (sc _ sn)) _)).trans (List.sublist_append_right _ _))).trans (List.sublist_append_right _ _)))
        rintro _ u20 ⟨t0, t1, t2, t3, rfl, hS20⟩
        obtain ⟨⟨ta20_0, tc20_0, rfl⟩, -⟩ := id hS20.a
        obtain ⟨⟨ta20_1, tc20_1, rfl⟩, -⟩ := id hS20.b
        obtain ⟨⟨ta20_2, tc20_2, rfl⟩, -⟩ := id hS20.c
        obtain ⟨⟨ta20_3, tc20_3, rfl⟩, -⟩ := id hS20.d
        simp only [qz]
        refine rg_nil ?_
        refine ek_rt (((sk _ ((sc _ (List.Sublist.append_left (sc _ (sc _ sn)) _)).trans (List.sublist_append_right _ _))).trans (List.sublist_append_right _ _)).trans (List.sublist_append_right _ _)) ?_
        refine rt_hard1 (i := 8) (by kernel_rfl) rfl ?_
        apply (rg_made (T := fun v u => ∃ s0 s1 s2 s3, v = wdV (barX m) s0 s1 s2 s3 ∧ SU4 u (barX m) s0 s1 s2 s3)) (by rfl) (by kernel_rfl)
        case hargs => (simp only [qm, qs, Act.eval]; exact rfl)
        case h => exact fun w hw => wtimes_any ((Nm.turn m Nm.one).addR ⟨-1, 0, 0, 0, 0⟩) (⟨1, 0, 0, 0, 2⟩ : Nm) _ _ _ _ _ _ _ _ (Nm.fit_mono fs (by decide)) (Nm.fit_mono fh (by decide)) (prodB_ok (Nm.fit_mono fs (by decide)) (Nm.fit_mono fh (by decide))) (by omega) (by omega) (by decide) (by decide) w (hS20.at hw (List.sublist_append_left _ _)) (hS3.at hw (((List.Sublist.cons _ ((List.Sublist.cons _ (List.sublist_append_left _ _)).trans (List.sublist_append_right _ _))).trans (List.sublist_append_right _ _)).trans (List.sublist_append_right _ _)))
        case hz => exact (fun _ h => by cases h; exact (((sk _ ((sc _ (List.Sublist.append_left (sc _ (sc _ sn)) _)).trans (List.sublist_append_right _ _))).trans (List.sublist_append_right _ _)).trans (List.sublist_append_right _ _)))
        rintro _ u21 ⟨t0, t1, t2, t3, rfl, hS21⟩
        obtain ⟨⟨ta21_0, tc21_0, rfl⟩, -⟩ := id hS21.a
        obtain ⟨⟨ta21_1, tc21_1, rfl⟩, -⟩ := id hS21.b
        obtain ⟨⟨ta21_2, tc21_2, rfl⟩, -⟩ := id hS21.c
        obtain ⟨⟨ta21_3, tc21_3, rfl⟩, -⟩ := id hS21.d
        simp only [qz]
        refine rg_nil ?_
        refine ek_rt ((((sk _ ((sc _ (List.Sublist.append_left (sc _ (sc _ sn)) _)).trans (List.sublist_append_right _ _))).trans (List.sublist_append_right _ _)).trans (List.sublist_append_right _ _)).trans (List.sublist_append_right _ _)) ?_
        refine rt_hard1 (i := 10) (by kernel_rfl) rfl ?_
        refine rf_storeR (n := 9) rfl rfl (by kernel_rfl) rfl rfl (UpdR.app _ (UpdR.app _ (UpdR.app _ (UpdR.here _ _ _ (Nat.le_of_ble_eq_true rfl))))) (fun _ h => by cases h; exact ((((sk _ ((sc _ (List.Sublist.append_left (sc _ (sc _ sn)) _)).trans (List.sublist_append_right _ _))).trans (List.sublist_append_right _ _)).trans (List.sublist_append_right _ _)).trans (List.sublist_append_right _ _))) ?_
        simp only [qz, Nat.reduceAdd]
        refine rg_nil ?_
        refine ek_rt ((((sk _ ((sc _ (List.Sublist.append_left (sc _ (sc _ sn)) _)).trans (List.sublist_append_right _ _))).trans (List.sublist_append_right _ _)).trans (List.sublist_append_right _ _)).trans (List.sublist_append_right _ _)) ?_
        refine rt_nil (by kernel_rfl) ?_
        refine ek_next (wk_seq ?_)
        refine wk_draws_m (hz1 := (List.Sublist.append_left (List.Sublist.append_left (List.Sublist.append_left (sc _ (List.Sublist.append_left (sc _ (List.Sublist.append_left (sc _ (sk _ sn)) _)) _)) _) _) _)) [(0, 0), (1, 0), (2, 1), (3, 1), (4, 2)] 4 (by kernel_rfl) (by kernel_rfl) (fun c d v a w h => by cases d <;> exact h) ?_
        simp only [List.map_cons, List.map_nil, List.getD_cons_zero, List.getD_cons_succ]
        refine rf_loadR (n := 9) rfl rfl rfl Try.underlying70 rfl (by kernel_rfl) (fun w hw => Kn.hd0 (Kn.tlU (Kn.tlU (Kn.tlU hw)))) rfl rfl ?_
        simp only [qz]
        refine rf_loadR (n := 9) rfl rfl rfl Try.underlying70 rfl (by kernel_rfl) (fun w hw => Kn.hd0 (Kn.tlU (Kn.tlU (Kn.tlU hw)))) rfl rfl ?_
        simp only [qz]
        apply rg_pure (by rfl) (by kernel_rfl)
        case hargs => (simp only [qm, qs, Act.eval]; exact rfl)
        case h => exact fun w hw => wconj_any (barX m) _ _ _ _ (Nm.fit_mono fx (by decide)) w (hS21.at hw (List.sublist_append_left _ _))
        case hz => exact (fun _ h => by cases h; exact (List.Sublist.append_left (List.Sublist.append_left (List.Sublist.append_left (sc _ (List.Sublist.append_left (sc _ (List.Sublist.append_left (sc _ (sc _ sn)) _)) _)) _) _) _))
        simp only [qz]
        apply (rg_made (T := fun v u => ∃ s0 s1 s2 s3, v = wdV (barW m) s0 s1 s2 s3 ∧ SU4 u (barW m) s0 s1 s2 s3)) (by rfl) (by kernel_rfl)
        case hargs => (simp only [qm, qs, Act.eval]; exact rfl)
        case h => exact fun w hw => wtimes_any (barX m) (barX m).conj _ _ _ _ _ _ _ _ (Nm.fit_mono fx (by decide)) (Nm.fit_mono (conj_fitC fx) (by decide)) (prodB_ok (Nm.fit_mono fx (by decide)) (Nm.fit_mono (conj_fitC fx) (by decide))) (by omega) (by omega) (by show 0 ≤ (barX m).k; omega) (by show (barX m).k ≤ 10000; omega) w (hS21.at hw (List.sublist_append_left _ _)) (hS21.at hw (List.sublist_append_left _ _)).cj
        case hz => exact (fun _ h => by cases h; exact (List.Sublist.append_left (List.Sublist.append_left (List.Sublist.append_left (sc _ (List.Sublist.append_left (sc _ (List.Sublist.append_left (sc _ (sc _ sn)) _)) _)) _) _) _))
        rintro _ u22 ⟨t0, t1, t2, t3, rfl, hS22⟩
        obtain ⟨⟨ta22_0, tc22_0, rfl⟩, -⟩ := id hS22.a
        obtain ⟨⟨ta22_1, tc22_1, rfl⟩, -⟩ := id hS22.b
        obtain ⟨⟨ta22_2, tc22_2, rfl⟩, -⟩ := id hS22.c
        obtain ⟨⟨ta22_3, tc22_3, rfl⟩, -⟩ := id hS22.d
        simp only [qz]
        refine rf_storeRM (n := 9) rfl rfl (by kernel_rfl) rfl rfl (UpdR.app _ (UpdR.app _ (UpdR.app _ (UpdR.app _ (UpdR.there _ (UpdR.app _ (UpdR.there _ (UpdR.app _ (UpdR.there _ (UpdR.here _ _ _ (Nat.le_of_ble_eq_true rfl))))))))))) ((List.Sublist.append_left (List.Sublist.append_left (List.Sublist.append_left (sc _ (List.Sublist.append_left (sc _ (List.Sublist.append_left (sc _ (sk _ sn)) _)) _)) _) _) _).trans (List.sublist_append_right _ _)) ?_
        simp only [qz, Nat.reduceAdd]
        refine rg_nil (ek_next (wk_ret ?_))
        refine ek_ret (fun w hw => ⟨rfl, _, run_results1 rfl rfl (Kn.hd0 (Kn.tl (Kn.tlU (Kn.tl (Kn.tlU (Kn.tl (Kn.tlU (Kn.tlU (Kn.tlU (Kn.tlU hw)))))))))) Try.underlying70 rfl (by kernel_rfl), ?_⟩)
        (try simp only [qz])
        exact ⟨_, u22, rfl, ⟨_, _, _, _, rfl, hS22⟩, hw.made (List.sublist_append_left _ _)⟩
      refine rg_new (cs := ?_) (ty := ?_) (by rfl) (fun w => ?_) (fun _ h => by cases h; exact (sc _ (List.Sublist.append_left (sc _ (sc _ sn)) _))) (fun g23 => ?_); rotate_left 2
      focus (go_simp; rfl)
      simp only [qz]
      refine rg_nil ?_
      refine ek_rt (sk _ (sc _ (List.Sublist.append_left (sc _ (sc _ sn)) _))) ?_
      refine rt_hard1 (i := 3) (by kernel_rfl) rfl ?_
      apply (rg_made (T := fun v u => ∃ s0 s1 s2 s3, v = wdV (Nm.turn m Nm.one) s0 s1 s2 s3 ∧ SU4 u (Nm.turn m Nm.one) s0 s1 s2 s3)) (by rfl) (by kernel_rfl)
      case hargs => (simp only [qm, qs, Act.eval]; exact rfl)
      case h => exact fun w hw => wideOf_any (Nm.turn m Nm.one) (Nm.fit_mono ft (by decide)) w
      case hz => exact (fun _ h => by cases h; exact (sk _ (sc _ (List.Sublist.append_left (sc _ (sc _ sn)) _))))
      rintro _ u24 ⟨t0, t1, t2, t3, rfl, hS24⟩
      obtain ⟨⟨ta24_0, tc24_0, rfl⟩, -⟩ := id hS24.a
      obtain ⟨⟨ta24_1, tc24_1, rfl⟩, -⟩ := id hS24.b
      obtain ⟨⟨ta24_2, tc24_2, rfl⟩, -⟩ := id hS24.c
      obtain ⟨⟨ta24_3, tc24_3, rfl⟩, -⟩ := id hS24.d
      simp only [qz]
      refine rg_nil ?_
      refine ek_rt ((sk _ (sc _ (List.Sublist.append_left (sc _ (sc _ sn)) _))).trans (List.sublist_append_right _ _)) ?_
      refine rt_hard1 (i := 5) (by kernel_rfl) rfl ?_
      apply (rg_made (T := fun v u => ∃ s0 s1 s2 s3, v = wdV ((⟨-1, 0, 0, 0, 0⟩ : Nm)) s0 s1 s2 s3 ∧ SU4 u ((⟨-1, 0, 0, 0, 0⟩ : Nm)) s0 s1 s2 s3)) (by rfl) (by kernel_rfl)
      case hargs => (simp only [qm, qs, Act.eval]; exact rfl)
      case h => exact fun w hw => wideOf_any ((⟨-1, 0, 0, 0, 0⟩ : Nm)) (Nm.fit_mono fm (by decide)) w
      case hz => exact (fun _ h => by cases h; exact ((sk _ (sc _ (List.Sublist.append_left (sc _ (sc _ sn)) _))).trans (List.sublist_append_right _ _)))
      rintro _ u25 ⟨t0, t1, t2, t3, rfl, hS25⟩
      obtain ⟨⟨ta25_0, tc25_0, rfl⟩, -⟩ := id hS25.a
      obtain ⟨⟨ta25_1, tc25_1, rfl⟩, -⟩ := id hS25.b
      obtain ⟨⟨ta25_2, tc25_2, rfl⟩, -⟩ := id hS25.c
      obtain ⟨⟨ta25_3, tc25_3, rfl⟩, -⟩ := id hS25.d
      simp only [qz]
      refine rg_nil ?_
      refine ek_rt (((sk _ (sc _ (List.Sublist.append_left (sc _ (sc _ sn)) _))).trans (List.sublist_append_right _ _)).trans (List.sublist_append_right _ _)) ?_
      refine rt_hard1 (i := 6) (by kernel_rfl) rfl ?_
      apply (rg_made (T := fun v u => ∃ s0 s1 s2 s3, v = wdV ((Nm.turn m Nm.one).addR ⟨-1, 0, 0, 0, 0⟩) s0 s1 s2 s3 ∧ SU4 u ((Nm.turn m Nm.one).addR ⟨-1, 0, 0, 0, 0⟩) s0 s1 s2 s3)) (by rfl) (by kernel_rfl)
      case hargs => (simp only [qm, qs, Act.eval]; exact rfl)
      case h => exact fun w hw => wplus_any (Nm.turn m Nm.one) (⟨-1, 0, 0, 0, 0⟩ : Nm) _ _ _ _ _ _ _ _ (by rw [hk0, show max (0 : Int) ((⟨-1, 0, 0, 0, 0⟩ : Nm)).k = 0 from rfl, to_0 hk0]; exact (Nm.fit_mono ft (by decide))) (by rw [hk0]; exact (Nm.fit_mono fm (by decide))) (by omega) (by omega) (by decide) (by decide) w (hS24.at hw ((List.sublist_append_left _ _).trans (List.sublist_append_right _ _))) (hS25.at hw (List.sublist_append_left _ _))
      case hz => exact (fun _ h => by cases h; exact (((sk _ (sc _ (List.Sublist.append_left (sc _ (sc _ sn)) _))).trans (List.sublist_append_right _ _)).trans (List.sublist_append_right _ _)))
      rintro _ u26 ⟨t0, t1, t2, t3, rfl, hS26⟩
      obtain ⟨⟨ta26_0, tc26_0, rfl⟩, -⟩ := id hS26.a
      obtain ⟨⟨ta26_1, tc26_1, rfl⟩, -⟩ := id hS26.b
      obtain ⟨⟨ta26_2, tc26_2, rfl⟩, -⟩ := id hS26.c
      obtain ⟨⟨ta26_3, tc26_3, rfl⟩, -⟩ := id hS26.d
      simp only [qz]
      refine rg_nil ?_
      refine ek_rt ((((sk _ (sc _ (List.Sublist.append_left (sc _ (sc _ sn)) _))).trans (List.sublist_append_right _ _)).trans (List.sublist_append_right _ _)).trans (List.sublist_append_right _ _)) ?_
      refine rt_hard1 (i := 8) (by kernel_rfl) rfl ?_
      apply (rg_made (T := fun v u => ∃ s0 s1 s2 s3, v = wdV (barX m) s0 s1 s2 s3 ∧ SU4 u (barX m) s0 s1 s2 s3)) (by rfl) (by kernel_rfl)
      case hargs => (simp only [qm, qs, Act.eval]; exact rfl)
      case h => exact fun w hw => wtimes_any ((Nm.turn m Nm.one).addR ⟨-1, 0, 0, 0, 0⟩) (⟨1, 0, 0, 0, 2⟩ : Nm) _ _ _ _ _ _ _ _ (Nm.fit_mono fs (by decide)) (Nm.fit_mono fh (by decide)) (prodB_ok (Nm.fit_mono fs (by decide)) (Nm.fit_mono fh (by decide))) (by omega) (by omega) (by decide) (by decide) w (hS26.at hw (List.sublist_append_left _ _)) (hS3.at hw ((((List.Sublist.cons _ (List.Sublist.cons _ (List.sublist_append_left _ _))).trans (List.sublist_append_right _ _)).trans (List.sublist_append_right _ _)).trans (List.sublist_append_right _ _)))
      case hz => exact (fun _ h => by cases h; exact ((((sk _ (sc _ (List.Sublist.append_left (sc _ (sc _ sn)) _))).trans (List.sublist_append_right _ _)).trans (List.sublist_append_right _ _)).trans (List.sublist_append_right _ _)))
      rintro _ u27 ⟨t0, t1, t2, t3, rfl, hS27⟩
      obtain ⟨⟨ta27_0, tc27_0, rfl⟩, -⟩ := id hS27.a
      obtain ⟨⟨ta27_1, tc27_1, rfl⟩, -⟩ := id hS27.b
      obtain ⟨⟨ta27_2, tc27_2, rfl⟩, -⟩ := id hS27.c
      obtain ⟨⟨ta27_3, tc27_3, rfl⟩, -⟩ := id hS27.d
      simp only [qz]
      refine rg_nil ?_
      refine ek_rt (((((sk _ (sc _ (List.Sublist.append_left (sc _ (sc _ sn)) _))).trans (List.sublist_append_right _ _)).trans (List.sublist_append_right _ _)).trans (List.sublist_append_right _ _)).trans (List.sublist_append_right _ _)) ?_
      refine rt_hard1 (i := 10) (by kernel_rfl) rfl ?_
      refine rf_storeR (n := 9) rfl rfl (by kernel_rfl) rfl rfl (UpdR.app _ (UpdR.app _ (UpdR.app _ (UpdR.app _ (UpdR.here _ _ _ (Nat.le_of_ble_eq_true rfl)))))) (fun _ h => by cases h; exact (((((sk _ (sc _ (List.Sublist.append_left (sc _ (sc _ sn)) _))).trans (List.sublist_append_right _ _)).trans (List.sublist_append_right _ _)).trans (List.sublist_append_right _ _)).trans (List.sublist_append_right _ _))) ?_
      simp only [qz, Nat.reduceAdd]
      refine rg_nil ?_
      refine ek_rt (((((sk _ (sc _ (List.Sublist.append_left (sc _ (sc _ sn)) _))).trans (List.sublist_append_right _ _)).trans (List.sublist_append_right _ _)).trans (List.sublist_append_right _ _)).trans (List.sublist_append_right _ _)) ?_
      refine rt_nil (by kernel_rfl) ?_
      refine ek_next (wk_seq ?_)
      refine wk_draws_m (hz1 := (List.Sublist.append_left (List.Sublist.append_left (List.Sublist.append_left (List.Sublist.append_left (sc _ (sc _ (List.Sublist.append_left (sc _ (sk _ sn)) _))) _) _) _) _)) [(0, 0), (1, 0), (2, 1), (3, 1), (4, 2)] 4 (by kernel_rfl) (by kernel_rfl) (fun c d v a w h => by cases d <;> exact h) ?_
      simp only [List.map_cons, List.map_nil, List.getD_cons_zero, List.getD_cons_succ]
      refine rf_loadR (n := 9) rfl rfl rfl Try.underlying70 rfl (by kernel_rfl) (fun w hw => Kn.hd0 (Kn.tlU (Kn.tlU (Kn.tlU (Kn.tlU hw))))) rfl rfl ?_
      simp only [qz]
      refine rf_loadR (n := 9) rfl rfl rfl Try.underlying70 rfl (by kernel_rfl) (fun w hw => Kn.hd0 (Kn.tlU (Kn.tlU (Kn.tlU (Kn.tlU hw))))) rfl rfl ?_
      simp only [qz]
      apply rg_pure (by rfl) (by kernel_rfl)
      case hargs => (simp only [qm, qs, Act.eval]; exact rfl)
      case h => exact fun w hw => wconj_any (barX m) _ _ _ _ (Nm.fit_mono fx (by decide)) w (hS27.at hw (List.sublist_append_left _ _))
      case hz => exact (fun _ h => by cases h; exact (List.Sublist.append_left (List.Sublist.append_left (List.Sublist.append_left (List.Sublist.append_left (sc _ (sc _ (List.Sublist.append_left (sc _ (sc _ sn)) _))) _) _) _) _))
      simp only [qz]
      apply (rg_made (T := fun v u => ∃ s0 s1 s2 s3, v = wdV (barW m) s0 s1 s2 s3 ∧ SU4 u (barW m) s0 s1 s2 s3)) (by rfl) (by kernel_rfl)
      case hargs => (simp only [qm, qs, Act.eval]; exact rfl)
      case h => exact fun w hw => wtimes_any (barX m) (barX m).conj _ _ _ _ _ _ _ _ (Nm.fit_mono fx (by decide)) (Nm.fit_mono (conj_fitC fx) (by decide)) (prodB_ok (Nm.fit_mono fx (by decide)) (Nm.fit_mono (conj_fitC fx) (by decide))) (by omega) (by omega) (by show 0 ≤ (barX m).k; omega) (by show (barX m).k ≤ 10000; omega) w (hS27.at hw (List.sublist_append_left _ _)) (hS27.at hw (List.sublist_append_left _ _)).cj
      case hz => exact (fun _ h => by cases h; exact (List.Sublist.append_left (List.Sublist.append_left (List.Sublist.append_left (List.Sublist.append_left (sc _ (sc _ (List.Sublist.append_left (sc _ (sc _ sn)) _))) _) _) _) _))
      rintro _ u28 ⟨t0, t1, t2, t3, rfl, hS28⟩
      obtain ⟨⟨ta28_0, tc28_0, rfl⟩, -⟩ := id hS28.a
      obtain ⟨⟨ta28_1, tc28_1, rfl⟩, -⟩ := id hS28.b
      obtain ⟨⟨ta28_2, tc28_2, rfl⟩, -⟩ := id hS28.c
      obtain ⟨⟨ta28_3, tc28_3, rfl⟩, -⟩ := id hS28.d
      simp only [qz]
      refine rf_storeRM (n := 9) rfl rfl (by kernel_rfl) rfl rfl (UpdR.app _ (UpdR.app _ (UpdR.app _ (UpdR.app _ (UpdR.app _ (UpdR.there _ (UpdR.there _ (UpdR.app _ (UpdR.there _ (UpdR.here _ _ _ (Nat.le_of_ble_eq_true rfl))))))))))) ((List.Sublist.append_left (List.Sublist.append_left (List.Sublist.append_left (List.Sublist.append_left (sc _ (sc _ (List.Sublist.append_left (sc _ (sk _ sn)) _))) _) _) _) _).trans (List.sublist_append_right _ _)) ?_
      simp only [qz, Nat.reduceAdd]
      refine rg_nil (ek_next (wk_ret ?_))
      refine ek_ret (fun w hw => ⟨rfl, _, run_results1 rfl rfl (Kn.hd0 (Kn.tl (Kn.tlU (Kn.tl (Kn.tl (Kn.tlU (Kn.tlU (Kn.tlU (Kn.tlU (Kn.tlU hw)))))))))) Try.underlying70 rfl (by kernel_rfl), ?_⟩)
      (try simp only [qz])
      exact ⟨_, u28, rfl, ⟨_, _, _, _, rfl, hS28⟩, hw.made (List.sublist_append_left _ _)⟩
    refine rg_new (cs := ?_) (ty := ?_) (by rfl) (fun w => ?_) (fun _ h => by cases h; exact (sc _ (List.Sublist.append_left (sc _ (sc _ sn)) _))) (fun g29 => ?_); rotate_left 2
    focus (go_simp; rfl)
    simp only [qz]
    refine rg_nil ?_
    refine ek_rt (sk _ (sc _ (List.Sublist.append_left (sc _ (sc _ sn)) _))) ?_
    refine rt_hard1 (i := 2) (by kernel_rfl) rfl ?_
    apply rg_pure (by rfl) (by kernel_rfl)
    case hargs => (simp only [qm, qs, Act.eval]; exact rfl)
    case h => exact fun w hw => rTurned_any Nm.one m one_ok (by omega) w
    case hz => exact (fun _ h => by cases h; exact (sk _ (sc _ (List.Sublist.append_left (sc _ (sc _ sn)) _))))
    simp only [qz]
    refine rg_nil ?_
    refine ek_rt (sk _ (sc _ (List.Sublist.append_left (sc _ (sc _ sn)) _))) ?_
    refine rt_hard1 (i := 3) (by kernel_rfl) rfl ?_
    apply (rg_made (T := fun v u => ∃ s0 s1 s2 s3, v = wdV (Nm.turn m Nm.one) s0 s1 s2 s3 ∧ SU4 u (Nm.turn m Nm.one) s0 s1 s2 s3)) (by rfl) (by kernel_rfl)
    case hargs => (simp only [qm, qs, Act.eval]; exact rfl)
    case h => exact fun w hw => wideOf_any (Nm.turn m Nm.one) (Nm.fit_mono ft (by decide)) w
    case hz => exact (fun _ h => by cases h; exact (sk _ (sc _ (List.Sublist.append_left (sc _ (sc _ sn)) _))))
    rintro _ u30 ⟨t0, t1, t2, t3, rfl, hS30⟩
    obtain ⟨⟨ta30_0, tc30_0, rfl⟩, -⟩ := id hS30.a
    obtain ⟨⟨ta30_1, tc30_1, rfl⟩, -⟩ := id hS30.b
    obtain ⟨⟨ta30_2, tc30_2, rfl⟩, -⟩ := id hS30.c
    obtain ⟨⟨ta30_3, tc30_3, rfl⟩, -⟩ := id hS30.d
    simp only [qz]
    refine rg_nil ?_
    refine ek_rt ((sk _ (sc _ (List.Sublist.append_left (sc _ (sc _ sn)) _))).trans (List.sublist_append_right _ _)) ?_
    refine rt_hard1 (i := 5) (by kernel_rfl) rfl ?_
    apply (rg_made (T := fun v u => ∃ s0 s1 s2 s3, v = wdV ((⟨-1, 0, 0, 0, 0⟩ : Nm)) s0 s1 s2 s3 ∧ SU4 u ((⟨-1, 0, 0, 0, 0⟩ : Nm)) s0 s1 s2 s3)) (by rfl) (by kernel_rfl)
    case hargs => (simp only [qm, qs, Act.eval]; exact rfl)
    case h => exact fun w hw => wideOf_any ((⟨-1, 0, 0, 0, 0⟩ : Nm)) (Nm.fit_mono fm (by decide)) w
    case hz => exact (fun _ h => by cases h; exact ((sk _ (sc _ (List.Sublist.append_left (sc _ (sc _ sn)) _))).trans (List.sublist_append_right _ _)))
    rintro _ u31 ⟨t0, t1, t2, t3, rfl, hS31⟩
    obtain ⟨⟨ta31_0, tc31_0, rfl⟩, -⟩ := id hS31.a
    obtain ⟨⟨ta31_1, tc31_1, rfl⟩, -⟩ := id hS31.b
    obtain ⟨⟨ta31_2, tc31_2, rfl⟩, -⟩ := id hS31.c
    obtain ⟨⟨ta31_3, tc31_3, rfl⟩, -⟩ := id hS31.d
    simp only [qz]
    refine rg_nil ?_
    refine ek_rt (((sk _ (sc _ (List.Sublist.append_left (sc _ (sc _ sn)) _))).trans (List.sublist_append_right _ _)).trans (List.sublist_append_right _ _)) ?_
    refine rt_hard1 (i := 6) (by kernel_rfl) rfl ?_
    apply (rg_made (T := fun v u => ∃ s0 s1 s2 s3, v = wdV ((Nm.turn m Nm.one).addR ⟨-1, 0, 0, 0, 0⟩) s0 s1 s2 s3 ∧ SU4 u ((Nm.turn m Nm.one).addR ⟨-1, 0, 0, 0, 0⟩) s0 s1 s2 s3)) (by rfl) (by kernel_rfl)
    case hargs => (simp only [qm, qs, Act.eval]; exact rfl)
    case h => exact fun w hw => wplus_any (Nm.turn m Nm.one) (⟨-1, 0, 0, 0, 0⟩ : Nm) _ _ _ _ _ _ _ _ (by rw [hk0, show max (0 : Int) ((⟨-1, 0, 0, 0, 0⟩ : Nm)).k = 0 from rfl, to_0 hk0]; exact (Nm.fit_mono ft (by decide))) (by rw [hk0]; exact (Nm.fit_mono fm (by decide))) (by omega) (by omega) (by decide) (by decide) w (hS30.at hw ((List.sublist_append_left _ _).trans (List.sublist_append_right _ _))) (hS31.at hw (List.sublist_append_left _ _))
    case hz => exact (fun _ h => by cases h; exact (((sk _ (sc _ (List.Sublist.append_left (sc _ (sc _ sn)) _))).trans (List.sublist_append_right _ _)).trans (List.sublist_append_right _ _)))
    rintro _ u32 ⟨t0, t1, t2, t3, rfl, hS32⟩
    obtain ⟨⟨ta32_0, tc32_0, rfl⟩, -⟩ := id hS32.a
    obtain ⟨⟨ta32_1, tc32_1, rfl⟩, -⟩ := id hS32.b
    obtain ⟨⟨ta32_2, tc32_2, rfl⟩, -⟩ := id hS32.c
    obtain ⟨⟨ta32_3, tc32_3, rfl⟩, -⟩ := id hS32.d
    simp only [qz]
    refine rg_nil ?_
    refine ek_rt ((((sk _ (sc _ (List.Sublist.append_left (sc _ (sc _ sn)) _))).trans (List.sublist_append_right _ _)).trans (List.sublist_append_right _ _)).trans (List.sublist_append_right _ _)) ?_
    refine rt_hard1 (i := 8) (by kernel_rfl) rfl ?_
    apply (rg_made (T := fun v u => ∃ s0 s1 s2 s3, v = wdV (barX m) s0 s1 s2 s3 ∧ SU4 u (barX m) s0 s1 s2 s3)) (by rfl) (by kernel_rfl)
    case hargs => (simp only [qm, qs, Act.eval]; exact rfl)
    case h => exact fun w hw => wtimes_any ((Nm.turn m Nm.one).addR ⟨-1, 0, 0, 0, 0⟩) (⟨1, 0, 0, 0, 2⟩ : Nm) _ _ _ _ _ _ _ _ (Nm.fit_mono fs (by decide)) (Nm.fit_mono fh (by decide)) (prodB_ok (Nm.fit_mono fs (by decide)) (Nm.fit_mono fh (by decide))) (by omega) (by omega) (by decide) (by decide) w (hS32.at hw (List.sublist_append_left _ _)) (hS3.at hw ((((List.Sublist.cons _ (List.Sublist.cons _ (List.sublist_append_left _ _))).trans (List.sublist_append_right _ _)).trans (List.sublist_append_right _ _)).trans (List.sublist_append_right _ _)))
    case hz => exact (fun _ h => by cases h; exact ((((sk _ (sc _ (List.Sublist.append_left (sc _ (sc _ sn)) _))).trans (List.sublist_append_right _ _)).trans (List.sublist_append_right _ _)).trans (List.sublist_append_right _ _)))
    rintro _ u33 ⟨t0, t1, t2, t3, rfl, hS33⟩
    obtain ⟨⟨ta33_0, tc33_0, rfl⟩, -⟩ := id hS33.a
    obtain ⟨⟨ta33_1, tc33_1, rfl⟩, -⟩ := id hS33.b
    obtain ⟨⟨ta33_2, tc33_2, rfl⟩, -⟩ := id hS33.c
    obtain ⟨⟨ta33_3, tc33_3, rfl⟩, -⟩ := id hS33.d
    simp only [qz]
    refine rg_nil ?_
    refine ek_rt (((((sk _ (sc _ (List.Sublist.append_left (sc _ (sc _ sn)) _))).trans (List.sublist_append_right _ _)).trans (List.sublist_append_right _ _)).trans (List.sublist_append_right _ _)).trans (List.sublist_append_right _ _)) ?_
    refine rt_hard1 (i := 10) (by kernel_rfl) rfl ?_
    refine rf_storeR (n := 9) rfl rfl (by kernel_rfl) rfl rfl (UpdR.app _ (UpdR.app _ (UpdR.app _ (UpdR.app _ (UpdR.here _ _ _ (Nat.le_of_ble_eq_true rfl)))))) (fun _ h => by cases h; exact (((((sk _ (sc _ (List.Sublist.append_left (sc _ (sc _ sn)) _))).trans (List.sublist_append_right _ _)).trans (List.sublist_append_right _ _)).trans (List.sublist_append_right _ _)).trans (List.sublist_append_right _ _))) ?_
    simp only [qz, Nat.reduceAdd]
    refine rg_nil ?_
    refine ek_rt (((((sk _ (sc _ (List.Sublist.append_left (sc _ (sc _ sn)) _))).trans (List.sublist_append_right _ _)).trans (List.sublist_append_right _ _)).trans (List.sublist_append_right _ _)).trans (List.sublist_append_right _ _)) ?_
    refine rt_nil (by kernel_rfl) ?_
    refine ek_next (wk_seq ?_)
    refine wk_draws_m (hz1 := (List.Sublist.append_left (List.Sublist.append_left (List.Sublist.append_left (List.Sublist.append_left (sc _ (sc _ (List.Sublist.append_left (sc _ (sk _ sn)) _))) _) _) _) _)) [(0, 0), (1, 0), (2, 1), (3, 1), (4, 2)] 4 (by kernel_rfl) (by kernel_rfl) (fun c d v a w h => by cases d <;> exact h) ?_
    simp only [List.map_cons, List.map_nil, List.getD_cons_zero, List.getD_cons_succ]
    refine rf_loadR (n := 9) rfl rfl rfl Try.underlying70 rfl (by kernel_rfl) (fun w hw => Kn.hd0 (Kn.tlU (Kn.tlU (Kn.tlU (Kn.tlU hw))))) rfl rfl ?_
    simp only [qz]
    refine rf_loadR (n := 9) rfl rfl rfl Try.underlying70 rfl (by kernel_rfl) (fun w hw => Kn.hd0 (Kn.tlU (Kn.tlU (Kn.tlU (Kn.tlU hw))))) rfl rfl ?_
    simp only [qz]
    apply rg_pure (by rfl) (by kernel_rfl)
    case hargs => (simp only [qm, qs, Act.eval]; exact rfl)
    case h => exact fun w hw => wconj_any (barX m) _ _ _ _ (Nm.fit_mono fx (by decide)) w (hS33.at hw (List.sublist_append_left _ _))
    case hz => exact (fun _ h => by cases h; exact (List.Sublist.append_left (List.Sublist.append_left (List.Sublist.append_left (List.Sublist.append_left (sc _ (sc _ (List.Sublist.append_left (sc _ (sc _ sn)) _))) _) _) _) _))
    simp only [qz]
    apply (rg_made (T := fun v u => ∃ s0 s1 s2 s3, v = wdV (barW m) s0 s1 s2 s3 ∧ SU4 u (barW m) s0 s1 s2 s3)) (by rfl) (by kernel_rfl)
    case hargs => (simp only [qm, qs, Act.eval]; exact rfl)
    case h => exact fun w hw => wtimes_any (barX m) (barX m).conj _ _ _ _ _ _ _ _ (Nm.fit_mono fx (by decide)) (Nm.fit_mono (conj_fitC fx) (by decide)) (prodB_ok (Nm.fit_mono fx (by decide)) (Nm.fit_mono (conj_fitC fx) (by decide))) (by omega) (by omega) (by show 0 ≤ (barX m).k; omega) (by show (barX m).k ≤ 10000; omega) w (hS33.at hw (List.sublist_append_left _ _)) (hS33.at hw (List.sublist_append_left _ _)).cj
    case hz => exact (fun _ h => by cases h; exact (List.Sublist.append_left (List.Sublist.append_left (List.Sublist.append_left (List.Sublist.append_left (sc _ (sc _ (List.Sublist.append_left (sc _ (sc _ sn)) _))) _) _) _) _))
    rintro _ u34 ⟨t0, t1, t2, t3, rfl, hS34⟩
    obtain ⟨⟨ta34_0, tc34_0, rfl⟩, -⟩ := id hS34.a
    obtain ⟨⟨ta34_1, tc34_1, rfl⟩, -⟩ := id hS34.b
    obtain ⟨⟨ta34_2, tc34_2, rfl⟩, -⟩ := id hS34.c
    obtain ⟨⟨ta34_3, tc34_3, rfl⟩, -⟩ := id hS34.d
    simp only [qz]
    refine rf_storeRM (n := 9) rfl rfl (by kernel_rfl) rfl rfl (UpdR.app _ (UpdR.app _ (UpdR.app _ (UpdR.app _ (UpdR.app _ (UpdR.there _ (UpdR.there _ (UpdR.app _ (UpdR.there _ (UpdR.here _ _ _ (Nat.le_of_ble_eq_true rfl))))))))))) ((List.Sublist.append_left (List.Sublist.append_left (List.Sublist.append_left (List.Sublist.append_left (sc _ (sc _ (List.Sublist.append_left (sc _ (sk _ sn)) _))) _) _) _) _).trans (List.sublist_append_right _ _)) ?_
    simp only [qz, Nat.reduceAdd]
    refine rg_nil (ek_next (wk_ret ?_))
    refine ek_ret (fun w hw => ⟨rfl, _, run_results1 rfl rfl (Kn.hd0 (Kn.tl (Kn.tlU (Kn.tl (Kn.tl (Kn.tlU (Kn.tlU (Kn.tlU (Kn.tlU (Kn.tlU hw)))))))))) Try.underlying70 rfl (by kernel_rfl), ?_⟩)
    (try simp only [qz])
    exact ⟨_, u34, rfl, ⟨_, _, _, _, rfl, hS34⟩, hw.made (List.sublist_append_left _ _)⟩
  refine rg_new (cs := ?_) (ty := ?_) (by rfl) (fun w => ?_) (fun _ h => by cases h; exact (sc _ (List.Sublist.append_left (sc _ (sc _ sn)) _))) (fun g35 => ?_); rotate_left 2
  focus (go_simp; rfl)
  simp only [qz]
  refine rg_nil ?_
  refine ek_rt (sk _ (sc _ (List.Sublist.append_left (sc _ (sc _ sn)) _))) ?_
  refine rt_hard1 (i := 0) (by kernel_rfl) rfl ?_
  apply rg_pure (by rfl) (by kernel_rfl)
  case hargs => (simp only [qm, qs, Act.eval]; exact rfl)
  case h => exact fun w hw => rOne_any w
  case hz => exact (fun _ h => by cases h; exact (sk _ (sc _ (List.Sublist.append_left (sc _ (sc _ sn)) _))))
  simp only [qz]
  refine rg_nil ?_
  refine ek_rt (sk _ (sc _ (List.Sublist.append_left (sc _ (sc _ sn)) _))) ?_
  refine rt_hard1 (i := 2) (by kernel_rfl) rfl ?_
  apply rg_pure (by rfl) (by kernel_rfl)
  case hargs => (simp only [qm, qs, Act.eval]; exact rfl)
  case h => exact fun w hw => rTurned_any Nm.one m one_ok (by omega) w
  case hz => exact (fun _ h => by cases h; exact (sk _ (sc _ (List.Sublist.append_left (sc _ (sc _ sn)) _))))
  simp only [qz]
  refine rg_nil ?_
  refine ek_rt (sk _ (sc _ (List.Sublist.append_left (sc _ (sc _ sn)) _))) ?_
  refine rt_hard1 (i := 3) (by kernel_rfl) rfl ?_
  apply (rg_made (T := fun v u => ∃ s0 s1 s2 s3, v = wdV (Nm.turn m Nm.one) s0 s1 s2 s3 ∧ SU4 u (Nm.turn m Nm.one) s0 s1 s2 s3)) (by rfl) (by kernel_rfl)
  case hargs => (simp only [qm, qs, Act.eval]; exact rfl)
  case h => exact fun w hw => wideOf_any (Nm.turn m Nm.one) (Nm.fit_mono ft (by decide)) w
  case hz => exact (fun _ h => by cases h; exact (sk _ (sc _ (List.Sublist.append_left (sc _ (sc _ sn)) _))))
  rintro _ u36 ⟨t0, t1, t2, t3, rfl, hS36⟩
  obtain ⟨⟨ta36_0, tc36_0, rfl⟩, -⟩ := id hS36.a
  obtain ⟨⟨ta36_1, tc36_1, rfl⟩, -⟩ := id hS36.b
  obtain ⟨⟨ta36_2, tc36_2, rfl⟩, -⟩ := id hS36.c
  obtain ⟨⟨ta36_3, tc36_3, rfl⟩, -⟩ := id hS36.d
  simp only [qz]
  refine rg_nil ?_
  refine ek_rt ((sk _ (sc _ (List.Sublist.append_left (sc _ (sc _ sn)) _))).trans (List.sublist_append_right _ _)) ?_
  refine rt_hard1 (i := 5) (by kernel_rfl) rfl ?_
  apply (rg_made (T := fun v u => ∃ s0 s1 s2 s3, v = wdV ((⟨-1, 0, 0, 0, 0⟩ : Nm)) s0 s1 s2 s3 ∧ SU4 u ((⟨-1, 0, 0, 0, 0⟩ : Nm)) s0 s1 s2 s3)) (by rfl) (by kernel_rfl)
  case hargs => (simp only [qm, qs, Act.eval]; exact rfl)
  case h => exact fun w hw => wideOf_any ((⟨-1, 0, 0, 0, 0⟩ : Nm)) (Nm.fit_mono fm (by decide)) w
  case hz => exact (fun _ h => by cases h; exact ((sk _ (sc _ (List.Sublist.append_left (sc _ (sc _ sn)) _))).trans (List.sublist_append_right _ _)))
  rintro _ u37 ⟨t0, t1, t2, t3, rfl, hS37⟩
  obtain ⟨⟨ta37_0, tc37_0, rfl⟩, -⟩ := id hS37.a
  obtain ⟨⟨ta37_1, tc37_1, rfl⟩, -⟩ := id hS37.b
  obtain ⟨⟨ta37_2, tc37_2, rfl⟩, -⟩ := id hS37.c
  obtain ⟨⟨ta37_3, tc37_3, rfl⟩, -⟩ := id hS37.d
  simp only [qz]
  refine rg_nil ?_
  refine ek_rt (((sk _ (sc _ (List.Sublist.append_left (sc _ (sc _ sn)) _))).trans (List.sublist_append_right _ _)).trans (List.sublist_append_right _ _)) ?_
  refine rt_hard1 (i := 6) (by kernel_rfl) rfl ?_
  apply (rg_made (T := fun v u => ∃ s0 s1 s2 s3, v = wdV ((Nm.turn m Nm.one).addR ⟨-1, 0, 0, 0, 0⟩) s0 s1 s2 s3 ∧ SU4 u ((Nm.turn m Nm.one).addR ⟨-1, 0, 0, 0, 0⟩) s0 s1 s2 s3)) (by rfl) (by kernel_rfl)
  case hargs => (simp only [qm, qs, Act.eval]; exact rfl)
  case h => exact fun w hw => wplus_any (Nm.turn m Nm.one) (⟨-1, 0, 0, 0, 0⟩ : Nm) _ _ _ _ _ _ _ _ (by rw [hk0, show max (0 : Int) ((⟨-1, 0, 0, 0, 0⟩ : Nm)).k = 0 from rfl, to_0 hk0]; exact (Nm.fit_mono ft (by decide))) (by rw [hk0]; exact (Nm.fit_mono fm (by decide))) (by omega) (by omega) (by decide) (by decide) w (hS36.at hw ((List.sublist_append_left _ _).trans (List.sublist_append_right _ _))) (hS37.at hw (List.sublist_append_left _ _))
  case hz => exact (fun _ h => by cases h; exact (((sk _ (sc _ (List.Sublist.append_left (sc _ (sc _ sn)) _))).trans (List.sublist_append_right _ _)).trans (List.sublist_append_right _ _)))
  rintro _ u38 ⟨t0, t1, t2, t3, rfl, hS38⟩
  obtain ⟨⟨ta38_0, tc38_0, rfl⟩, -⟩ := id hS38.a
  obtain ⟨⟨ta38_1, tc38_1, rfl⟩, -⟩ := id hS38.b
  obtain ⟨⟨ta38_2, tc38_2, rfl⟩, -⟩ := id hS38.c
  obtain ⟨⟨ta38_3, tc38_3, rfl⟩, -⟩ := id hS38.d
  simp only [qz]
  refine rg_nil ?_
  refine ek_rt ((((sk _ (sc _ (List.Sublist.append_left (sc _ (sc _ sn)) _))).trans (List.sublist_append_right _ _)).trans (List.sublist_append_right _ _)).trans (List.sublist_append_right _ _)) ?_
  refine rt_hard1 (i := 8) (by kernel_rfl) rfl ?_
  apply (rg_made (T := fun v u => ∃ s0 s1 s2 s3, v = wdV (barX m) s0 s1 s2 s3 ∧ SU4 u (barX m) s0 s1 s2 s3)) (by rfl) (by kernel_rfl)
  case hargs => (simp only [qm, qs, Act.eval]; exact rfl)
  case h => exact fun w hw => wtimes_any ((Nm.turn m Nm.one).addR ⟨-1, 0, 0, 0, 0⟩) (⟨1, 0, 0, 0, 2⟩ : Nm) _ _ _ _ _ _ _ _ (Nm.fit_mono fs (by decide)) (Nm.fit_mono fh (by decide)) (prodB_ok (Nm.fit_mono fs (by decide)) (Nm.fit_mono fh (by decide))) (by omega) (by omega) (by decide) (by decide) w (hS38.at hw (List.sublist_append_left _ _)) (hS3.at hw ((((List.Sublist.cons _ (List.Sublist.cons _ (List.sublist_append_left _ _))).trans (List.sublist_append_right _ _)).trans (List.sublist_append_right _ _)).trans (List.sublist_append_right _ _)))
  case hz => exact (fun _ h => by cases h; exact ((((sk _ (sc _ (List.Sublist.append_left (sc _ (sc _ sn)) _))).trans (List.sublist_append_right _ _)).trans (List.sublist_append_right _ _)).trans (List.sublist_append_right _ _)))
  rintro _ u39 ⟨t0, t1, t2, t3, rfl, hS39⟩
  obtain ⟨⟨ta39_0, tc39_0, rfl⟩, -⟩ := id hS39.a
  obtain ⟨⟨ta39_1, tc39_1, rfl⟩, -⟩ := id hS39.b
  obtain ⟨⟨ta39_2, tc39_2, rfl⟩, -⟩ := id hS39.c
  obtain ⟨⟨ta39_3, tc39_3, rfl⟩, -⟩ := id hS39.d
  simp only [qz]
  refine rg_nil ?_
  refine ek_rt (((((sk _ (sc _ (List.Sublist.append_left (sc _ (sc _ sn)) _))).trans (List.sublist_append_right _ _)).trans (List.sublist_append_right _ _)).trans (List.sublist_append_right _ _)).trans (List.sublist_append_right _ _)) ?_
  refine rt_hard1 (i := 10) (by kernel_rfl) rfl ?_
  refine rf_storeR (n := 9) rfl rfl (by kernel_rfl) rfl rfl (UpdR.app _ (UpdR.app _ (UpdR.app _ (UpdR.app _ (UpdR.here _ _ _ (Nat.le_of_ble_eq_true rfl)))))) (fun _ h => by cases h; exact (((((sk _ (sc _ (List.Sublist.append_left (sc _ (sc _ sn)) _))).trans (List.sublist_append_right _ _)).trans (List.sublist_append_right _ _)).trans (List.sublist_append_right _ _)).trans (List.sublist_append_right _ _))) ?_
  simp only [qz, Nat.reduceAdd]
  refine rg_nil ?_
  refine ek_rt (((((sk _ (sc _ (List.Sublist.append_left (sc _ (sc _ sn)) _))).trans (List.sublist_append_right _ _)).trans (List.sublist_append_right _ _)).trans (List.sublist_append_right _ _)).trans (List.sublist_append_right _ _)) ?_
  refine rt_nil (by kernel_rfl) ?_
  refine ek_next (wk_seq ?_)
  refine wk_draws_m (hz1 := (List.Sublist.append_left (List.Sublist.append_left (List.Sublist.append_left (List.Sublist.append_left (sc _ (sc _ (List.Sublist.append_left (sc _ (sk _ sn)) _))) _) _) _) _)) [(0, 0), (1, 0), (2, 1), (3, 1), (4, 2)] 4 (by kernel_rfl) (by kernel_rfl) (fun c d v a w h => by cases d <;> exact h) ?_
  simp only [List.map_cons, List.map_nil, List.getD_cons_zero, List.getD_cons_succ]
  refine rf_loadR (n := 9) rfl rfl rfl Try.underlying70 rfl (by kernel_rfl) (fun w hw => Kn.hd0 (Kn.tlU (Kn.tlU (Kn.tlU (Kn.tlU hw))))) rfl rfl ?_
  simp only [qz]
  refine rf_loadR (n := 9) rfl rfl rfl Try.underlying70 rfl (by kernel_rfl) (fun w hw => Kn.hd0 (Kn.tlU (Kn.tlU (Kn.tlU (Kn.tlU hw))))) rfl rfl ?_
  simp only [qz]
  apply rg_pure (by rfl) (by kernel_rfl)
  case hargs => (simp only [qm, qs, Act.eval]; exact rfl)
  case h => exact fun w hw => wconj_any (barX m) _ _ _ _ (Nm.fit_mono fx (by decide)) w (hS39.at hw (List.sublist_append_left _ _))
  case hz => exact (fun _ h => by cases h; exact (List.Sublist.append_left (List.Sublist.append_left (List.Sublist.append_left (List.Sublist.append_left (sc _ (sc _ (List.Sublist.append_left (sc _ (sc _ sn)) _))) _) _) _) _))
  simp only [qz]
  apply (rg_made (T := fun v u => ∃ s0 s1 s2 s3, v = wdV (barW m) s0 s1 s2 s3 ∧ SU4 u (barW m) s0 s1 s2 s3)) (by rfl) (by kernel_rfl)
  case hargs => (simp only [qm, qs, Act.eval]; exact rfl)
  case h => exact fun w hw => wtimes_any (barX m) (barX m).conj _ _ _ _ _ _ _ _ (Nm.fit_mono fx (by decide)) (Nm.fit_mono (conj_fitC fx) (by decide)) (prodB_ok (Nm.fit_mono fx (by decide)) (Nm.fit_mono (conj_fitC fx) (by decide))) (by omega) (by omega) (by show 0 ≤ (barX m).k; omega) (by show (barX m).k ≤ 10000; omega) w (hS39.at hw (List.sublist_append_left _ _)) (hS39.at hw (List.sublist_append_left _ _)).cj
  case hz => exact (fun _ h => by cases h; exact (List.Sublist.append_left (List.Sublist.append_left (List.Sublist.append_left (List.Sublist.append_left (sc _ (sc _ (List.Sublist.append_left (sc _ (sc _ sn)) _))) _) _) _) _))
  rintro _ u40 ⟨t0, t1, t2, t3, rfl, hS40⟩
  obtain ⟨⟨ta40_0, tc40_0, rfl⟩, -⟩ := id hS40.a
  obtain ⟨⟨ta40_1, tc40_1, rfl⟩, -⟩ := id hS40.b
  obtain ⟨⟨ta40_2, tc40_2, rfl⟩, -⟩ := id hS40.c
  obtain ⟨⟨ta40_3, tc40_3, rfl⟩, -⟩ := id hS40.d
  simp only [qz]
  refine rf_storeRM (n := 9) rfl rfl (by kernel_rfl) rfl rfl (UpdR.app _ (UpdR.app _ (UpdR.app _ (UpdR.app _ (UpdR.app _ (UpdR.there _ (UpdR.there _ (UpdR.app _ (UpdR.there _ (UpdR.here _ _ _ (Nat.le_of_ble_eq_true rfl))))))))))) ((List.Sublist.append_left (List.Sublist.append_left (List.Sublist.append_left (List.Sublist.append_left (sc _ (sc _ (List.Sublist.append_left (sc _ (sk _ sn)) _))) _) _) _) _).trans (List.sublist_append_right _ _)) ?_
  simp only [qz, Nat.reduceAdd]
  refine rg_nil (ek_next (wk_ret ?_))
  refine ek_ret (fun w hw => ⟨rfl, _, run_results1 rfl rfl (Kn.hd0 (Kn.tl (Kn.tlU (Kn.tl (Kn.tl (Kn.tlU (Kn.tlU (Kn.tlU (Kn.tlU (Kn.tlU hw)))))))))) Try.underlying70 rfl (by kernel_rfl), ?_⟩)
  (try simp only [qz])
  exact ⟨_, u40, rfl, ⟨_, _, _, _, rfl, hS40⟩, hw.made (List.sublist_append_left _ _)⟩

set_option maxRecDepth 100000 in
set_option maxHeartbeats 1000000 in
theorem rbar_any (n : Int) (w : World) : Calls Try.prog 28 #[.int .i64 n] w fun e w' => e = .returned (numV (barR n)) ∧ Below w.heap.size w w' := by
  go_enter Try.func28, Try.ntmps28
  refine wk_start ?_
  refine wk_seq ?_
  refine wk_region [1, 0] rfl (by kernel_rfl) ?_
  simp only [qy]
  refine rg_new (cs := ?_) (ty := ?_) (by rfl) (fun w => ?_) (fun _ h => by cases h) (fun g1 => ?_); rotate_left 2
  focus (go_simp; rfl)
  simp only [qz]
  refine rg_assign ?_
  simp only [qz]
  refine rg_nil (ek_next (wk_seq (wk_seq ?_)))
  refine wk_region [0, 0, 0, 0, 0, 0] rfl (by kernel_rfl) ?_
  simp only [qy]
  refine rg_move ?_
  simp only [qz]
  refine rfb_lss rfl rfl rfl rfl ?_
  intro x h1
  cases x
  · (try simp only [qd, ne_eq] at h1)
    simp only [qz]
    refine rg_move ?_
    simp only [qz]
    apply rg_soft_g
    case hg => rfl
    case hy => (intro w hw; go_simp; (try go_bits); exact Yld.mk _ _)
    simp only [qz]
    refine rfb_gtr rfl rfl rfl rfl ?_
    intro x h2
    cases x
    · (try simp only [qd, ne_eq] at h2)
      simp only [qz]
      refine rf_pick rfl rfl rfl ?_
      simp only [qz]
      refine rg_nil (ek_next (wk_cond_f rfl (wk_skip (ek_next (wk_seq ?_)))))
      refine wk_region [0, 1, 1, 0, 0, 0, 1, 1, 0] rfl (by kernel_rfl) ?_
      simp only [qy]
      refine rg_move ?_
      simp only [qz]
      obtain ⟨m, rfl⟩ : ∃ m : Nat, n = m := ⟨n.toNat, by omega⟩
      have hm7 : m ≤ 7 := by omega
      obtain ⟨hft, -, -, -, hk3⟩ := bar_fit m hm7
      simp only [Bool.and_eq_true] at hft
      have fb := fitC_fit hft.2.2.2
      clear hft
      apply (rg_made (T := fun v u => ∃ s0 s1 s2 s3, v = wdV (barW m) s0 s1 s2 s3 ∧ SU4 u (barW m) s0 s1 s2 s3)) (by rfl) (by kernel_rfl)
      case hargs => (simp only [qm, qs, Act.eval]; exact rfl)
      case h => exact fun w hw => rbarw_any m hm7 w
      case hz => exact (fun _ h => by cases h)
      rintro _ u2 ⟨t0, t1, t2, t3, rfl, hS2⟩
      obtain ⟨⟨ta2_0, tc2_0, rfl⟩, -⟩ := id hS2.a
      obtain ⟨⟨ta2_1, tc2_1, rfl⟩, -⟩ := id hS2.b
      obtain ⟨⟨ta2_2, tc2_2, rfl⟩, -⟩ := id hS2.c
      obtain ⟨⟨ta2_3, tc2_3, rfl⟩, -⟩ := id hS2.d
      simp only [qz]
      apply rg_pure (by rfl) (by kernel_rfl)
      case hargs => (simp only [qm, qs, Act.eval]; exact rfl)
      case h => exact fun w hw => wnum_any (barW m) _ _ _ _ (Nm.fit_mono fb (by decide)) (by omega) (by omega) w (hS2.at hw (List.sublist_append_left _ _))
      case hz => exact (fun _ h => by cases h)
      simp only [qz]
      refine rg_move ?_
      simp only [qz]
      refine rf_extract rfl rfl rfl rfl ?_
      simp only [qz]
      refine rf_extract rfl rfl rfl rfl ?_
      simp only [qz]
      refine rg_new (cs := ?_) (ty := ?_) (by rfl) (fun w => ?_) (fun _ h => by cases h) (fun g3 => ?_); rotate_left 2
      focus (go_simp; rfl)
      simp only [qz]
      refine rf_storeR (n := 5) rfl rfl (by kernel_rfl) rfl rfl (UpdR.here _ _ _ (Nat.le_of_ble_eq_true rfl)) (fun _ h => by cases h) ?_
      simp only [qz, Nat.reduceAdd]
      refine rg_assign ?_
      simp only [qz]
      refine rg_nil (ek_next (wk_seq ?_))
      refine wk_region [0, 1, 0] rfl (by kernel_rfl) ?_
      simp only [qy]
      refine rf_loadR (n := 5) rfl rfl rfl Try.underlying45 rfl (by kernel_rfl) (fun w hw => Kn.hd0 hw) rfl rfl ?_
      simp only [qz]
      refine rf_storeR (n := 5) rfl rfl (by kernel_rfl) rfl rfl (UpdR.there _ (UpdR.app _ (UpdR.here _ _ _ (Nat.le_of_ble_eq_true rfl)))) (fun _ h => by cases h) ?_
      simp only [qz, Nat.reduceAdd]
      refine rg_assign ?_
      simp only [qz]
      refine rg_nil (ek_next (wk_ret ?_))
      refine ek_ret (fun w hw => ⟨rfl, _, run_results2 rfl rfl (Kn.hd0 (Kn.tlU (Kn.tl hw))) Try.underlying45 rfl (by kernel_rfl), ?_⟩)
      (try simp only [qz])
      exact ⟨by unfold barR; rw [if_pos (by omega), Int.toNat_natCast]; rfl, hw.below⟩
    (try simp only [qd, ne_eq] at h2)
    simp only [qz]
    refine rf_pick rfl rfl rfl ?_
    simp only [qz]
    refine rg_nil (ek_next (wk_cond_t rfl (wk_seq ?_)))
    refine wk_region [0, 1, 0] rfl (by kernel_rfl) ?_
    simp only [qy]
    refine rf_build (cs := fun a => #[.int .i64 0, .int .i64 0, .int .i64 0, .int .i64 0, .int .i64 0]) rfl rfl (by kernel_rfl) ?_
    simp only [qz]
    refine rf_storeR (n := 5) rfl rfl (by kernel_rfl) rfl rfl (UpdR.here _ _ _ (Nat.le_of_ble_eq_true rfl)) (fun _ h => by cases h) ?_
    simp only [qz, Nat.reduceAdd]
    refine rg_assign ?_
    simp only [qz]
    refine rg_nil (ek_next (wk_ret (ek_then_ret ?_)))
    refine ek_ret (fun w hw => ⟨rfl, _, run_results2 rfl rfl (Kn.hd0 hw) Try.underlying45 rfl (by kernel_rfl), ?_⟩)
    (try simp only [qz])
    exact ⟨by unfold barR; rw [if_neg (by omega)]; rfl, hw.below⟩
  (try simp only [qd, ne_eq] at h1)
  simp only [qz]
  refine rg_move ?_
  simp only [qz]
  refine rg_skip (by rfl) ?_
  simp only [qz]
  refine rg_skip (by rfl) ?_
  simp only [qz]
  refine rf_pick rfl rfl rfl ?_
  simp only [qz]
  refine rg_nil (ek_next (wk_cond_t rfl (wk_seq ?_)))
  refine wk_region [0, 1, 0] rfl (by kernel_rfl) ?_
  simp only [qy]
  refine rf_build (cs := fun a => #[.int .i64 0, .int .i64 0, .int .i64 0, .int .i64 0, .int .i64 0]) rfl rfl (by kernel_rfl) ?_
  simp only [qz]
  refine rf_storeR (n := 5) rfl rfl (by kernel_rfl) rfl rfl (UpdR.here _ _ _ (Nat.le_of_ble_eq_true rfl)) (fun _ h => by cases h) ?_
  simp only [qz, Nat.reduceAdd]
  refine rg_assign ?_
  simp only [qz]
  refine rg_nil (ek_next (wk_ret (ek_then_ret ?_)))
  refine ek_ret (fun w hw => ⟨rfl, _, run_results2 rfl rfl (Kn.hd0 hw) Try.underlying45 rfl (by kernel_rfl), ?_⟩)
  (try simp only [qz])
  exact ⟨by unfold barR; rw [if_neg (by omega)]; rfl, hw.below⟩

end Go.Proofs.Ytccbinnlnkpplaa
namespace Go.Proofs.Ytccbinnlnkpplaa
set_option linter.all false
open Go.RowKit

theorem swL_len (k n : Int) : (swL k n).length ≤ 3 := by
  unfold swL swI
  split
  · split <;> simp
  simp
set_option maxRecDepth 100000 in
set_option maxHeartbeats 1000000 in
theorem synthSwitches_any (k n : Int) (w : World) : Calls Try.prog 6 #[.int .i64 k, .int .i64 n] w fun e w' => e = .returned (.bool true) ∧ Below w.heap.size w w' := by
  go_enter Try.func6, Try.ntmps6
  refine wk_start ?_
  refine wk_seq ?_
  refine wk_region [0] rfl (by kernel_rfl) ?_
  simp only [qy]
  refine rg_assign ?_
  simp only [qz]
  refine rg_nil (ek_next (wk_seq ?_))
  refine wk_region [0, 0, 1, 0, 0, 0, 0, 0] rfl (by kernel_rfl) ?_
  simp only [qy]
  refine rg_move ?_
  simp only [qz]
  refine rg_move ?_
  simp only [qz]
  apply rg_retS (by rfl) (by kernel_rfl)
  case hargs => (simp only [qm, qs, Act.eval]; exact rfl)
  case h => exact fun w hw => mswitch_any k n w
  case hz => exact (fun _ h => by cases h)
  intro va1 vc1 u1 hO1
  simp only [qz]
  refine rg_move ?_
  simp only [qz]
  refine rf_extract rfl rfl rfl rfl ?_
  simp only [qz]
  refine rf_extract rfl rfl rfl rfl ?_
  simp only [qz]
  refine rg_assign ?_
  simp only [qz]
  refine rg_assign ?_
  simp only [qz]
  refine rg_nil (ek_next (wk_seq ?_))
  refine wk_region [0, 0, 1, 0, 0, 0, 0, 0] rfl (by kernel_rfl) ?_
  simp only [qy]
  refine rg_move ?_
  simp only [qz]
  refine rg_move ?_
  simp only [qz]
  apply rg_retS (by rfl) (by kernel_rfl)
  case hargs => (simp only [qm, qs, Act.eval]; exact rfl)
  case h => exact fun w hw => rswitch_any k n w
  case hz => exact (fun _ h => by cases h)
  intro va2 vc2 u2 hO2
  simp only [qz]
  refine rg_move ?_
  simp only [qz]
  refine rf_extract rfl rfl rfl rfl ?_
  simp only [qz]
  refine rf_extract rfl rfl rfl rfl ?_
  simp only [qz]
  refine rg_assign ?_
  simp only [qz]
  refine rg_assign ?_
  simp only [qz]
  refine rg_nil (ek_next (wk_seq ?_))
  refine wk_region [0, 1, 0, 0, 0, 1, 1, 0] rfl (by kernel_rfl) ?_
  simp only [qy]
  refine rg_move ?_
  simp only [qz]
  apply rg_pure (by rfl) (by kernel_rfl)
  case hargs => (simp only [qm, qs, Act.eval]; exact rfl)
  case h => exact fun w hw => mbar_any n w
  case hz => exact (fun _ h => by cases h)
  simp only [qz]
  obtain ⟨zl, el, hve⟩ := numV_ve2 (barR n)
  rw [hve]
  replace hve := Lib.hid hve
  refine rg_move ?_
  simp only [qz]
  refine rf_extract rfl rfl rfl rfl ?_
  simp only [qz]
  refine rf_extract rfl rfl rfl rfl ?_
  simp only [qz]
  refine rg_new (cs := ?_) (ty := ?_) (by rfl) (fun w => ?_) (fun _ h => by cases h) (fun g3 => ?_); rotate_left 2
  focus (go_simp; rfl)
  simp only [qz]
  refine rf_storeR (n := 5) rfl rfl (by kernel_rfl) rfl rfl (UpdR.here _ _ _ (Nat.le_of_ble_eq_true rfl)) (fun _ h => by cases h) ?_
  simp only [qz, Nat.reduceAdd]
  refine rg_assign ?_
  simp only [qz]
  refine rg_nil (ek_next (wk_seq ?_))
  refine wk_region [0, 1, 0, 0, 0, 1, 1, 0] rfl (by kernel_rfl) ?_
  simp only [qy]
  refine rg_move ?_
  simp only [qz]
  apply rg_pure (by rfl) (by kernel_rfl)
  case hargs => (simp only [qm, qs, Act.eval]; exact rfl)
  case h => exact fun w hw => rbar_any n w
  case hz => exact (fun _ h => by cases h)
  simp only [qz]
  rw [hve.out]
  refine rg_move ?_
  simp only [qz]
  refine rf_extract rfl rfl rfl rfl ?_
  simp only [qz]
  refine rf_extract rfl rfl rfl rfl ?_
  simp only [qz]
  refine rg_new (cs := ?_) (ty := ?_) (by rfl) (fun w => ?_) (fun _ h => by cases h) (fun g4 => ?_); rotate_left 2
  focus (go_simp; rfl)
  simp only [qz]
  refine rf_storeR (n := 5) rfl rfl (by kernel_rfl) rfl rfl (UpdR.here _ _ _ (Nat.le_of_ble_eq_true rfl)) (fun _ h => by cases h) ?_
  simp only [qz, Nat.reduceAdd]
  refine rg_assign ?_
  simp only [qz]
  refine rg_nil (ek_next (wk_seq ?_))
  refine wk_region [0, 0, 1, 0, 0, 0, 0, 0, 0, 0, 0, 0, 0, 0, 0, 0, 0, 0, 0, 1, 0, 0] rfl (by kernel_rfl) ?_
  simp only [qy]
  refine rg_move ?_
  simp only [qz]
  refine rg_move ?_
  simp only [qz]
  apply rg_pure (by rfl) (by kernel_rfl)
  case hargs => (simp only [qm, qs, Act.eval]; exact rfl)
  case h => exact fun w hw => sameItems_eq _ _ _ _ _ (by have := swL_len k n; omega) w (hO1.asT (hw.perm ((((((((List.Perm.refl _).append_left _).trans (List.perm_append_comm_assoc u2 u1 _)).cons _).trans (List.perm_middle (l₁ := u1)).symm).cons _).trans (List.perm_middle (l₁ := u1)).symm).trans ((List.Perm.refl _).append_left _)))) (hO2.asT (hw.perm (perm_atU (l := [_, _]) (u := u2) (List.Perm.refl _))))
  case hz => exact (fun _ h => by cases h)
  simp only [qz]
  refine rg_move ?_
  simp only [qz]
  apply rg_soft_g
  case hg => rfl
  case hy => (intro w hw; go_simp; (try go_bits); exact Yld.mk _ _)
  simp only [qz]
  apply rg_soft_g
  case hg => rfl
  case hy => (intro w hw; go_simp; (try go_bits); exact Yld.mk _ _)
  simp only [qz]
  refine rfb_eql rfl rfl rfl rfl ?_
  intro x h1
  obtain rfl : x = true := by (refine h1.symm.trans ?_; exact decide_eq_true (by omega))
  clear h1
  simp only [qz]
  refine rf_pick rfl rfl rfl ?_
  simp only [qz]
  refine rg_move ?_
  simp only [qz]
  refine rf_loadR (n := 5) rfl rfl rfl Try.underlying45 rfl (by kernel_rfl) (fun w hw => Kn.hd0 (Kn.tl hw)) rfl rfl ?_
  simp only [qz]
  refine rf_loadR (n := 5) rfl rfl rfl Try.underlying45 rfl (by kernel_rfl) (fun w hw => Kn.hd0 hw) rfl rfl ?_
  simp only [qz]
  refine rf_eqN (u := zl) (v := zl) rfl rfl rfl rfl ?_
  rw [decide_eq_true (rfl : zl = zl)]
  simp only [qz]
  refine rf_pick rfl rfl rfl ?_
  simp only [qz]
  refine rg_move ?_
  simp only [qz]
  apply rg_soft_g
  case hg => rfl
  case hy => (intro w hw; go_simp; (try go_bits); exact Yld.mk _ _)
  simp only [qz]
  apply rg_soft_g
  case hg => rfl
  case hy => (intro w hw; go_simp; (try go_bits); exact Yld.mk _ _)
  simp only [qz]
  refine rfb_eql rfl rfl rfl rfl ?_
  intro x h2
  obtain rfl : x = true := by (refine h2.symm.trans ?_; exact decide_eq_true (by omega))
  clear h2
  simp only [qz]
  refine rf_pick rfl rfl rfl ?_
  simp only [qz]
  refine rg_move ?_
  simp only [qz]
  apply rg_pure (by rfl) (by kernel_rfl)
  case hargs => (simp only [qm, qs, Act.eval]; exact rfl)
  case h => exact fun w hw => sane_any w
  case hz => exact (fun _ h => by cases h)
  simp only [qz]
  refine rf_pick rfl rfl rfl ?_
  simp only [qz]
  refine rg_assign ?_
  simp only [qz]
  refine rg_nil (ek_next (wk_ret ?_))
  refine ek_ret (fun w hw => ⟨rfl, _, res_t _ rfl, ?_⟩)
  (try simp only [qz])
  first | exact ⟨rfl, hw.below⟩ | exact ⟨trivial, hw.below⟩ | exact hw.below

end Go.Proofs.Ytccbinnlnkpplaa
