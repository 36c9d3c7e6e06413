/- Several texts in one. -/
import Derived.Test.YtjeijnjaleldkaaSq
import Derived.Test.YtjeijnjaleldkaaMgB
import Derived.Test.YtjeijnjaleldkaaXt
import Derived.Test.YtjeijnjaleldkaaRt
import Derived.Test.YtjeijnjaleldkaaWtP
import Derived.Test.YtjeijnjaleldkaaPt0
import Derived.Test.YtjeijnjaleldkaaMgA
import Derived.Test.YtjeijnjaleldkaaCh1
import Derived.Test.YtjeijnjaleldkaaMul64
import Derived.Test.YtjeijnjaleldkaaWs4
namespace Go.Proofs.Ytjeijnjaleldkaa
set_option linter.all false
open Go.RowKit

/-- Four numbers of any size; s0 .. s3: their digits. -/
abbrev arC (z : Nm) (s0 s1 s2 s3 : Value) : List Value := [.bool (decide (z.a < 0)), s0, .bool (decide (z.b < 0)), s1, .bool (decide (z.c < 0)), s2, .bool (decide (z.d < 0)), s3]
abbrev arV (z : Nm) (s0 s1 s2 s3 : Value) : Value := .agg #[.bool (decide (z.a < 0)), s0, .bool (decide (z.b < 0)), s1, .bool (decide (z.c < 0)), s2, .bool (decide (z.d < 0)), s3]
abbrev wdV (z : Nm) (s0 s1 s2 s3 : Value) : Value := .agg #[.bool (decide (z.a < 0)), s0, .bool (decide (z.b < 0)), s1, .bool (decide (z.c < 0)), s2, .bool (decide (z.d < 0)), s3, .int .i64 z.k]
structure SA4 (w : World) (z : Nm) (s0 s1 s2 s3 : Value) : Prop where
  a : SA w s0 z.a.natAbs
  b : SA w s1 z.b.natAbs
  c : SA w s2 z.c.natAbs
  d : SA w s3 z.d.natAbs
/-- The digits are those of the world at the call's begin, or lie in the blocks u. -/
def SK (B : World) (u : List Blk) (s : Value) (n : Nat) : Prop := (∃ a c, s = .slice a (digs n).length c) ∧ ∀ w, Kn B [] u w → SA w s n
structure SK4 (B : World) (u : List Blk) (z : Nm) (s0 s1 s2 s3 : Value) : Prop where
  a : SK B u s0 z.a.natAbs
  b : SK B u s1 z.b.natAbs
  c : SK B u s2 z.c.natAbs
  d : SK B u s3 z.d.natAbs
structure SU4 (u : List Blk) (z : Nm) (s0 s1 s2 s3 : Value) : Prop where
  a : SU u s0 z.a.natAbs
  b : SU u s1 z.b.natAbs
  c : SU u s2 z.c.natAbs
  d : SU u s3 z.d.natAbs
theorem SA.form {w : World} {s : Value} {n : Nat} (h : SA w s n) : ∃ a c, s = .slice a (digs n).length c := let ⟨a, c, e, _⟩ := h; ⟨a, c, e⟩
theorem SK.arg {B : World} {s : Value} {n : Nat} (h : SA B s n) : SK B [] s n := ⟨h.form, fun w K => h.kn K⟩
theorem SK.own {B : World} {u : List Blk} {s : Value} {n : Nat} (h : SU u s n) : SK B u s n := ⟨h.1, fun w K => h.2 B [] w K⟩
theorem SK.at {B w : World} {u s : List Blk} {v : Value} {n : Nat} (h : SK B u v n) (K : Kn B [] s w) (hs : u.Sublist s) : SA w v n := h.2 w (K.sub hs)
theorem SK4.arg {B : World} {z : Nm} {s0 s1 s2 s3 : Value} (h : SA4 B z s0 s1 s2 s3) : SK4 B [] z s0 s1 s2 s3 := ⟨.arg h.a, .arg h.b, .arg h.c, .arg h.d⟩
theorem SK4.own {B : World} {u : List Blk} {z : Nm} {s0 s1 s2 s3 : Value} (h : SU4 u z s0 s1 s2 s3) : SK4 B u z s0 s1 s2 s3 := ⟨.own h.a, .own h.b, .own h.c, .own h.d⟩
theorem SK4.at {B w : World} {u s : List Blk} {z : Nm} {s0 s1 s2 s3 : Value} (h : SK4 B u z s0 s1 s2 s3) (K : Kn B [] s w) (hs : u.Sublist s) : SA4 w z s0 s1 s2 s3 := ⟨h.a.at K hs, h.b.at K hs, h.c.at K hs, h.d.at K hs⟩
theorem SU4.mono {u v : List Blk} {z : Nm} {s0 s1 s2 s3 : Value} (h : SU4 u z s0 s1 s2 s3) (hs : u.Sublist v) : SU4 v z s0 s1 s2 s3 := ⟨h.a.mono hs, h.b.mono hs, h.c.mono hs, h.d.mono hs⟩
theorem SU4.at {u s : List Blk} {z : Nm} {s0 s1 s2 s3 : Value} {B w : World} {F : List Nat} (h : SU4 u z s0 s1 s2 s3) (K : Kn B F s w) (hs : u.Sublist s) : SA4 w z s0 s1 s2 s3 := ⟨h.a.at K hs, h.b.at K hs, h.c.at K hs, h.d.at K hs⟩
theorem SA4.kn {B w : World} {s : List Blk} {z : Nm} {s0 s1 s2 s3 : Value} (h : SA4 B z s0 s1 s2 s3) (K : Kn B [] s w) : SA4 w z s0 s1 s2 s3 := ⟨h.a.kn K, h.b.kn K, h.c.kn K, h.d.kn K⟩
/-- A call that hands back four numbers, an amplitude. -/
def RetA (w : World) (z : Nm) (e : Ending) (w' : World) : Prop := ∃ v u, e = .returned v ∧ (∃ s0 s1 s2 s3, v = arV z s0 s1 s2 s3 ∧ SU4 u z s0 s1 s2 s3) ∧ Made w u w'
def RetW (w : World) (z : Nm) (e : Ending) (w' : World) : Prop := ∃ v u, e = .returned v ∧ (∃ s0 s1 s2 s3, v = wdV z s0 s1 s2 s3 ∧ SU4 u z s0 s1 s2 s3) ∧ Made w u w'
theorem len_big {n : Int} (h0 : -39402006196394479212279040100143613805079739270465446667948293404245721771497210611414266254884915640806627990306816 < n) (h1 : n < 39402006196394479212279040100143613805079739270465446667948293404245721771497210611414266254884915640806627990306816) : (digs n.natAbs).length ≤ 1000 := by
  have : (digs n.natAbs).length ≤ 12 := digs_len_le (L := 12) (by
    show _ < (39402006196394479212279040100143613805079739270465446667948293404245721771497210611414266254884915640806627990306816 : Int)
    omega)
  omega
theorem fit_big {z : Nm} (h : z.Fit 9850501549098619803069760025035903451269934817616361666987073351061430442874302652853566563721228910201656997576704) : (digs z.a.natAbs).length ≤ 1000 ∧ (digs z.b.natAbs).length ≤ 1000 ∧ (digs z.c.natAbs).length ≤ 1000 ∧ (digs z.d.natAbs).length ≤ 1000 := by
  obtain ⟨h1, h2, h3, h4, h5, h6, h7, h8⟩ := h
  exact ⟨len_big Ox Ox, len_big Ox Ox, len_big Ox Ox, len_big Ox Ox⟩
end Go.Proofs.Ytjeijnjaleldkaa
namespace Go.Proofs.Ytjeijnjaleldkaa
set_option linter.all false
open Go.RowKit

set_option maxRecDepth 100000 in
set_option maxHeartbeats 1000000 in
theorem timesR_any (z : Nm) (s0 s1 s2 s3 : Value) (hz : z.Fit 9850501549098619803069760025035903451269934817616361666987073351061430442874302652853566563721228910201656997576704) (w : World) (hs : SA4 w z s0 s1 s2 s3) : Calls Try.prog 109 #[arV z s0 s1 s2 s3] w fun e w' => RetA w z.tr e w' := by
  obtain ⟨ha, hb, hc, hd⟩ := hs
  obtain ⟨la, lb, lc, ld⟩ := fit_big hz
  obtain ⟨⟨a0, c0, rfl⟩, ⟨a1, c1, rfl⟩, ⟨a2, c2, rfl⟩, ⟨a3, c3, rfl⟩⟩ := (⟨ha.form, hb.form, hc.form, hd.form⟩ : _ ∧ _ ∧ _ ∧ _)
  go_enter Try.func109, Try.ntmps109
  refine wk_start ?_
  refine wk_seq ?_
  refine wk_region [1, 1] rfl Kx ?_
  simp only [qy]
  refine Rgn fun g1 => ?_
  simp only [qz]
  refine Rgn fun g2 => ?_
  simp only [qz]
  refine rg_nil (ek_next (wk_seq ?_))
  refine wk_draws_m (hz1 := (sk _ (sc _ sn))) [(0, 0), (1, 0), (2, 0), (3, 0), (5, 0), (6, 0), (7, 0), (8, 0), (10, 0), (11, 0), (12, 0), (13, 0), (15, 0), (16, 0), (17, 0), (18, 0), (4, 1), (9, 1), (14, 1), (19, 1), (20, 0), (21, 2)] 21 Kx Kx (fun c d v a w h => by cases d <;> exact h) ?_
  simp only [List.map_cons, List.map_nil, List.getD_cons_zero, List.getD_cons_succ]
  refine rf_indexA (n := 1) (sz := 2) (j := 2) rfl rfl rfl rfl Try.underlying71 Kx (by decide) rfl ?_
  simp only [qz]
  refine rf_loadR (n := 2) rfl rfl rfl Try.underlying70 rfl Kx (fun w hw => Kn.hd0 (Kn.tl hw)) rfl rfl ?_
  simp only [qz]
  refine rf_indexA (n := 3) (sz := 2) (j := 6) rfl rfl rfl rfl Try.underlying71 Kx (by decide) rfl ?_
  simp only [qz]
  refine rf_loadR (n := 2) rfl rfl rfl Try.underlying70 rfl Kx (fun w hw => Kn.hd0 (Kn.tl hw)) rfl rfl ?_
  simp only [qz]
  refine rf_indexA (n := 0) (sz := 2) (j := 0) rfl rfl rfl rfl Try.underlying71 Kx (by decide) rfl ?_
  simp only [qz]
  refine rf_loadR (n := 2) rfl rfl rfl Try.underlying70 rfl Kx (fun w hw => Kn.hd0 (Kn.tl hw)) rfl rfl ?_
  simp only [qz]
  refine rf_indexA (n := 2) (sz := 2) (j := 4) rfl rfl rfl rfl Try.underlying71 Kx (by decide) rfl ?_
  simp only [qz]
  refine rf_loadR (n := 2) rfl rfl rfl Try.underlying70 rfl Kx (fun w hw => Kn.hd0 (Kn.tl hw)) rfl rfl ?_
  simp only [qz]
  refine rf_indexA (n := 1) (sz := 2) (j := 2) rfl rfl rfl rfl Try.underlying71 Kx (by decide) rfl ?_
  simp only [qz]
  refine rf_loadR (n := 2) rfl rfl rfl Try.underlying70 rfl Kx (fun w hw => Kn.hd0 (Kn.tl hw)) rfl rfl ?_
  simp only [qz]
  refine rf_indexA (n := 3) (sz := 2) (j := 6) rfl rfl rfl rfl Try.underlying71 Kx (by decide) rfl ?_
  simp only [qz]
  refine rf_loadR (n := 2) rfl rfl rfl Try.underlying70 rfl Kx (fun w hw => Kn.hd0 (Kn.tl hw)) rfl rfl ?_
  simp only [qz]
  refine rf_indexA (n := 2) (sz := 2) (j := 4) rfl rfl rfl rfl Try.underlying71 Kx (by decide) rfl ?_
  simp only [qz]
  refine rf_loadR (n := 2) rfl rfl rfl Try.underlying70 rfl Kx (fun w hw => Kn.hd0 (Kn.tl hw)) rfl rfl ?_
  simp only [qz]
  refine rf_indexA (n := 0) (sz := 2) (j := 0) rfl rfl rfl rfl Try.underlying71 Kx (by decide) rfl ?_
  simp only [qz]
  refine rf_loadR (n := 2) rfl rfl rfl Try.underlying70 rfl Kx (fun w hw => Kn.hd0 (Kn.tl hw)) rfl rfl ?_
  simp only [qz]
  apply (rg_made (T := fun v u => ∃ s, v = bgV (z.b - z.d) s ∧ SU u s (z.b - z.d).natAbs)) Rx Kx
  case hargs => exact Ax
  case h => exact fun w hw => bsub_any z.b z.d _ _ lb ld w (hb.kn hw) (hd.kn hw)
  case hz => exact (fun _ h => by cases h; exact (sc _ (sc _ sn)))
  rintro _ u3 ⟨s3, rfl, hS3⟩
  obtain ⟨⟨sa3, sc3, rfl⟩, -⟩ := id hS3
  simp only [qz]
  apply (rg_made (T := fun v u => ∃ s, v = bgV (z.a + z.c) s ∧ SU u s (z.a + z.c).natAbs)) Rx Kx
  case hargs => exact Ax
  case h => exact fun w hw => badd_any z.a z.c _ _ la lc w (ha.kn hw) (hc.kn hw)
  case hz => exact (fun _ h => by cases h; exact ((sc _ (sc _ sn)).trans (List.sublist_append_right _ _)))
  rintro _ u4 ⟨s4, rfl, hS4⟩
  obtain ⟨⟨sa4, sc4, rfl⟩, -⟩ := id hS4
  simp only [qz]
  apply (rg_made (T := fun v u => ∃ s, v = bgV (z.b + z.d) s ∧ SU u s (z.b + z.d).natAbs)) Rx Kx
  case hargs => exact Ax
  case h => exact fun w hw => badd_any z.b z.d _ _ lb ld w (hb.kn hw) (hd.kn hw)
  case hz => exact (fun _ h => by cases h; exact (((sc _ (sc _ sn)).trans (List.sublist_append_right _ _)).trans (List.sublist_append_right _ _)))
  rintro _ u5 ⟨s5, rfl, hS5⟩
  obtain ⟨⟨sa5, sc5, rfl⟩, -⟩ := id hS5
  simp only [qz]
  apply (rg_made (T := fun v u => ∃ s, v = bgV (z.c - z.a) s ∧ SU u s (z.c - z.a).natAbs)) Rx Kx
  case hargs => exact Ax
  case h => exact fun w hw => bsub_any z.c z.a _ _ lc la w (hc.kn hw) (ha.kn hw)
  case hz => exact (fun _ h => by cases h; exact ((((sc _ (sc _ sn)).trans (List.sublist_append_right _ _)).trans (List.sublist_append_right _ _)).trans (List.sublist_append_right _ _)))
  rintro _ u6 ⟨s6, rfl, hS6⟩
  obtain ⟨⟨sa6, sc6, rfl⟩, -⟩ := id hS6
  simp only [qz]
  refine rf_build (cs := fun a => #[cellAt (a.eval (.tmp 7)) 0, cellAt (a.eval (.tmp 7)) 1, cellAt (a.eval (.tmp 12)) 0, cellAt (a.eval (.tmp 12)) 1, cellAt (a.eval (.tmp 17)) 0, cellAt (a.eval (.tmp 17)) 1, cellAt (a.eval (.tmp 22)) 0, cellAt (a.eval (.tmp 22)) 1]) rfl rfl Kx ?_
  simp only [qz]
  refine rf_storeRM (n := 8) rfl rfl Kx rfl rfl (UpdR.app _ (UpdR.app _ (UpdR.app _ (UpdR.app _ (UpdR.here _ _ _ Nl))))) (((((sk _ (sc _ sn)).trans (List.sublist_append_right _ _)).trans (List.sublist_append_right _ _)).trans (List.sublist_append_right _ _)).trans (List.sublist_append_right _ _)) ?_
  simp only [qz, Nat.reduceAdd]
  refine rg_nil (ek_next (wk_ret ?_))
  refine ek_ret (fun w hw => ⟨rfl, _, run_results1 rfl rfl (Kn.hd0 (Kn.tlU (Kn.tlU (Kn.tlU (Kn.tlU hw))))) Try.underlying71 rfl Kx, ?_⟩)
  (try simp only [qz])
  exact ⟨_, (u6 ++ (u5 ++ (u4 ++ u3))), rfl, ⟨_, _, _, _, rfl, ⟨(hS3.mono ((((List.Sublist.refl _).trans (List.sublist_append_right _ _)).trans (List.sublist_append_right _ _)).trans (List.sublist_append_right _ _))), (hS4.mono (((List.sublist_append_left _ _).trans (List.sublist_append_right _ _)).trans (List.sublist_append_right _ _))), (hS5.mono ((List.sublist_append_left _ _).trans (List.sublist_append_right _ _))), (hS6.mono (List.sublist_append_left _ _))⟩⟩, hw.made (List.Sublist.append_left (List.Sublist.append_left (List.Sublist.append_left (List.sublist_append_left _ _) _) _) _)⟩

set_option maxRecDepth 100000 in
set_option maxHeartbeats 1000000 in
theorem wideOf_any (z : Nm) (hz : z.Fit 4611686018427387903) (w : World) : Calls Try.prog 59 #[nmV z] w fun e w' => RetW w z e w' := by
  obtain ⟨fa0, fa1, fb0, fb1, fc0, fc1, fd0, fd1⟩ := id hz
  go_enter Try.func59, Try.ntmps59
  refine wk_start ?_
  refine wk_seq ?_
  refine wk_region [1, 1] rfl Kx ?_
  simp only [qy]
  refine Rgn fun g1 => ?_
  simp only [qz]
  refine Rgn fun g2 => ?_
  simp only [qz]
  refine rg_nil (ek_next (wk_seq ?_))
  refine wk_region [1] rfl Kx ?_
  simp only [qy]
  refine Rgn fun g3 => ?_
  simp only [qz]
  refine rg_nil (ek_next (wk_seq (wk_seq ?_)))
  refine wk_region [0] rfl Kx ?_
  simp only [qy]
  refine rg_assign ?_
  simp only [qz]
  refine rg_nil (ek_next (wk_block ?_))
  refine wk_unroll 4 ?_
  refine wk_seq (wk_seq ?_)
  refine wk_region [0, 0] rfl Kx ?_
  simp only [qy]
  refine rg_move ?_
  simp only [qz]
  refine rf_lss (b := true) rfl rfl rfl rfl (by decide) ?_
  simp only [qz]
  refine rg_nil (ek_next (wk_cond_t rfl (wk_skip (ek_next (wk_seq (wk_block ?_))))))
  refine wk_region [0, 0, 0, 0, 0, 1, 0, 0, 1] rfl Kx ?_
  simp only [qy]
  refine rg_move ?_
  simp only [qz]
  refine rg_move ?_
  simp only [qz]
  refine rf_field (n := 3) (j := 0) rfl rfl rfl Try.underlying29 rfl Kx rfl ?_
  simp only [qz]
  refine rf_indexA (n := 0) (sz := 1) (j := 0) rfl rfl rfl rfl Try.underlying27 Kx (by decide) rfl ?_
  simp only [qz]
  refine rf_load rfl rfl rfl Try.underlying3 rfl (fun w hw => (Kn.hd0 (Kn.tl (Kn.tl hw))).at rfl) ?_
  simp only [qz]
  apply (rg_made (T := fun v u => ∃ s, v = bgV (z.a) s ∧ SU u s (z.a).natAbs)) Rx Kx
  case hargs => exact Ax
  case h => exact fun w hw => bigOf_any z.a Ox Ox w
  case hz => exact Nz
  rintro _ u4 ⟨s4, rfl, hS4⟩
  obtain ⟨⟨sa4, sc4, rfl⟩, -⟩ := id hS4
  simp only [qz]
  refine rf_field (n := 7) (j := 0) rfl rfl rfl Try.underlying73 rfl Kx rfl ?_
  simp only [qz]
  refine rf_indexA (n := 0) (sz := 2) (j := 0) rfl rfl rfl rfl Try.underlying71 Kx (by decide) rfl ?_
  simp only [qz]
  refine rf_storeR (n := 2) rfl rfl Kx rfl rfl (UpdR.app _ (UpdR.here _ _ _ Nl)) Nz ?_
  simp only [qz, Nat.reduceAdd]
  refine rg_nil (ek_block (ek_next ?_))
  refine wk_region [0, 0, 0] rfl Kx ?_
  simp only [qy]
  refine rg_move ?_
  simp only [qz]
  refine rf_add (r := 1) rfl rfl rfl rfl (by decide) ?_
  simp only [qz]
  refine rg_assign ?_
  simp only [qz]
  refine rg_nil (ek_again (wk_seq (wk_seq ?_)))
  refine wk_region [0, 0] rfl Kx ?_
  simp only [qy]
  refine rg_move ?_
  simp only [qz]
  refine rf_lss (b := true) rfl rfl rfl rfl (by decide) ?_
  simp only [qz]
  refine rg_nil (ek_next (wk_cond_t rfl (wk_skip (ek_next (wk_seq (wk_block ?_))))))
  refine wk_region [0, 0, 0, 0, 0, 1, 0, 0, 1] rfl Kx ?_
  simp only [qy]
  refine rg_move ?_
  simp only [qz]
  refine rg_move ?_
  simp only [qz]
  refine rf_field (n := 3) (j := 0) rfl rfl rfl Try.underlying29 rfl Kx rfl ?_
  simp only [qz]
  refine rf_indexA (n := 1) (sz := 1) (j := 1) rfl rfl rfl rfl Try.underlying27 Kx (by decide) rfl ?_
  simp only [qz]
  refine rf_load rfl rfl rfl Try.underlying3 rfl (fun w hw => (Kn.hd0 (Kn.tl (Kn.tl (Kn.tlU hw)))).at rfl) ?_
  simp only [qz]
  apply (rg_made (T := fun v u => ∃ s, v = bgV (z.b) s ∧ SU u s (z.b).natAbs)) Rx Kx
  case hargs => exact Ax
  case h => exact fun w hw => bigOf_any z.b Ox Ox w
  case hz => exact Nz
  rintro _ u5 ⟨s5, rfl, hS5⟩
  obtain ⟨⟨sa5, sc5, rfl⟩, -⟩ := id hS5
  simp only [qz]
  refine rf_field (n := 7) (j := 0) rfl rfl rfl Try.underlying73 rfl Kx rfl ?_
  simp only [qz]
  refine rf_indexA (n := 1) (sz := 2) (j := 2) rfl rfl rfl rfl Try.underlying71 Kx (by decide) rfl ?_
  simp only [qz]
  refine rf_storeR (n := 2) rfl rfl Kx rfl rfl (UpdR.app _ (UpdR.app _ (UpdR.here _ _ _ Nl))) Nz ?_
  simp only [qz, Nat.reduceAdd]
  refine rg_nil (ek_block (ek_next ?_))
  refine wk_region [0, 0, 0] rfl Kx ?_
  simp only [qy]
  refine rg_move ?_
  simp only [qz]
  refine rf_add (r := 2) rfl rfl rfl rfl (by decide) ?_
  simp only [qz]
  refine rg_assign ?_
  simp only [qz]
  refine rg_nil (ek_again (wk_seq (wk_seq ?_)))
  refine wk_region [0, 0] rfl Kx ?_
  simp only [qy]
  refine rg_move ?_
  simp only [qz]
  refine rf_lss (b := true) rfl rfl rfl rfl (by decide) ?_
  simp only [qz]
  refine rg_nil (ek_next (wk_cond_t rfl (wk_skip (ek_next (wk_seq (wk_block ?_))))))
  refine wk_region [0, 0, 0, 0, 0, 1, 0, 0, 1] rfl Kx ?_
  simp only [qy]
  refine rg_move ?_
  simp only [qz]
  refine rg_move ?_
  simp only [qz]
  refine rf_field (n := 3) (j := 0) rfl rfl rfl Try.underlying29 rfl Kx rfl ?_
  simp only [qz]
  refine rf_indexA (n := 2) (sz := 1) (j := 2) rfl rfl rfl rfl Try.underlying27 Kx (by decide) rfl ?_
  simp only [qz]
  refine rf_load rfl rfl rfl Try.underlying3 rfl (fun w hw => (Kn.hd0 (Kn.tl (Kn.tl (Kn.tlU (Kn.tlU hw))))).at rfl) ?_
  simp only [qz]
  apply (rg_made (T := fun v u => ∃ s, v = bgV (z.c) s ∧ SU u s (z.c).natAbs)) Rx Kx
  case hargs => exact Ax
  case h => exact fun w hw => bigOf_any z.c Ox Ox w
  case hz => exact Nz
  rintro _ u6 ⟨s6, rfl, hS6⟩
  obtain ⟨⟨sa6, sc6, rfl⟩, -⟩ := id hS6
  simp only [qz]
  refine rf_field (n := 7) (j := 0) rfl rfl rfl Try.underlying73 rfl Kx rfl ?_
  simp only [qz]
  refine rf_indexA (n := 2) (sz := 2) (j := 4) rfl rfl rfl rfl Try.underlying71 Kx (by decide) rfl ?_
  simp only [qz]
  refine rf_storeR (n := 2) rfl rfl Kx rfl rfl (UpdR.app _ (UpdR.app _ (UpdR.app _ (UpdR.here _ _ _ Nl)))) Nz ?_
  simp only [qz, Nat.reduceAdd]
  refine rg_nil (ek_block (ek_next ?_))
  refine wk_region [0, 0, 0] rfl Kx ?_
  simp only [qy]
  refine rg_move ?_
  simp only [qz]
  refine rf_add (r := 3) rfl rfl rfl rfl (by decide) ?_
  simp only [qz]
  refine rg_assign ?_
  simp only [qz]
  refine rg_nil (ek_again (wk_seq (wk_seq ?_)))
  refine wk_region [0, 0] rfl Kx ?_
  simp only [qy]
  refine rg_move ?_
  simp only [qz]
  refine rf_lss (b := true) rfl rfl rfl rfl (by decide) ?_
  simp only [qz]
  refine rg_nil (ek_next (wk_cond_t rfl (wk_skip (ek_next (wk_seq (wk_block ?_))))))
  refine wk_region [0, 0, 0, 0, 0, 1, 0, 0, 1] rfl Kx ?_
  simp only [qy]
  refine rg_move ?_
  simp only [qz]
  refine rg_move ?_
  simp only [qz]
  refine rf_field (n := 3) (j := 0) rfl rfl rfl Try.underlying29 rfl Kx rfl ?_
  simp only [qz]
  refine rf_indexA (n := 3) (sz := 1) (j := 3) rfl rfl rfl rfl Try.underlying27 Kx (by decide) rfl ?_
  simp only [qz]
  refine rf_load rfl rfl rfl Try.underlying3 rfl (fun w hw => (Kn.hd0 (Kn.tl (Kn.tl (Kn.tlU (Kn.tlU (Kn.tlU hw)))))).at rfl) ?_
  simp only [qz]
  apply (rg_made (T := fun v u => ∃ s, v = bgV (z.d) s ∧ SU u s (z.d).natAbs)) Rx Kx
  case hargs => exact Ax
  case h => exact fun w hw => bigOf_any z.d Ox Ox w
  case hz => exact Nz
  rintro _ u7 ⟨s7, rfl, hS7⟩
  obtain ⟨⟨sa7, sc7, rfl⟩, -⟩ := id hS7
  simp only [qz]
  refine rf_field (n := 7) (j := 0) rfl rfl rfl Try.underlying73 rfl Kx rfl ?_
  simp only [qz]
  refine rf_indexA (n := 3) (sz := 2) (j := 6) rfl rfl rfl rfl Try.underlying71 Kx (by decide) rfl ?_
  simp only [qz]
  refine rf_storeR (n := 2) rfl rfl Kx rfl rfl (UpdR.app _ (UpdR.app _ (UpdR.app _ (UpdR.app _ (UpdR.here _ _ _ Nl))))) Nz ?_
  simp only [qz, Nat.reduceAdd]
  refine rg_nil (ek_block (ek_next ?_))
  refine wk_region [0, 0, 0] rfl Kx ?_
  simp only [qy]
  refine rg_move ?_
  simp only [qz]
  refine rf_add (r := 4) rfl rfl rfl rfl (by decide) ?_
  simp only [qz]
  refine rg_assign ?_
  simp only [qz]
  refine rg_nil (ek_again (wk_seq (wk_seq ?_)))
  refine wk_region [0, 0] rfl Kx ?_
  simp only [qy]
  refine rg_move ?_
  simp only [qz]
  refine rf_lss (b := false) rfl rfl rfl rfl (by decide) ?_
  simp only [qz]
  refine rg_nil (ek_next (wk_cond_f rfl (wk_exit (ek_then_exit (ek_then_exit (ek_block_exit (ek_next (wk_seq ?_))))))))
  refine wk_region [0, 0, 0, 1] rfl Kx ?_
  simp only [qy]
  refine rf_field (n := 0) (j := 4) rfl rfl rfl Try.underlying29 rfl Kx rfl ?_
  simp only [qz]
  refine rf_load rfl rfl rfl Try.underlying3 rfl (fun w hw => (Kn.hd0 (Kn.tl (Kn.tl (Kn.tlU (Kn.tlU (Kn.tlU (Kn.tlU hw))))))).at rfl) ?_
  simp only [qz]
  refine rf_field (n := 0) (j := 8) rfl rfl rfl Try.underlying73 rfl Kx rfl ?_
  simp only [qz]
  refine rf_store rfl rfl Kx rfl rfl (UpdR.app _ (UpdR.app _ (UpdR.app _ (UpdR.app _ (UpdR.here _ _ _ Nl))))) Nz ?_
  simp only [qz]
  refine rg_nil (ek_next (wk_seq ?_))
  refine wk_region [0, 1] rfl Kx ?_
  simp only [qy]
  refine rf_loadR (n := 9) rfl rfl rfl Try.underlying73 rfl Kx (fun w hw => Kn.hd0 (Kn.tlU (Kn.tlU (Kn.tlU (Kn.tlU hw))))) rfl rfl ?_
  simp only [qz]
  refine rf_storeR (n := 9) rfl rfl Kx rfl rfl (UpdR.app _ (UpdR.app _ (UpdR.app _ (UpdR.app _ (UpdR.there _ (UpdR.here _ _ _ Nl)))))) Nz ?_
  simp only [qz, Nat.reduceAdd]
  refine rg_nil (ek_next (wk_ret ?_))
  refine ek_ret (fun w hw => ⟨rfl, _, run_results1 rfl rfl (Kn.hd0 (Kn.tl (Kn.tlU (Kn.tlU (Kn.tlU (Kn.tlU hw)))))) Try.underlying73 rfl Kx, ?_⟩)
  (try simp only [qz])
  exact ⟨_, (u7 ++ (u6 ++ (u5 ++ u4))), rfl, ⟨_, _, _, _, rfl, ⟨(hS4.mono ((((List.Sublist.refl _).trans (List.sublist_append_right _ _)).trans (List.sublist_append_right _ _)).trans (List.sublist_append_right _ _))), (hS5.mono (((List.sublist_append_left _ _).trans (List.sublist_append_right _ _)).trans (List.sublist_append_right _ _))), (hS6.mono ((List.sublist_append_left _ _).trans (List.sublist_append_right _ _))), (hS7.mono (List.sublist_append_left _ _))⟩⟩, hw.made (List.Sublist.append_left (List.Sublist.append_left (List.Sublist.append_left (List.sublist_append_left _ _) _) _) _)⟩

end Go.Proofs.Ytjeijnjaleldkaa
namespace Go.Proofs.Ytjeijnjaleldkaa
set_option linter.all false
open Go.RowKit

set_option maxRecDepth 100000 in
set_option maxHeartbeats 1000000 in
theorem wconj_any (z : Nm) (s0 s1 s2 s3 : Value) (hz : z.Fit 9850501549098619803069760025035903451269934817616361666987073351061430442874302652853566563721228910201656997576704) (w : World) (hs : SA4 w z s0 s1 s2 s3) : Calls Try.prog 107 #[wdV z s0 s1 s2 s3] w fun e w' => e = .returned (wdV z.conj s0 s3 s2 s1) ∧ Below w.heap.size w w' := by
  obtain ⟨⟨a0, c0, rfl⟩, ⟨a1, c1, rfl⟩, ⟨a2, c2, rfl⟩, ⟨a3, c3, rfl⟩⟩ := (⟨hs.a.form, hs.b.form, hs.c.form, hs.d.form⟩ : _ ∧ _ ∧ _ ∧ _)
  obtain ⟨ha, hb, hc, hd⟩ := hs
  obtain ⟨la, lb, lc, ld⟩ := fit_big hz
  go_enter Try.func107, Try.ntmps107
  refine wk_start ?_
  refine wk_seq ?_
  refine wk_region [1, 1] rfl Kx ?_
  simp only [qy]
  refine Rgn fun g1 => ?_
  simp only [qz]
  refine Rgn fun g2 => ?_
  simp only [qz]
  refine rg_nil (ek_next (wk_seq ?_))
  refine wk_draws_m (hz1 := (sk _ (sc _ sn))) [(0, 0), (1, 0), (2, 0), (3, 0), (4, 0), (5, 0), (7, 0), (8, 0), (9, 0), (11, 0), (12, 0), (13, 0), (16, 0), (17, 0), (6, 1), (10, 1), (14, 1), (15, 0), (18, 0), (19, 2)] 19 Kx Kx (fun c d v a w h => by cases d <;> exact h) ?_
  simp only [List.map_cons, List.map_nil, List.getD_cons_zero, List.getD_cons_succ]
  refine rf_field (n := 7) (j := 0) rfl rfl rfl Try.underlying73 rfl Kx rfl ?_
  simp only [qz]
  refine rf_indexA (n := 0) (sz := 2) (j := 0) rfl rfl rfl rfl Try.underlying71 Kx (by decide) rfl ?_
  simp only [qz]
  refine rf_loadR (n := 2) rfl rfl rfl Try.underlying70 rfl Kx (fun w hw => Kn.hd0 (Kn.tl hw)) rfl rfl ?_
  simp only [qz]
  refine rf_field (n := 7) (j := 0) rfl rfl rfl Try.underlying73 rfl Kx rfl ?_
  simp only [qz]
  refine rf_indexA (n := 3) (sz := 2) (j := 6) rfl rfl rfl rfl Try.underlying71 Kx (by decide) rfl ?_
  simp only [qz]
  refine rf_loadR (n := 2) rfl rfl rfl Try.underlying70 rfl Kx (fun w hw => Kn.hd0 (Kn.tl hw)) rfl rfl ?_
  simp only [qz]
  refine rf_field (n := 7) (j := 0) rfl rfl rfl Try.underlying73 rfl Kx rfl ?_
  simp only [qz]
  refine rf_indexA (n := 2) (sz := 2) (j := 4) rfl rfl rfl rfl Try.underlying71 Kx (by decide) rfl ?_
  simp only [qz]
  refine rf_loadR (n := 2) rfl rfl rfl Try.underlying70 rfl Kx (fun w hw => Kn.hd0 (Kn.tl hw)) rfl rfl ?_
  simp only [qz]
  refine rf_field (n := 7) (j := 0) rfl rfl rfl Try.underlying73 rfl Kx rfl ?_
  simp only [qz]
  refine rf_indexA (n := 1) (sz := 2) (j := 2) rfl rfl rfl rfl Try.underlying71 Kx (by decide) rfl ?_
  simp only [qz]
  refine rf_loadR (n := 2) rfl rfl rfl Try.underlying70 rfl Kx (fun w hw => Kn.hd0 (Kn.tl hw)) rfl rfl ?_
  simp only [qz]
  refine rf_field (n := 0) (j := 8) rfl rfl rfl Try.underlying73 rfl Kx rfl ?_
  simp only [qz]
  refine rf_load rfl rfl rfl Try.underlying3 rfl (fun w hw => (Kn.hd0 (Kn.tl hw)).at rfl) ?_
  simp only [qz]
  apply rg_pure Rx Kx
  case hargs => exact Ax
  case h => exact fun w hw => bneg_any z.d _ ld w (hd.kn hw)
  case hz => exact (fun _ h => by cases h; exact (sc _ (sc _ sn)))
  simp only [qz]
  apply rg_pure Rx Kx
  case hargs => exact Ax
  case h => exact fun w hw => bneg_any z.c _ lc w (hc.kn hw)
  case hz => exact (fun _ h => by cases h; exact (sc _ (sc _ sn)))
  simp only [qz]
  apply rg_pure Rx Kx
  case hargs => exact Ax
  case h => exact fun w hw => bneg_any z.b _ lb w (hb.kn hw)
  case hz => exact (fun _ h => by cases h; exact (sc _ (sc _ sn)))
  simp only [qz]
  refine rf_build (cs := fun a => #[cellAt (a.eval (.tmp 5)) 0, cellAt (a.eval (.tmp 5)) 1, cellAt (a.eval (.tmp 9)) 0, cellAt (a.eval (.tmp 9)) 1, cellAt (a.eval (.tmp 13)) 0, cellAt (a.eval (.tmp 13)) 1, cellAt (a.eval (.tmp 17)) 0, cellAt (a.eval (.tmp 17)) 1]) rfl rfl Kx ?_
  simp only [qz]
  refine rf_build (cs := fun a => #[cellAt (a.eval (.tmp 18)) 0, cellAt (a.eval (.tmp 18)) 1, cellAt (a.eval (.tmp 18)) 2, cellAt (a.eval (.tmp 18)) 3, cellAt (a.eval (.tmp 18)) 4, cellAt (a.eval (.tmp 18)) 5, cellAt (a.eval (.tmp 18)) 6, cellAt (a.eval (.tmp 18)) 7, a.eval (.tmp 20)]) rfl rfl Kx ?_
  simp only [qz]
  refine rf_storeRM (n := 9) rfl rfl Kx rfl rfl (UpdR.here _ _ _ Nl) (sk _ (sc _ sn)) ?_
  simp only [qz, Nat.reduceAdd]
  refine rg_nil (ek_next (wk_ret ?_))
  refine ek_ret (fun w hw => ⟨rfl, _, run_results1 rfl rfl (Kn.hd0 hw) Try.underlying73 rfl Kx, ?_⟩)
  (try simp only [qz])
  first | exact ⟨rfl, hw.below⟩ | exact ⟨trivial, hw.below⟩ | exact hw.below

theorem up_fit_of {z : Nm} {m j : Nat} {M : Int} (h : (Nm.up m z).Fit M) (hj : j ≤ m) : (Nm.up j z).Fit M := by
  induction m with
  | zero => obtain rfl : j = 0 := Ox; exact h
  | succ m ih =>
    by_cases e : j = m + 1
    · subst e; exact h
    · refine ih ?_ Ox
      rw [Nm.up_succ1] at h
      have := Nm.step_fit h
      rwa [Nm.step_tr] at this
theorem addR_up {x y z v : Nm} {i j : Nat} (hx : Nm.up j x = z) (hy : Nm.up i y = v) (hk : z.k = v.k) (h1 : z.k = x.k + j) (h2 : j = 0 ∨ i = 0) : x.addR y = ⟨z.a + v.a, z.b + v.b, z.c + v.c, z.d + v.d, z.k⟩ := by
  have h3 : v.k = y.k + i := by rw [← hy, Nm.up_k]
  have hm : max x.k y.k = z.k := by omega
  have e1 : x.to (max x.k y.k) = z := by unfold Nm.to; rw [← hx]; congr 1; omega
  have e2 : y.to (max x.k y.k) = v := by unfold Nm.to; rw [← hy]; congr 1; omega
  unfold Nm.addR
  dsimp only
  rw [e1, e2, hm]
set_option maxRecDepth 100000 in
set_option maxHeartbeats 4000000 in
theorem wplus_any (x y : Nm) (s0 s1 s2 s3 : Value) (p0 p1 p2 p3 : Value) (hx : (x.to (max x.k y.k)).Fit 9850501549098619803069760025035903451269934817616361666987073351061430442874302652853566563721228910201656997576704) (hy : (y.to (max x.k y.k)).Fit 9850501549098619803069760025035903451269934817616361666987073351061430442874302652853566563721228910201656997576704) (hk : 0 ≤ x.k) (hk1 : x.k ≤ 10000) (hk2 : 0 ≤ y.k) (hk3 : y.k ≤ 10000) (w : World) (hs : SA4 w x s0 s1 s2 s3) (hs2 : SA4 w y p0 p1 p2 p3) : Calls Try.prog 58 #[wdV x s0 s1 s2 s3, wdV y p0 p1 p2 p3] w fun e w' => RetW w (x.addR y) e w' := by
  obtain ⟨⟨a0, c0, rfl⟩, ⟨a1, c1, rfl⟩, ⟨a2, c2, rfl⟩, ⟨a3, c3, rfl⟩⟩ := (⟨hs.a.form, hs.b.form, hs.c.form, hs.d.form⟩ : _ ∧ _ ∧ _ ∧ _)
  obtain ⟨⟨b0, d0, rfl⟩, ⟨b1, d1, rfl⟩, ⟨b2, d2, rfl⟩, ⟨b3, d3, rfl⟩⟩ := (⟨hs2.a.form, hs2.b.form, hs2.c.form, hs2.d.form⟩ : _ ∧ _ ∧ _ ∧ _)
  go_enter Try.func58, Try.ntmps58
  refine wk_start ?_
  refine wk_seq ?_
  refine wk_region [1, 1, 1] rfl Kx ?_
  simp only [qy]
  refine Rgn fun g1 => ?_
  simp only [qz]
  refine Rgn fun g2 => ?_
  simp only [qz]
  refine Rgn fun g3 => ?_
  simp only [qz]
  refine rg_nil (ek_next (wk_seq (wk_block ?_)))
  refine wk_loopF [6, 7, 8, 9, 10, 11, 12, 13, 14, 15, 16, 17, 18] (fun mz f s => ∃ (j : Nat) (z : Nm) (ta0 ta1 ta2 ta3 : Option Addr) (tc0 tc1 tc2 tc3 : Nat) (u : List Blk), s = (u ++ ((g3, .cells #[.bool false, .slice none 0 0, .bool false, .slice none 0 0, .bool false, .slice none 0 0, .bool false, .slice none 0 0, .int .i64 0] 73) :: ((g2, .cells #[.bool (decide (y.a < 0)), .slice b0 (digs y.a.natAbs).length d0, .bool (decide (y.b < 0)), .slice b1 (digs y.b.natAbs).length d1, .bool (decide (y.c < 0)), .slice b2 (digs y.c.natAbs).length d2, .bool (decide (y.d < 0)), .slice b3 (digs y.d.natAbs).length d3, .int .i64 y.k] 73) :: ((g1, .cells #[.bool (decide (z.a < 0)), .slice ta0 (digs z.a.natAbs).length tc0, .bool (decide (z.b < 0)), .slice ta1 (digs z.b.natAbs).length tc1, .bool (decide (z.c < 0)), .slice ta2 (digs z.c.natAbs).length tc2, .bool (decide (z.d < 0)), .slice ta3 (digs z.d.natAbs).length tc3, .int .i64 z.k] 73) :: [])))) ∧ mz = 20000 - j ∧ Nm.up j x = z ∧ SK4 w u z (.slice ta0 (digs z.a.natAbs).length tc0) (.slice ta1 (digs z.b.natAbs).length tc1) (.slice ta2 (digs z.c.natAbs).length tc2) (.slice ta3 (digs z.d.natAbs).length tc3) ∧ z.Fit 9850501549098619803069760025035903451269934817616361666987073351061430442874302652853566563721228910201656997576704 ∧ z.k ≤ x.k + j ∧ x.k + j ≤ z.k ∧ (j = 0 ∨ z.k ≤ y.k)) ((fun (j : Nat) (z : Nm) (ta0 ta1 ta2 ta3 : Option Addr) (tc0 tc1 tc2 tc3 : Nat) (u : List Blk) => 20000 - j) (0) (x) (a0) (a1) (a2) (a3) (c0) (c1) (c2) (c3) ([])) ?_ Kx ?_
  · exact ⟨0, x, a0, a1, a2, a3, c0, c1, c2, c3, [], rfl, rfl, rfl, SK4.arg hs, up_fit_of (j := 0) hx Ox, by omega, by omega, .inl rfl⟩
  rintro mz f1 s ⟨j, z, ta0, ta1, ta2, ta3, tc0, tc1, tc2, tc3, u, rfl, hn, hc1, hc2, hc3, hc4, hc5, hc6⟩
  simp only [Act.putF, List.foldl_cons, List.foldl_nil, Act.put, Act.eval, q1, q2, q3, q4, q5, q6, q7, q8, q9, q10, q11, q12, q13, q14, q15, q16, q17, q18, Nat.reduceAdd, Bool.not_true, Bool.not_false]
  have hz0 := Lib.hid hc1
  clear hc1
  have hsk0 := hc2
  have hfit0 := hc3
  refine wk_seq (wk_seq ?_)
  refine wk_region [0, 0, 0, 0, 0] rfl Kx ?_
  simp only [qy]
  refine rf_field (n := 0) (j := 8) rfl rfl rfl Try.underlying73 rfl Kx rfl ?_
  simp only [qz]
  refine rf_load rfl rfl rfl Try.underlying3 rfl (fun w hw => (Kn.hd0 (Kn.tl (Kn.tl (Kn.tlU hw)))).at rfl) ?_
  simp only [qz]
  refine rf_field (n := 0) (j := 8) rfl rfl rfl Try.underlying73 rfl Kx rfl ?_
  simp only [qz]
  refine rf_load rfl rfl rfl Try.underlying3 rfl (fun w hw => (Kn.hd0 (Kn.tl (Kn.tlU hw))).at rfl) ?_
  simp only [qz]
  refine rfb_lss rfl rfl rfl rfl ?_
  intro x h1
  cases x
  · (try simp only [qd, ne_eq] at h1)
    simp only [qz]
    refine rg_nil (ek_next (wk_cond_f rfl (wk_exit (ek_then_exit (ek_then_exit (ek_block_exit (ek_next (wk_seq (wk_block ?_)))))))))
    refine wk_loopF [19, 20, 21, 22, 23, 24, 25, 26, 27, 28, 29, 30, 31] (fun mz f s => ∃ (i : Nat) (z2 : Nm) (pa0 pa1 pa2 pa3 : Option Addr) (pc0 pc1 pc2 pc3 : Nat) (u2 : List Blk), s = (u2 ++ (u ++ ((g3, .cells #[.bool false, .slice none 0 0, .bool false, .slice none 0 0, .bool false, .slice none 0 0, .bool false, .slice none 0 0, .int .i64 0] 73) :: ((g2, .cells #[.bool (decide (z2.a < 0)), .slice pa0 (digs z2.a.natAbs).length pc0, .bool (decide (z2.b < 0)), .slice pa1 (digs z2.b.natAbs).length pc1, .bool (decide (z2.c < 0)), .slice pa2 (digs z2.c.natAbs).length pc2, .bool (decide (z2.d < 0)), .slice pa3 (digs z2.d.natAbs).length pc3, .int .i64 z2.k] 73) :: ((g1, .cells #[.bool (decide (z.a < 0)), .slice ta0 (digs z.a.natAbs).length tc0, .bool (decide (z.b < 0)), .slice ta1 (digs z.b.natAbs).length tc1, .bool (decide (z.c < 0)), .slice ta2 (digs z.c.natAbs).length tc2, .bool (decide (z.d < 0)), .slice ta3 (digs z.d.natAbs).length tc3, .int .i64 z.k] 73) :: []))))) ∧ mz = 20000 - i ∧ Nm.up i y = z2 ∧ SK4 w u2 z2 (.slice pa0 (digs z2.a.natAbs).length pc0) (.slice pa1 (digs z2.b.natAbs).length pc1) (.slice pa2 (digs z2.c.natAbs).length pc2) (.slice pa3 (digs z2.d.natAbs).length pc3) ∧ z2.Fit 9850501549098619803069760025035903451269934817616361666987073351061430442874302652853566563721228910201656997576704 ∧ z2.k ≤ y.k + i ∧ y.k + i ≤ z2.k ∧ (i = 0 ∨ z2.k ≤ z.k)) ((fun (i : Nat) (z2 : Nm) (pa0 pa1 pa2 pa3 : Option Addr) (pc0 pc1 pc2 pc3 : Nat) (u2 : List Blk) => 20000 - i) (0) (y) (b0) (b1) (b2) (b3) (d0) (d1) (d2) (d3) ([])) ?_ Kx ?_
    · exact ⟨0, y, b0, b1, b2, b3, d0, d1, d2, d3, [], rfl, rfl, rfl, SK4.arg hs2, up_fit_of (j := 0) hy Ox, by omega, by omega, .inl rfl⟩
    rintro mz f2 s ⟨i, z2, pa0, pa1, pa2, pa3, pc0, pc1, pc2, pc3, u2, rfl, hn, hd1, hd2, hd3, hd4, hd5, hd6⟩
    simp only [Act.putF, List.foldl_cons, List.foldl_nil, Act.put, Act.eval, q1, q2, q3, q4, q5, q6, q7, q8, q9, q10, q11, q12, q13, q14, q15, q16, q17, q18, Nat.reduceAdd, Bool.not_true, Bool.not_false]
    have hz1 := Lib.hid hd1
    clear hd1
    have hsk1 := hd2
    have hfit1 := hd3
    refine wk_seq (wk_seq ?_)
    refine wk_region [0, 0, 0, 0, 0] rfl Kx ?_
    simp only [qy]
    refine rf_field (n := 0) (j := 8) rfl rfl rfl Try.underlying73 rfl Kx rfl ?_
    simp only [qz]
    refine rf_load rfl rfl rfl Try.underlying3 rfl (fun w hw => (Kn.hd0 (Kn.tl (Kn.tlU (Kn.tlU hw)))).at rfl) ?_
    simp only [qz]
    refine rf_field (n := 0) (j := 8) rfl rfl rfl Try.underlying73 rfl Kx rfl ?_
    simp only [qz]
    refine rf_load rfl rfl rfl Try.underlying3 rfl (fun w hw => (Kn.hd0 (Kn.tl (Kn.tl (Kn.tlU (Kn.tlU hw))))).at rfl) ?_
    simp only [qz]
    refine rfb_lss rfl rfl rfl rfl ?_
    intro x h2
    cases x
    · (try simp only [qd, ne_eq] at h2)
      simp only [qz]
      refine rg_nil (ek_next (wk_cond_f rfl (wk_exit (ek_then_exit (ek_then_exit (ek_block_exit (ek_next (wk_seq (wk_seq ?_)))))))))
      refine wk_region [0] rfl Kx ?_
      simp only [qy]
      refine rg_assign ?_
      simp only [qz]
      refine rg_nil (ek_next (wk_block ?_))
      refine wk_unroll 4 ?_
      refine wk_seq (wk_seq ?_)
      refine wk_region [0, 0] rfl Kx ?_
      simp only [qy]
      refine rg_move ?_
      simp only [qz]
      refine rf_lss (b := true) rfl rfl rfl rfl (by decide) ?_
      simp only [qz]
      refine rg_nil (ek_next (wk_cond_t rfl (wk_skip (ek_next (wk_seq (wk_block ?_))))))
      refine wk_draws_m (hz1 := (List.Sublist.append_left (List.Sublist.append_left (sc _ (sc _ (sk _ sn))) _) _)) [(0, 0), (1, 0), (2, 0), (3, 0), (4, 0), (5, 0), (6, 0), (7, 0), (8, 0), (10, 3), (9, 1), (11, 0), (12, 2)] 12 Kx Kx (fun c d v a w h => by cases d <;> exact h) ?_
      simp only [List.map_cons, List.map_nil, List.getD_cons_zero, List.getD_cons_succ]
      refine rg_move ?_
      simp only [qz]
      refine rg_move ?_
      simp only [qz]
      refine rf_field (n := 7) (j := 0) rfl rfl rfl Try.underlying73 rfl Kx rfl ?_
      simp only [qz]
      refine rf_indexA (n := 0) (sz := 2) (j := 0) rfl rfl rfl rfl Try.underlying71 Kx (by decide) rfl ?_
      simp only [qz]
      refine rf_loadR (n := 2) rfl rfl rfl Try.underlying70 rfl Kx (fun w hw => Kn.hd0 (Kn.tl (Kn.tl (Kn.tlU (Kn.tlU hw))))) rfl rfl ?_
      simp only [qz]
      refine rg_move ?_
      simp only [qz]
      refine rf_field (n := 7) (j := 0) rfl rfl rfl Try.underlying73 rfl Kx rfl ?_
      simp only [qz]
      refine rf_indexA (n := 0) (sz := 2) (j := 0) rfl rfl rfl rfl Try.underlying71 Kx (by decide) rfl ?_
      simp only [qz]
      refine rf_loadR (n := 2) rfl rfl rfl Try.underlying70 rfl Kx (fun w hw => Kn.hd0 (Kn.tl (Kn.tlU (Kn.tlU hw)))) rfl rfl ?_
      simp only [qz]
      refine rf_field (n := 7) (j := 0) rfl rfl rfl Try.underlying73 rfl Kx rfl ?_
      simp only [qz]
      obtain ⟨la, lb, lc, ld⟩ := fit_big hfit0
      obtain ⟨ma, mb, mc, md⟩ := fit_big hfit1
      apply (rg_made (T := fun v u => ∃ s, v = bgV (z.a + z2.a) s ∧ SU u s (z.a + z2.a).natAbs)) Rx Kx
      case hargs => exact Ax
      case h => exact fun w hw => badd_any z.a z2.a _ _ la ma w (hsk0.a.at hw ((List.sublist_append_left _ _).trans (List.sublist_append_right _ _))) (hsk1.a.at hw (List.sublist_append_left _ _))
      case hz => exact (fun _ h => by cases h; exact (List.Sublist.append_left (List.Sublist.append_left (sc _ (sc _ (sc _ sn))) _) _))
      rintro _ u4 ⟨s4, rfl, hS4⟩
      obtain ⟨⟨sa4, sc4, rfl⟩, -⟩ := id hS4
      simp only [qz]
      refine rf_indexA (n := 0) (sz := 2) (j := 0) rfl rfl rfl rfl Try.underlying71 Kx (by decide) rfl ?_
      simp only [qz]
      refine rf_storeRM (n := 2) rfl rfl Kx rfl rfl (UpdR.app _ (UpdR.app _ (UpdR.app _ (UpdR.there _ (UpdR.there _ (UpdR.here _ _ _ Nl)))))) ((List.Sublist.append_left (List.Sublist.append_left (sc _ (sc _ (sk _ sn))) _) _).trans (List.sublist_append_right _ _)) ?_
      simp only [qz, Nat.reduceAdd]
      refine rg_nil (ek_block (ek_next ?_))
      refine wk_region [0, 0, 0] rfl Kx ?_
      simp only [qy]
      refine rg_move ?_
      simp only [qz]
      refine rf_add (r := 1) rfl rfl rfl rfl (by decide) ?_
      simp only [qz]
      refine rg_assign ?_
      simp only [qz]
      refine rg_nil (ek_again (wk_seq (wk_seq ?_)))
      refine wk_region [0, 0] rfl Kx ?_
      simp only [qy]
      refine rg_move ?_
      simp only [qz]
      refine rf_lss (b := true) rfl rfl rfl rfl (by decide) ?_
      simp only [qz]
      refine rg_nil (ek_next (wk_cond_t rfl (wk_skip (ek_next (wk_seq (wk_block ?_))))))
      refine wk_draws_m (hz1 := (List.Sublist.append_left (List.Sublist.append_left (List.Sublist.append_left (sc _ (sc _ (sk _ sn))) _) _) _)) [(0, 0), (1, 0), (2, 0), (3, 0), (4, 0), (5, 0), (6, 0), (7, 0), (8, 0), (10, 3), (9, 1), (11, 0), (12, 2)] 12 Kx Kx (fun c d v a w h => by cases d <;> exact h) ?_
      simp only [List.map_cons, List.map_nil, List.getD_cons_zero, List.getD_cons_succ]
      refine rg_move ?_
      simp only [qz]
      refine rg_move ?_
      simp only [qz]
      refine rf_field (n := 7) (j := 0) rfl rfl rfl Try.underlying73 rfl Kx rfl ?_
      simp only [qz]
      refine rf_indexA (n := 1) (sz := 2) (j := 2) rfl rfl rfl rfl Try.underlying71 Kx (by decide) rfl ?_
      simp only [qz]
      refine rf_loadR (n := 2) rfl rfl rfl Try.underlying70 rfl Kx (fun w hw => Kn.hd0 (Kn.tl (Kn.tl (Kn.tlU (Kn.tlU (Kn.tlU hw)))))) rfl rfl ?_
      simp only [qz]
      refine rg_move ?_
      simp only [qz]
      refine rf_field (n := 7) (j := 0) rfl rfl rfl Try.underlying73 rfl Kx rfl ?_
      simp only [qz]
      refine rf_indexA (n := 1) (sz := 2) (j := 2) rfl rfl rfl rfl Try.underlying71 Kx (by decide) rfl ?_
      simp only [qz]
      refine rf_loadR (n := 2) rfl rfl rfl Try.underlying70 rfl Kx (fun w hw => Kn.hd0 (Kn.tl (Kn.tlU (Kn.tlU (Kn.tlU hw))))) rfl rfl ?_
      simp only [qz]
      refine rf_field (n := 7) (j := 0) rfl rfl rfl Try.underlying73 rfl Kx rfl ?_
      simp only [qz]
      apply (rg_made (T := fun v u => ∃ s, v = bgV (z.b + z2.b) s ∧ SU u s (z.b + z2.b).natAbs)) Rx Kx
      case hargs => exact Ax
      case h => exact fun w hw => badd_any z.b z2.b _ _ lb mb w (hsk0.b.at hw (((List.sublist_append_left _ _).trans (List.sublist_append_right _ _)).trans (List.sublist_append_right _ _))) (hsk1.b.at hw ((List.sublist_append_left _ _).trans (List.sublist_append_right _ _)))
      case hz => exact (fun _ h => by cases h; exact (List.Sublist.append_left (List.Sublist.append_left (List.Sublist.append_left (sc _ (sc _ (sc _ sn))) _) _) _))
      rintro _ u5 ⟨s5, rfl, hS5⟩
      obtain ⟨⟨sa5, sc5, rfl⟩, -⟩ := id hS5
      simp only [qz]
      refine rf_indexA (n := 1) (sz := 2) (j := 2) rfl rfl rfl rfl Try.underlying71 Kx (by decide) rfl ?_
      simp only [qz]
      refine rf_storeRM (n := 2) rfl rfl Kx rfl rfl (UpdR.app _ (UpdR.app _ (UpdR.app _ (UpdR.app _ (UpdR.there _ (UpdR.there _ (UpdR.here _ _ _ Nl))))))) ((List.Sublist.append_left (List.Sublist.append_left (List.Sublist.append_left (sc _ (sc _ (sk _ sn))) _) _) _).trans (List.sublist_append_right _ _)) ?_
      simp only [qz, Nat.reduceAdd]
      refine rg_nil (ek_block (ek_next ?_))
      refine wk_region [0, 0, 0] rfl Kx ?_
      simp only [qy]
      refine rg_move ?_
      simp only [qz]
      refine rf_add (r := 2) rfl rfl rfl rfl (by decide) ?_
      simp only [qz]
      refine rg_assign ?_
      simp only [qz]
      refine rg_nil (ek_again (wk_seq (wk_seq ?_)))
      refine wk_region [0, 0] rfl Kx ?_
      simp only [qy]
      refine rg_move ?_
      simp only [qz]
      refine rf_lss (b := true) rfl rfl rfl rfl (by decide) ?_
      simp only [qz]
      refine rg_nil (ek_next (wk_cond_t rfl (wk_skip (ek_next (wk_seq (wk_block ?_))))))
      refine wk_draws_m (hz1 := (List.Sublist.append_left (List.Sublist.append_left (List.Sublist.append_left (List.Sublist.append_left (sc _ (sc _ (sk _ sn))) _) _) _) _)) [(0, 0), (1, 0), (2, 0), (3, 0), (4, 0), (5, 0), (6, 0), (7, 0), (8, 0), (10, 3), (9, 1), (11, 0), (12, 2)] 12 Kx Kx (fun c d v a w h => by cases d <;> exact h) ?_
      simp only [List.map_cons, List.map_nil, List.getD_cons_zero, List.getD_cons_succ]
      refine rg_move ?_
      simp only [qz]
      refine rg_move ?_
      simp only [qz]
      refine rf_field (n := 7) (j := 0) rfl rfl rfl Try.underlying73 rfl Kx rfl ?_
      simp only [qz]
      refine rf_indexA (n := 2) (sz := 2) (j := 4) rfl rfl rfl rfl Try.underlying71 Kx (by decide) rfl ?_
      simp only [qz]
      refine rf_loadR (n := 2) rfl rfl rfl Try.underlying70 rfl Kx (fun w hw => Kn.hd0 (Kn.tl (Kn.tl (Kn.tlU (Kn.tlU (Kn.tlU (Kn.tlU hw))))))) rfl rfl ?_
      simp only [qz]
      refine rg_move ?_
      simp only [qz]
      refine rf_field (n := 7) (j := 0) rfl rfl rfl Try.underlying73 rfl Kx rfl ?_
      simp only [qz]
      refine rf_indexA (n := 2) (sz := 2) (j := 4) rfl rfl rfl rfl Try.underlying71 Kx (by decide) rfl ?_
      simp only [qz]
      refine rf_loadR (n := 2) rfl rfl rfl Try.underlying70 rfl Kx (fun w hw => Kn.hd0 (Kn.tl (Kn.tlU (Kn.tlU (Kn.tlU (Kn.tlU hw)))))) rfl rfl ?_
      simp only [qz]
      refine rf_field (n := 7) (j := 0) rfl rfl rfl Try.underlying73 rfl Kx rfl ?_
      simp only [qz]
      apply (rg_made (T := fun v u => ∃ s, v = bgV (z.c + z2.c) s ∧ SU u s (z.c + z2.c).natAbs)) Rx Kx
      case hargs => exact Ax
      case h => exact fun w hw => badd_any z.c z2.c _ _ lc mc w (hsk0.c.at hw ((((List.sublist_append_left _ _).trans (List.sublist_append_right _ _)).trans (List.sublist_append_right _ _)).trans (List.sublist_append_right _ _))) (hsk1.c.at hw (((List.sublist_append_left _ _).trans (List.sublist_append_right _ _)).trans (List.sublist_append_right _ _)))
      case hz => exact (fun _ h => by cases h; exact (List.Sublist.append_left (List.Sublist.append_left (List.Sublist.append_left (List.Sublist.append_left (sc _ (sc _ (sc _ sn))) _) _) _) _))
      rintro _ u6 ⟨s6, rfl, hS6⟩
      obtain ⟨⟨sa6, sc6, rfl⟩, -⟩ := id hS6
      simp only [qz]
      refine rf_indexA (n := 2) (sz := 2) (j := 4) rfl rfl rfl rfl Try.underlying71 Kx (by decide) rfl ?_
      simp only [qz]
      refine rf_storeRM (n := 2) rfl rfl Kx rfl rfl (UpdR.app _ (UpdR.app _ (UpdR.app _ (UpdR.app _ (UpdR.app _ (UpdR.there _ (UpdR.there _ (UpdR.here _ _ _ Nl)))))))) ((List.Sublist.append_left (List.Sublist.append_left (List.Sublist.append_left (List.Sublist.append_left (sc _ (sc _ (sk _ sn))) _) _) _) _).trans (List.sublist_append_right _ _)) ?_
      simp only [qz, Nat.reduceAdd]
      refine rg_nil (ek_block (ek_next ?_))
      refine wk_region [0, 0, 0] rfl Kx ?_
      simp only [qy]
      refine rg_move ?_
      simp only [qz]
      refine rf_add (r := 3) rfl rfl rfl rfl (by decide) ?_
      simp only [qz]
      refine rg_assign ?_
      simp only [qz]
      refine rg_nil (ek_again (wk_seq (wk_seq ?_)))
      refine wk_region [0, 0] rfl Kx ?_
      simp only [qy]
      refine rg_move ?_
      simp only [qz]
      refine rf_lss (b := true) rfl rfl rfl rfl (by decide) ?_
      simp only [qz]
      refine rg_nil (ek_next (wk_cond_t rfl (wk_skip (ek_next (wk_seq (wk_block ?_))))))
      refine wk_draws_m (hz1 := (List.Sublist.append_left (List.Sublist.append_left (List.Sublist.append_left (List.Sublist.append_left (List.Sublist.append_left (sc _ (sc _ (sk _ sn))) _) _) _) _) _)) [(0, 0), (1, 0), (2, 0), (3, 0), (4, 0), (5, 0), (6, 0), (7, 0), (8, 0), (10, 3), (9, 1), (11, 0), (12, 2)] 12 Kx Kx (fun c d v a w h => by cases d <;> exact h) ?_
      simp only [List.map_cons, List.map_nil, List.getD_cons_zero, List.getD_cons_succ]
      refine rg_move ?_
      simp only [qz]
      refine rg_move ?_
      simp only [qz]
      refine rf_field (n := 7) (j := 0) rfl rfl rfl Try.underlying73 rfl Kx rfl ?_
      simp only [qz]
      refine rf_indexA (n := 3) (sz := 2) (j := 6) rfl rfl rfl rfl Try.underlying71 Kx (by decide) rfl ?_
      simp only [qz]
      refine rf_loadR (n := 2) rfl rfl rfl Try.underlying70 rfl Kx (fun w hw => Kn.hd0 (Kn.tl (Kn.tl (Kn.tlU (Kn.tlU (Kn.tlU (Kn.tlU (Kn.tlU hw)))))))) rfl rfl ?_
      simp only [qz]
      refine rg_move ?_
      simp only [qz]
      refine rf_field (n := 7) (j := 0) rfl rfl rfl Try.underlying73 rfl Kx rfl ?_
      simp only [qz]
      refine rf_indexA (n := 3) (sz := 2) (j := 6) rfl rfl rfl rfl Try.underlying71 Kx (by decide) rfl ?_
      simp only [qz]
      refine rf_loadR (n := 2) rfl rfl rfl Try.underlying70 rfl Kx (fun w hw => Kn.hd0 (Kn.tl (Kn.tlU (Kn.tlU (Kn.tlU (Kn.tlU (Kn.tlU hw))))))) rfl rfl ?_
      simp only [qz]
      refine rf_field (n := 7) (j := 0) rfl rfl rfl Try.underlying73 rfl Kx rfl ?_
      simp only [qz]
      apply (rg_made (T := fun v u => ∃ s, v = bgV (z.d + z2.d) s ∧ SU u s (z.d + z2.d).natAbs)) Rx Kx
      case hargs => exact Ax
      case h => exact fun w hw => badd_any z.d z2.d _ _ ld md w (hsk0.d.at hw (((((List.sublist_append_left _ _).trans (List.sublist_append_right _ _)).trans (List.sublist_append_right _ _)).trans (List.sublist_append_right _ _)).trans (List.sublist_append_right _ _))) (hsk1.d.at hw ((((List.sublist_append_left _ _).trans (List.sublist_append_right _ _)).trans (List.sublist_append_right _ _)).trans (List.sublist_append_right _ _)))
      case hz => exact (fun _ h => by cases h; exact (List.Sublist.append_left (List.Sublist.append_left (List.Sublist.append_left (List.Sublist.append_left (List.Sublist.append_left (sc _ (sc _ (sc _ sn))) _) _) _) _) _))
      rintro _ u7 ⟨s7, rfl, hS7⟩
      obtain ⟨⟨sa7, sc7, rfl⟩, -⟩ := id hS7
      simp only [qz]
      refine rf_indexA (n := 3) (sz := 2) (j := 6) rfl rfl rfl rfl Try.underlying71 Kx (by decide) rfl ?_
      simp only [qz]
      refine rf_storeRM (n := 2) rfl rfl Kx rfl rfl (UpdR.app _ (UpdR.app _ (UpdR.app _ (UpdR.app _ (UpdR.app _ (UpdR.app _ (UpdR.there _ (UpdR.there _ (UpdR.here _ _ _ Nl))))))))) ((List.Sublist.append_left (List.Sublist.append_left (List.Sublist.append_left (List.Sublist.append_left (List.Sublist.append_left (sc _ (sc _ (sk _ sn))) _) _) _) _) _).trans (List.sublist_append_right _ _)) ?_
      simp only [qz, Nat.reduceAdd]
      refine rg_nil (ek_block (ek_next ?_))
      refine wk_region [0, 0, 0] rfl Kx ?_
      simp only [qy]
      refine rg_move ?_
      simp only [qz]
      refine rf_add (r := 4) rfl rfl rfl rfl (by decide) ?_
      simp only [qz]
      refine rg_assign ?_
      simp only [qz]
      refine rg_nil (ek_again (wk_seq (wk_seq ?_)))
      refine wk_region [0, 0] rfl Kx ?_
      simp only [qy]
      refine rg_move ?_
      simp only [qz]
      refine rf_lss (b := false) rfl rfl rfl rfl (by decide) ?_
      simp only [qz]
      refine rg_nil (ek_next (wk_cond_f rfl (wk_exit (ek_then_exit (ek_then_exit (ek_block_exit (ek_next (wk_seq ?_))))))))
      refine wk_region [0, 1] rfl Kx ?_
      simp only [qy]
      refine rf_loadR (n := 9) rfl rfl rfl Try.underlying73 rfl Kx (fun w hw => Kn.hd0 (Kn.tl (Kn.tl (Kn.tlU (Kn.tlU (Kn.tlU (Kn.tlU (Kn.tlU (Kn.tlU hw))))))))) rfl rfl ?_
      simp only [qz]
      refine rf_storeR (n := 9) rfl rfl Kx rfl rfl (UpdR.app _ (UpdR.app _ (UpdR.app _ (UpdR.app _ (UpdR.app _ (UpdR.app _ (UpdR.here _ _ _ Nl))))))) Nz ?_
      simp only [qz, Nat.reduceAdd]
      refine rg_nil (ek_next (wk_ret ?_))
      refine ek_ret (fun w hw => ⟨rfl, _, run_results1 rfl rfl (Kn.hd0 (Kn.tlU (Kn.tlU (Kn.tlU (Kn.tlU (Kn.tlU (Kn.tlU hw))))))) Try.underlying73 rfl Kx, ?_⟩)
      (try simp only [qz])
      have e : x.addR y = ⟨z.a + z2.a, z.b + z2.b, z.c + z2.c, z.d + z2.d, z.k⟩ := addR_up hz0.out hz1.out Ox Ox Ox
      show RetW _ (x.addR y) _ _
      rw [e]
      exact ⟨_, (u7 ++ (u6 ++ (u5 ++ u4))), rfl, ⟨_, _, _, _, rfl, ⟨(hS4.mono ((((List.Sublist.refl _).trans (List.sublist_append_right _ _)).trans (List.sublist_append_right _ _)).trans (List.sublist_append_right _ _))), (hS5.mono (((List.sublist_append_left _ _).trans (List.sublist_append_right _ _)).trans (List.sublist_append_right _ _))), (hS6.mono ((List.sublist_append_left _ _).trans (List.sublist_append_right _ _))), (hS7.mono (List.sublist_append_left _ _))⟩⟩, hw.made (List.Sublist.append_left (List.Sublist.append_left (List.Sublist.append_left (List.sublist_append_left _ _) _) _) _)⟩
    (try simp only [qd, ne_eq] at h2)
    simp only [qz]
    refine rg_nil (ek_next (wk_cond_t rfl (wk_skip (ek_next (wk_block ?_)))))
    refine wk_draws_m (hz1 := (List.Sublist.append_left (List.Sublist.append_left (sc _ (sk _ (sc _ sn))) _) _)) [(0, 0), (1, 0), (3, 0), (4, 0), (5, 3), (2, 1), (6, 0), (7, 2), (8, 0), (9, 1)] 7 Kx Kx (fun c d v a w h => by cases d <;> exact h) ?_
    simp only [List.map_cons, List.map_nil, List.getD_cons_zero, List.getD_cons_succ]
    refine rf_field (n := 7) (j := 0) rfl rfl rfl Try.underlying73 rfl Kx rfl ?_
    simp only [qz]
    refine rf_loadR (n := 8) rfl rfl rfl Try.underlying71 rfl Kx (fun w hw => Kn.hd0 (Kn.tl (Kn.tlU (Kn.tlU hw)))) rfl rfl ?_
    simp only [qz]
    refine rf_field (n := 0) (j := 8) rfl rfl rfl Try.underlying73 rfl Kx rfl ?_
    simp only [qz]
    refine rf_load rfl rfl rfl Try.underlying3 rfl (fun w hw => (Kn.hd0 (Kn.tl (Kn.tlU (Kn.tlU hw)))).at rfl) ?_
    simp only [qz]
    refine rf_add rfl rfl rfl rfl (wrap_ok Ox Ox) ?_
    simp only [qz]
    apply (rg_made (T := fun v u => ∃ s0 s1 s2 s3, v = arV (z2.tr) s0 s1 s2 s3 ∧ SU4 u (z2.tr) s0 s1 s2 s3)) Rx Kx
    case hargs => exact Ax
    case h => exact fun w hw => timesR_any z2 _ _ _ _ hfit1 w (hsk1.at hw (List.sublist_append_left _ _))
    case hz => exact (fun _ h => by cases h; exact (List.Sublist.append_left (List.Sublist.append_left (sc _ (sc _ (sc _ sn))) _) _))
    rintro _ u8 ⟨t0, t1, t2, t3, rfl, hS8⟩
    obtain ⟨⟨ta8_0, tc8_0, rfl⟩, -⟩ := id hS8.a
    obtain ⟨⟨ta8_1, tc8_1, rfl⟩, -⟩ := id hS8.b
    obtain ⟨⟨ta8_2, tc8_2, rfl⟩, -⟩ := id hS8.c
    obtain ⟨⟨ta8_3, tc8_3, rfl⟩, -⟩ := id hS8.d
    simp only [qz]
    refine rf_field (n := 7) (j := 0) rfl rfl rfl Try.underlying73 rfl Kx rfl ?_
    simp only [qz]
    refine rf_storeRM (n := 8) rfl rfl Kx rfl rfl (UpdR.app _ (UpdR.app _ (UpdR.app _ (UpdR.there _ (UpdR.here _ _ _ Nl))))) ((List.Sublist.append_left (List.Sublist.append_left (sc _ (sk _ (sc _ sn))) _) _).trans (List.sublist_append_right _ _)) ?_
    simp only [qz, Nat.reduceAdd]
    refine rf_field (n := 0) (j := 8) rfl rfl rfl Try.underlying73 rfl Kx rfl ?_
    simp only [qz]
    refine rf_store rfl rfl Kx rfl rfl (UpdR.app _ (UpdR.app _ (UpdR.app _ (UpdR.there _ (UpdR.here _ _ _ Nl))))) (fun _ h => by cases h; exact ((List.Sublist.append_left (List.Sublist.append_left (sc _ (sk _ (sc _ sn))) _) _).trans (List.sublist_append_right _ _))) ?_
    simp only [qz]
    refine rg_nil (ek_block ?_)
    have hup : Nm.up (i + 1) y = z2.tr := by rw [Nm.up_succ1, hz1.out]
    have hfn : z2.tr.Fit 9850501549098619803069760025035903451269934817616361666987073351061430442874302652853566563721228910201656997576704 := by rw [← hup]; exact up_fit_of hy Ox
    have hkt : z2.tr.k = z2.k + 1 := rfl
    refine ek_sub (List.Sublist.append_left ((List.Sublist.append_left (sc _ (sc _ (sc _ sn))) _).trans (List.sublist_append_right _ _)) _) ?_
    refine ek_roundF (20000 - (i + 1)) Ox Kx ?_
    exact ⟨i + 1, z2.tr, ta8_0, ta8_1, ta8_2, ta8_3, tc8_0, tc8_1, tc8_2, tc8_3, u8, by rfl, by rfl, hup, SK4.own hS8, hfn, Ox, Ox, Ox⟩
  (try simp only [qd, ne_eq] at h1)
  simp only [qz]
  refine rg_nil (ek_next (wk_cond_t rfl (wk_skip (ek_next (wk_block ?_)))))
  refine wk_draws_m (hz1 := (List.Sublist.append_left (sc _ (sc _ (sk _ sn))) _)) [(0, 0), (1, 0), (3, 0), (4, 0), (5, 3), (2, 1), (6, 0), (7, 2), (8, 0), (9, 1)] 7 Kx Kx (fun c d v a w h => by cases d <;> exact h) ?_
  simp only [List.map_cons, List.map_nil, List.getD_cons_zero, List.getD_cons_succ]
  refine rf_field (n := 7) (j := 0) rfl rfl rfl Try.underlying73 rfl Kx rfl ?_
  simp only [qz]
  refine rf_loadR (n := 8) rfl rfl rfl Try.underlying71 rfl Kx (fun w hw => Kn.hd0 (Kn.tl (Kn.tl (Kn.tlU hw)))) rfl rfl ?_
  simp only [qz]
  refine rf_field (n := 0) (j := 8) rfl rfl rfl Try.underlying73 rfl Kx rfl ?_
  simp only [qz]
  refine rf_load rfl rfl rfl Try.underlying3 rfl (fun w hw => (Kn.hd0 (Kn.tl (Kn.tl (Kn.tlU hw)))).at rfl) ?_
  simp only [qz]
  refine rf_add rfl rfl rfl rfl (wrap_ok Ox Ox) ?_
  simp only [qz]
  apply (rg_made (T := fun v u => ∃ s0 s1 s2 s3, v = arV (z.tr) s0 s1 s2 s3 ∧ SU4 u (z.tr) s0 s1 s2 s3)) Rx Kx
  case hargs => exact Ax
  case h => exact fun w hw => timesR_any z _ _ _ _ hfit0 w (hsk0.at hw (List.sublist_append_left _ _))
  case hz => exact (fun _ h => by cases h; exact (List.Sublist.append_left (sc _ (sc _ (sc _ sn))) _))
  rintro _ u9 ⟨t0, t1, t2, t3, rfl, hS9⟩
  obtain ⟨⟨ta9_0, tc9_0, rfl⟩, -⟩ := id hS9.a
  obtain ⟨⟨ta9_1, tc9_1, rfl⟩, -⟩ := id hS9.b
  obtain ⟨⟨ta9_2, tc9_2, rfl⟩, -⟩ := id hS9.c
  obtain ⟨⟨ta9_3, tc9_3, rfl⟩, -⟩ := id hS9.d
  simp only [qz]
  refine rf_field (n := 7) (j := 0) rfl rfl rfl Try.underlying73 rfl Kx rfl ?_
  simp only [qz]
  refine rf_storeRM (n := 8) rfl rfl Kx rfl rfl (UpdR.app _ (UpdR.app _ (UpdR.there _ (UpdR.there _ (UpdR.here _ _ _ Nl))))) ((List.Sublist.append_left (sc _ (sc _ (sk _ sn))) _).trans (List.sublist_append_right _ _)) ?_
  simp only [qz, Nat.reduceAdd]
  refine rf_field (n := 0) (j := 8) rfl rfl rfl Try.underlying73 rfl Kx rfl ?_
  simp only [qz]
  refine rf_store rfl rfl Kx rfl rfl (UpdR.app _ (UpdR.app _ (UpdR.there _ (UpdR.there _ (UpdR.here _ _ _ Nl))))) (fun _ h => by cases h; exact ((List.Sublist.append_left (sc _ (sc _ (sk _ sn))) _).trans (List.sublist_append_right _ _))) ?_
  simp only [qz]
  refine rg_nil (ek_block ?_)
  have hup : Nm.up (j + 1) x = z.tr := by rw [Nm.up_succ1, hz0.out]
  have hfn : z.tr.Fit 9850501549098619803069760025035903451269934817616361666987073351061430442874302652853566563721228910201656997576704 := by rw [← hup]; exact up_fit_of hx Ox
  have hkt : z.tr.k = z.k + 1 := rfl
  refine ek_sub (List.Sublist.append_left ((sc _ (sc _ (sc _ sn))).trans (List.sublist_append_right _ _)) _) ?_
  refine ek_roundF (20000 - (j + 1)) Ox Kx ?_
  exact ⟨j + 1, z.tr, ta9_0, ta9_1, ta9_2, ta9_3, tc9_0, tc9_1, tc9_2, tc9_3, u9, by rfl, by rfl, hup, SK4.own hS9, hfn, Ox, Ox, Ox⟩

end Go.Proofs.Ytjeijnjaleldkaa
namespace Go.Proofs.Ytjeijnjaleldkaa
set_option linter.all false
open Go.RowKit

/-- The digits of number m. -/
abbrev slD (T : Nat → Int) (sa : Nat → Option Addr) (sc : Nat → Nat) (m : Nat) : Value := .slice (sa m) (digs (T m).natAbs).length (sc m)
def wdC (T : Nat → Int) (sa : Nat → Option Addr) (sc : Nat → Nat) (k : Int) : Array Value :=
  #[.bool (decide (T 0 < 0)), slD T sa sc 0, .bool (decide (T 1 < 0)), slD T sa sc 1, .bool (decide (T 2 < 0)), slD T sa sc 2, .bool (decide (T 3 < 0)), slD T sa sc 3, .int .i64 k]
theorem wd_row {w : World} {g t m : Nat} {T : Nat → Int} {sa : Nat → Option Addr} {sc : Nat → Nat} {k : Int} (h : Hd w g t (wdC T sa sc k)) (hm : m < 4) : w.rangeAt g (0 + m * 2) [.bool (decide (T m < 0)), slD T sa sc m] := by
  have := cells_range h (0 + m * 2) 2
  have e : ((wdC T sa sc k).toList.drop (0 + m * 2)).take 2 = [.bool (decide (T m < 0)), slD T sa sc m] := by
    rcases lt4 hm with rfl | rfl | rfl | rfl <;> rfl
  rwa [e] at this
theorem wd_all {w : World} {g t : Nat} {T : Nat → Int} {sa : Nat → Option Addr} {sc : Nat → Nat} {k : Int} (h : Hd w g t (wdC T sa sc k)) :
    w.rangeAt g 0 [.bool (decide (T 0 < 0)), slD T sa sc 0, .bool (decide (T 1 < 0)), slD T sa sc 1, .bool (decide (T 2 < 0)), slD T sa sc 2, .bool (decide (T 3 < 0)), slD T sa sc 3, .int .i64 k] := cells_range h 0 9
theorem wd_set {m : Nat} {T : Nat → Int} {sa : Nat → Option Addr} {sc : Nat → Nat} {k : Int} {t : Int} {pa : Option Addr} {pc : Nat} (hm : m < 4) :
    setMany (wdC T sa sc k) (0 + m * 2) [.bool (decide (t < 0)), .slice pa (digs t.natAbs).length pc] = wdC (upd T m t) (upd sa m pa) (upd sc m pc) k := by
  rcases lt4 hm with rfl | rfl | rfl | rfl <;> rfl
theorem wd_set' {m : Nat} {T : Nat → Int} {sa : Nat → Option Addr} {sc : Nat → Nat} {k : Int} {t : Int} {pa : Option Addr} {pc : Nat} (hm : m < 4) :
    ((wdC T sa sc k).setIfInBounds (0 + m * 2) (.bool (decide (t < 0)))).setIfInBounds (0 + m * 2 + 1) (.slice pa (digs t.natAbs).length pc) = wdC (upd T m t) (upd sa m pa) (upd sc m pc) k := wd_set hm
theorem wd_size {T : Nat → Int} {sa : Nat → Option Addr} {sc : Nat → Nat} {k : Int} : (wdC T sa sc k).size = 9 := rfl
theorem wd_zero (k : Int) : (#[.bool false, .slice none 0 0, .bool false, .slice none 0 0, .bool false, .slice none 0 0, .bool false, .slice none 0 0, .int .i64 k] : Array Value) = wdC (fun _ => 0) (fun _ => none) (fun _ => 0) k := by
  unfold wdC
  simp only [slD, Int.natAbs_zero, digs_zero]
  rfl
theorem wd_wdV (z : Nm) (a0 a1 a2 a3 : Option Addr) (c0 c1 c2 c3 : Nat) : wdV z (.slice a0 (digs z.a.natAbs).length c0) (.slice a1 (digs z.b.natAbs).length c1) (.slice a2 (digs z.c.natAbs).length c2) (.slice a3 (digs z.d.natAbs).length c3) =
    .agg (wdC (sel4 z.a z.b z.c z.d) (sel4 a0 a1 a2 a3) (sel4 c0 c1 c2 c3) z.k) := rfl

/-- A call that hands back an amplitude of any size. -/
def RetT (w : World) (T : Nat → Int) (k : Int) (e : Ending) (w' : World) : Prop :=
  ∃ v u, e = .returned v ∧ (∃ sa sc, v = .agg (wdC T sa sc k) ∧ ∀ m, m < 4 → SU u (slD T sa sc m) (T m).natAbs) ∧ Made w u w'
theorem su_upd {u u' : List Blk} {T : Nat → Int} {sa : Nat → Option Addr} {sc : Nat → Nat} {j : Nat} {t : Int} {pa : Option Addr} {pc : Nat} (h : ∀ m, m < 4 → SU u (slD T sa sc m) (T m).natAbs) (h' : SU u' (.slice pa (digs t.natAbs).length pc) t.natAbs) :
    ∀ m, m < 4 → SU (u' ++ u) (slD (upd T j t) (upd sa j pa) (upd sc j pc) m) (upd T j t m).natAbs := by
  intro m hm
  by_cases e : m = j
  · subst e
    unfold slD
    rw [upd_same, upd_same, upd_same]
    exact h'.mono (List.sublist_append_left _ _)
  · unfold slD
    rw [upd_other T t e, upd_other sa pa e, upd_other sc pc e]
    exact (h m hm).mono (List.sublist_append_right _ _)
end Go.Proofs.Ytjeijnjaleldkaa
namespace Go.Proofs.Ytjeijnjaleldkaa
set_option linter.all false
open Go.RowKit

set_option maxRecDepth 100000 in
set_option maxHeartbeats 1000000 in
theorem wtimes_core (X Y : Nat → Int) (xa ya : Nat → Option Addr) (xc yc : Nat → Nat) (xk yk : Int) (lX : ∀ m, m < 4 → (digs (X m).natAbs).length ≤ 1000) (lY : ∀ m, m < 4 → (digs (Y m).natAbs).length ≤ 1000) (hP : ∀ i k, i < 4 → k < 4 → -1231312693637327475383720003129487931408741852202045208373384168882678805359287831606695820465153613775207124697088 ≤ X i * Y k ∧ X i * Y k ≤ 1231312693637327475383720003129487931408741852202045208373384168882678805359287831606695820465153613775207124697088) (hk : 0 ≤ xk) (hk1 : xk ≤ 10000) (hk2 : 0 ≤ yk) (hk3 : yk ≤ 10000) (w : World) (hX : ∀ m, m < 4 → SA w (slD X xa xc m) (X m).natAbs) (hY : ∀ m, m < 4 → SA w (slD Y ya yc m) (Y m).natAbs) : Calls Try.prog 108 #[.agg (wdC X xa xc xk), .agg (wdC Y ya yc yk)] w fun e w' => RetT w (acc X Y 16) (xk + yk) e w' := by
  go_enter Try.func108, Try.ntmps108
  refine wk_start ?_
  refine wk_seq ?_
  refine wk_region [1, 1, 1] rfl Kx ?_
  simp only [qy]
  refine Rgn fun g1 => ?_
  simp only [qz]
  refine Rgn fun g2 => ?_
  simp only [qz]
  refine Rgn fun g3 => ?_
  simp only [qz]
  refine rg_nil (ek_next (wk_seq ?_))
  refine wk_region [0, 0, 0, 0, 0, 0, 1, 1] rfl Kx ?_
  simp only [qy]
  refine rf_field (n := 0) (j := 8) rfl rfl rfl Try.underlying73 rfl Kx rfl ?_
  simp only [qz]
  refine rf_load rfl rfl rfl Try.underlying3 rfl (fun w hw => (Kn.hd0 (Kn.tl (Kn.tl hw))).at rfl) ?_
  simp only [qz]
  refine rf_field (n := 0) (j := 8) rfl rfl rfl Try.underlying73 rfl Kx rfl ?_
  simp only [qz]
  refine rf_load rfl rfl rfl Try.underlying3 rfl (fun w hw => (Kn.hd0 (Kn.tl hw)).at rfl) ?_
  simp only [qz]
  refine rf_add rfl rfl rfl rfl (wrap_ok Ox Ox) ?_
  simp only [qz]
  refine rf_build (cs := fun a => #[.bool false, .slice none 0 0, .bool false, .slice none 0 0, .bool false, .slice none 0 0, .bool false, .slice none 0 0, a.eval (.tmp 13)]) rfl rfl Kx ?_
  simp only [qz]
  refine Rgn fun g4 => ?_
  simp only [qz]
  refine rf_storeR (n := 9) rfl rfl Kx rfl rfl (UpdR.here _ _ _ Nl) Nz ?_
  simp only [qz, Nat.reduceAdd]
  refine rg_nil (ek_next (wk_seq (wk_seq ?_)))
  rw [wd_zero (xk + yk)]
  refine wk_region [0] rfl Kx ?_
  simp only [qy]
  refine rg_assign ?_
  simp only [qz]
  refine rg_nil (ek_next (wk_block ?_))
  refine wk_loopF [6, 7, 8, 15, 16, 17, 18, 19, 20, 21, 22, 23, 24, 25, 26, 27, 28, 29, 30, 31, 32, 33, 34, 35, 36, 37, 38, 39, 40, 41, 42, 43, 44, 45, 46, 47, 48, 49, 50, 51, 52] (fun mz f s => ∃ (i : Nat) (T : Nat → Int) (da : Nat → Option Addr) (dc : Nat → Nat) (u : List Blk), f 6 = .int .i64 i ∧ s = (u ++ ((g4, .cells (wdC T da dc (xk + yk)) 73) :: ((g3, .cells #[.bool false, .slice none 0 0, .bool false, .slice none 0 0, .bool false, .slice none 0 0, .bool false, .slice none 0 0, .int .i64 0] 73) :: ((g2, .cells (wdC Y ya yc yk) 73) :: ((g1, .cells (wdC X xa xc xk) 73) :: []))))) ∧ mz = 4 - i ∧ i ≤ 4 ∧ Hid (acc X Y (i * 4) = T) ∧ (∀ m, m < 4 → SU u (slD T da dc m) (T m).natAbs)) ((fun (i : Nat) (T : Nat → Int) (da : Nat → Option Addr) (dc : Nat → Nat) (u : List Blk) => 4 - i) (0) (fun _ => 0) (fun _ => none) (fun _ => 0) ([])) ?_ Kx ?_
  · exact ⟨0, fun _ => 0, fun _ => none, fun _ => 0, [], rfl, rfl, rfl, by omega, (Lib.hid rfl), (fun m _ => by unfold slD; simp only [Int.natAbs_zero, digs_zero]; exact SU.nil)⟩
  rintro mz f1 s ⟨i, T, da, dc, u, hs1_6, rfl, hn, hd1, hd2, hd3⟩
  simp only [Act.putF, List.foldl_cons, List.foldl_nil, hs1_6, Act.put, Act.eval, q1, q2, q3, q4, q5, q6, q7, q8, q9, q10, q11, q12, q13, q14, q15, q16, q17, q18, Nat.reduceAdd, Bool.not_true, Bool.not_false]
  clear hs1_6
  have hac := hd2
  have hsu := hd3
  clear hd2 hd3
  refine wk_seq (wk_seq ?_)
  refine wk_region [0, 0] rfl Kx ?_
  simp only [qy]
  refine rg_move ?_
  simp only [qz]
  refine rfb_lss rfl rfl rfl rfl ?_
  intro x h1
  cases x
  · (try simp only [qd, ne_eq] at h1)
    simp only [qz]
    refine rg_nil (ek_next (wk_cond_f rfl (wk_exit (ek_then_exit (ek_then_exit (ek_block_exit (ek_next (wk_seq ?_))))))))
    refine wk_region [0, 1] rfl Kx ?_
    simp only [qy]
    refine rf_loadC (n := 9) (vs := [.bool (decide (T 0 < 0)), slD T da dc 0, .bool (decide (T 1 < 0)), slD T da dc 1, .bool (decide (T 2 < 0)), slD T da dc 2, .bool (decide (T 3 < 0)), slD T da dc 3, .int .i64 (xk + yk)]) rfl rfl rfl Try.underlying73 rfl Kx rfl (fun w hw => wd_all (Kn.hd0 (Kn.tlU hw))) ?_
    simp only [qz]
    refine rf_storeR (n := 9) rfl rfl Kx rfl rfl (UpdR.app _ (UpdR.there _ (UpdR.here _ _ _ Nl))) Nz ?_
    simp only [qz, Nat.reduceAdd]
    refine rg_nil (ek_next (wk_ret ?_))
    refine ek_ret (fun w hw => ⟨rfl, _, run_results1 rfl rfl (Kn.hd0 (Kn.tl (Kn.tlU hw))) Try.underlying73 rfl Kx, ?_⟩)
    (try simp only [qz])
    obtain rfl : i = 4 := by omega
    exact ⟨_, u, rfl, ⟨da, dc, by rw [show acc X Y 16 = T from hac.out]; rfl, by rw [show acc X Y 16 = T from hac.out]; exact hsu⟩, hw.made (List.sublist_append_left _ _)⟩
  (try simp only [qd, ne_eq] at h1)
  simp only [qz]
  refine rg_nil (ek_next (wk_cond_t rfl (wk_skip (ek_next (wk_seq (wk_block (wk_seq ?_)))))))
  refine wk_region [0] rfl Kx ?_
  simp only [qy]
  refine rg_assign ?_
  simp only [qz]
  refine rg_nil (ek_next (wk_block ?_))
  refine wk_loopF [7, 8, 19, 20, 21, 22, 23, 24, 25, 26, 27, 28, 29, 30, 31, 32, 33, 34, 35, 36, 37, 38, 39, 40, 41, 42, 43, 44, 45, 46, 47, 48, 49, 50, 51, 52] (fun mz f s => ∃ (k : Nat) (T2 : Nat → Int) (da2 : Nat → Option Addr) (dc2 : Nat → Nat) (u2 : List Blk), f 7 = .int .i64 k ∧ s = (u2 ++ ((g4, .cells (wdC T2 da2 dc2 (xk + yk)) 73) :: ((g3, .cells #[.bool false, .slice none 0 0, .bool false, .slice none 0 0, .bool false, .slice none 0 0, .bool false, .slice none 0 0, .int .i64 0] 73) :: ((g2, .cells (wdC Y ya yc yk) 73) :: ((g1, .cells (wdC X xa xc xk) 73) :: []))))) ∧ mz = 4 - k ∧ k ≤ 4 ∧ Hid (acc X Y (i * 4 + k) = T2) ∧ (∀ m, m < 4 → SU u2 (slD T2 da2 dc2 m) (T2 m).natAbs)) ((fun (k : Nat) (T2 : Nat → Int) (da2 : Nat → Option Addr) (dc2 : Nat → Nat) (u2 : List Blk) => 4 - k) (0) (T) (da) (dc) (u)) ?_ Kx ?_
  · exact ⟨0, T, da, dc, u, rfl, rfl, rfl, by omega, hac, hsu⟩
  rintro mz f2 s ⟨k, T2, da2, dc2, u2, hs2_7, rfl, hn, he1, he2, he3⟩
  simp only [Act.putF, List.foldl_cons, List.foldl_nil, hs2_7, Act.put, Act.eval, q1, q2, q3, q4, q5, q6, q7, q8, q9, q10, q11, q12, q13, q14, q15, q16, q17, q18, Nat.reduceAdd, Bool.not_true, Bool.not_false]
  clear hs2_7
  have hac2 := he2
  have hsu2 := he3
  clear he2 he3
  refine wk_seq (wk_seq ?_)
  refine wk_region [0, 0] rfl Kx ?_
  simp only [qy]
  refine rg_move ?_
  simp only [qz]
  refine rfb_lss rfl rfl rfl rfl ?_
  intro x h2
  cases x
  · (try simp only [qd, ne_eq] at h2)
    simp only [qz]
    refine rg_nil (ek_next (wk_cond_f rfl (wk_exit (ek_then_exit (ek_then_exit (ek_block_exit (ek_block (ek_next ?_))))))))
    refine wk_region [0, 0, 0] rfl Kx ?_
    simp only [qy]
    refine rg_move ?_
    simp only [qz]
    refine rf_add rfl rfl rfl rfl (wrap_ok Ox Ox) ?_
    simp only [qz]
    refine rg_assign ?_
    simp only [qz]
    refine rg_nil ?_
    obtain rfl : k = 4 := by omega
    have hac' : acc X Y ((i + 1) * 4) = T2 := by rw [← hac2.out]; congr 1; omega
    refine ek_roundF (4 - (i + 1)) Ox Kx ?_
    exact ⟨i + 1, T2, da2, dc2, u2, rfl, by rfl, by rfl, Ox, (Lib.hid hac'), hsu2⟩
  (try simp only [qd, ne_eq] at h2)
  simp only [qz]
  refine rg_nil (ek_next (wk_cond_t rfl (wk_skip (ek_next (wk_seq (wk_block ?_))))))
  refine wk_cutF [8, 23, 24, 25, 26, 27, 28, 29, 30, 31] (fun f s => ∃ (gp : Nat) (uq : List Blk) (pa : Option Addr) (pc : Nat), f 8 = .pointer (some ⟨gp, 0, none⟩) ∧ s = ((gp, .cells #[.bool (decide (X i * Y k < 0)), .slice pa (digs (X i * Y k).natAbs).length pc] 70) :: (uq ++ (u2 ++ ((g4, .cells (wdC T2 da2 dc2 (xk + yk)) 73) :: ((g3, .cells #[.bool false, .slice none 0 0, .bool false, .slice none 0 0, .bool false, .slice none 0 0, .bool false, .slice none 0 0, .int .i64 0] 73) :: ((g2, .cells (wdC Y ya yc yk) 73) :: ((g1, .cells (wdC X xa xc xk) 73) :: []))))))) ∧ SU uq (.slice pa (digs (X i * Y k).natAbs).length pc) (X i * Y k).natAbs) ?_ ?_
  · refine wk_rt _ Kx (List.Sublist.append_left (sc _ (sc _ (sc _ (sc _ sn)))) _) ?_
    refine rt_soft (i := 0) rfl Kx (fun c d v a w h => by cases d <;> exact h) (List.Sublist.append_left (sc _ (sc _ (sc _ (sc _ sn)))) _) ?_
    refine rg_move ?_
    simp only [qz]
    refine rg_nil ?_
    refine ek_rt (List.Sublist.append_left (sc _ (sc _ (sc _ (sc _ sn)))) _) ?_
    refine rt_soft (i := 1) rfl Kx (fun c d v a w h => by cases d <;> exact h) (List.Sublist.append_left (sc _ (sc _ (sc _ (sc _ sn)))) _) ?_
    refine rf_field (n := 7) (j := 0) rfl rfl rfl Try.underlying73 rfl Kx rfl ?_
    simp only [qz]
    refine rg_nil ?_
    refine ek_rt (List.Sublist.append_left (sc _ (sc _ (sc _ (sc _ sn)))) _) ?_
    refine rt_soft (i := 2) rfl Kx (fun c d v a w h => by cases d <;> exact h) (List.Sublist.append_left (sc _ (sc _ (sc _ (sc _ sn)))) _) ?_
    refine rf_indexA (n := i) (sz := 2) (j := 0 + i * 2) rfl rfl rfl rfl Try.underlying71 Kx Ox rfl ?_
    simp only [qz]
    refine rg_nil ?_
    refine ek_rt (List.Sublist.append_left (sc _ (sc _ (sc _ (sc _ sn)))) _) ?_
    refine rt_soft (i := 3) rfl Kx (fun c d v a w h => by cases d <;> exact h) (List.Sublist.append_left (sc _ (sc _ (sc _ (sc _ sn)))) _) ?_
    refine rf_loadC (n := 2) (vs := [.bool (decide (X (i) < 0)), slD X xa xc (i)]) rfl rfl rfl Try.underlying70 rfl Kx rfl (fun w hw => wd_row (Kn.hd0 (Kn.tl (Kn.tl (Kn.tl (Kn.tlU hw))))) Ox) ?_
    simp only [qz]
    refine rg_nil ?_
    refine ek_rt (List.Sublist.append_left (sc _ (sc _ (sc _ (sc _ sn)))) _) ?_
    refine rt_soft (i := 4) rfl Kx (fun c d v a w h => by cases d <;> exact h) (List.Sublist.append_left (sc _ (sc _ (sc _ (sc _ sn)))) _) ?_
    refine rg_move ?_
    simp only [qz]
    refine rg_nil ?_
    refine ek_rt (List.Sublist.append_left (sc _ (sc _ (sc _ (sc _ sn)))) _) ?_
    refine rt_soft (i := 5) rfl Kx (fun c d v a w h => by cases d <;> exact h) (List.Sublist.append_left (sc _ (sc _ (sc _ (sc _ sn)))) _) ?_
    refine rf_field (n := 7) (j := 0) rfl rfl rfl Try.underlying73 rfl Kx rfl ?_
    simp only [qz]
    refine rg_nil ?_
    refine ek_rt (List.Sublist.append_left (sc _ (sc _ (sc _ (sc _ sn)))) _) ?_
    refine rt_soft (i := 6) rfl Kx (fun c d v a w h => by cases d <;> exact h) (List.Sublist.append_left (sc _ (sc _ (sc _ (sc _ sn)))) _) ?_
    refine rf_indexA (n := k) (sz := 2) (j := 0 + k * 2) rfl rfl rfl rfl Try.underlying71 Kx Ox rfl ?_
    simp only [qz]
    refine rg_nil ?_
    refine ek_rt (List.Sublist.append_left (sc _ (sc _ (sc _ (sc _ sn)))) _) ?_
    refine rt_soft (i := 7) rfl Kx (fun c d v a w h => by cases d <;> exact h) (List.Sublist.append_left (sc _ (sc _ (sc _ (sc _ sn)))) _) ?_
    refine rf_loadC (n := 2) (vs := [.bool (decide (Y (k) < 0)), slD Y ya yc (k)]) rfl rfl rfl Try.underlying70 rfl Kx rfl (fun w hw => wd_row (Kn.hd0 (Kn.tl (Kn.tl (Kn.tlU hw)))) Ox) ?_
    simp only [qz]
    refine rg_nil ?_
    refine ek_rt (List.Sublist.append_left (sc _ (sc _ (sc _ (sc _ sn)))) _) ?_
    refine rt_hard2 (i := 8) (j := 9) Kx rfl rfl ?_ ?_
    · apply (rg_made (T := fun v u => ∃ s, v = bgV (X i * Y k) s ∧ SU u s (X i * Y k).natAbs)) Rx Kx
      case hargs => exact Ax
      case h => exact fun w hw => bmul_any (X i) (Y k) _ _ (lX i Ox) (lY k Ox) w ((hX i Ox).kn hw) ((hY k Ox).kn hw)
      case hz => exact (fun _ h => by cases h; exact (List.Sublist.append_left (sc _ (sc _ (sc _ (sc _ sn)))) _))
      rintro _ uP ⟨sP, rfl, hSP⟩
      obtain ⟨⟨daP, dcP, rfl⟩, -⟩ := id hSP
      simp only [qz]
      refine rg_nil ?_
      refine ek_rt ((List.Sublist.append_left (sc _ (sc _ (sc _ (sc _ sn)))) _).trans (List.sublist_append_right _ _)) ?_
      refine rt_hard1 (i := 9) Kx rfl ?_
      refine rg_new (cs := ?_) (ty := ?_) Rx (fun w => ?_) (fun _ h => by cases h; exact ((List.Sublist.append_left (sc _ (sc _ (sc _ (sc _ sn)))) _).trans (List.sublist_append_right _ _))) (fun g5 => ?_); rotate_left 2
      focus (go_simp; rfl)
      simp only [qz]
      refine rg_nil ?_
      refine ek_rt (sk _ ((List.Sublist.append_left (sc _ (sc _ (sc _ (sc _ sn)))) _).trans (List.sublist_append_right _ _))) ?_
      refine rt_hard1 (i := 10) Kx rfl ?_
      refine rf_storeR (n := 2) rfl rfl Kx rfl rfl (UpdR.here _ _ _ Nl) (fun _ h => by cases h; exact (sk _ ((List.Sublist.append_left (sc _ (sc _ (sc _ (sc _ sn)))) _).trans (List.sublist_append_right _ _)))) ?_
      simp only [qz, Nat.reduceAdd]
      refine rg_nil ?_
      refine ek_rt (sk _ ((List.Sublist.append_left (sc _ (sc _ (sc _ (sc _ sn)))) _).trans (List.sublist_append_right _ _))) ?_
      refine rt_nil Kx ?_
      refine ek_midF Kx ?_
      exact ⟨g5, uP, daP, dcP, rfl, by rfl, hSP⟩
    refine rg_new (cs := ?_) (ty := ?_) Rx (fun w => ?_) (fun _ h => by cases h; exact (List.Sublist.append_left (sc _ (sc _ (sc _ (sc _ sn)))) _)) (fun g6 => ?_); rotate_left 2
    focus (go_simp; rfl)
    simp only [qz]
    refine rg_nil ?_
    refine ek_rt (sk _ (List.Sublist.append_left (sc _ (sc _ (sc _ (sc _ sn)))) _)) ?_
    refine rt_hard1 (i := 8) Kx rfl ?_
    apply (rg_made (T := fun v u => ∃ s, v = bgV (X i * Y k) s ∧ SU u s (X i * Y k).natAbs)) Rx Kx
    case hargs => exact Ax
    case h => exact fun w hw => bmul_any (X i) (Y k) _ _ (lX i Ox) (lY k Ox) w ((hX i Ox).kn hw) ((hY k Ox).kn hw)
    case hz => exact (fun _ h => by cases h; exact (sk _ (List.Sublist.append_left (sc _ (sc _ (sc _ (sc _ sn)))) _)))
    rintro _ uP ⟨sP, rfl, hSP⟩
    obtain ⟨⟨daP, dcP, rfl⟩, -⟩ := id hSP
    simp only [qz]
    refine rg_nil ?_
    refine ek_rt ((sk _ (List.Sublist.append_left (sc _ (sc _ (sc _ (sc _ sn)))) _)).trans (List.sublist_append_right _ _)) ?_
    refine rt_hard1 (i := 10) Kx rfl ?_
    refine rf_storeR (n := 2) rfl rfl Kx rfl rfl (UpdR.app _ (UpdR.here _ _ _ Nl)) (fun _ h => by cases h; exact ((sk _ (List.Sublist.append_left (sc _ (sc _ (sc _ (sc _ sn)))) _)).trans (List.sublist_append_right _ _))) ?_
    simp only [qz, Nat.reduceAdd]
    refine rg_nil ?_
    refine ek_rt ((sk _ (List.Sublist.append_left (sc _ (sc _ (sc _ (sc _ sn)))) _)).trans (List.sublist_append_right _ _)) ?_
    refine rt_nil Kx ?_
    refine ek_perm (perm_at (l := (uP)) (((((((List.Perm.refl _).cons _).cons _).cons _).cons _).append_left _).append_left _)) ?_
    refine ek_midF Kx ?_
    exact ⟨g6, uP, daP, dcP, rfl, by rfl, hSP⟩
  rintro f3 s ⟨gp, uq, pa, pc, hs3_8, rfl, hSp⟩
  simp only [Act.putF, List.foldl_cons, List.foldl_nil, hs3_8, Act.put, Act.eval, q1, q2, q3, q4, q5, q6, q7, q8, q9, q10, q11, q12, q13, q14, q15, q16, q17, q18, Nat.reduceAdd, Bool.not_true, Bool.not_false]
  clear hs3_8
  have hpp := hP i k Ox Ox
  refine wk_seq (wk_seq ?_)
  refine wk_region [0, 0, 0, 0] rfl Kx ?_
  simp only [qy]
  refine rg_move ?_
  simp only [qz]
  refine rg_move ?_
  simp only [qz]
  refine rf_add rfl rfl rfl rfl (wrap_ok Ox Ox) ?_
  simp only [qz]
  refine rfb_geq rfl rfl rfl rfl ?_
  intro x h3
  cases x
  · (try simp only [qd, ne_eq] at h3)
    simp only [qz]
    refine rg_nil (ek_next (wk_cond_f rfl (wk_skip (ek_next ?_))))
    refine wk_draws_m (hz1 := (sc _ (List.Sublist.append_left (List.Sublist.append_left (sk _ (sc _ (sc _ (sc _ sn)))) _) _))) [(0, 0), (1, 0), (2, 0), (3, 0), (4, 0), (5, 0), (6, 0), (7, 0), (8, 0), (9, 0), (10, 0), (11, 0), (13, 3), (12, 1), (14, 0), (15, 2)] 15 Kx Kx (fun c d v a w h => by cases d <;> exact h) ?_
    simp only [List.map_cons, List.map_nil, List.getD_cons_zero, List.getD_cons_succ]
    refine rg_move ?_
    simp only [qz]
    refine rg_move ?_
    simp only [qz]
    refine rf_add rfl rfl rfl rfl (wrap_ok Ox Ox) ?_
    simp only [qz]
    refine rf_rem (r := (((i + k) % 4 : Nat) : Int)) rfl rfl rfl rfl (by decide) ((rem_ok Ox).trans Ox) ?_
    simp only [qz]
    refine rg_move ?_
    simp only [qz]
    refine rg_move ?_
    simp only [qz]
    refine rf_add rfl rfl rfl rfl (wrap_ok Ox Ox) ?_
    simp only [qz]
    refine rf_rem (r := (((i + k) % 4 : Nat) : Int)) rfl rfl rfl rfl (by decide) ((rem_ok Ox).trans Ox) ?_
    simp only [qz]
    refine rf_field (n := 7) (j := 0) rfl rfl rfl Try.underlying73 rfl Kx rfl ?_
    simp only [qz]
    refine rf_indexA (n := (i + k) % 4) (sz := 2) (j := 0 + ((i + k) % 4) * 2) rfl rfl rfl rfl Try.underlying71 Kx Ox rfl ?_
    simp only [qz]
    refine rf_loadC (n := 2) (vs := [.bool (decide (T2 ((i + k) % 4) < 0)), slD T2 da2 dc2 ((i + k) % 4)]) rfl rfl rfl Try.underlying70 rfl Kx rfl (fun w hw => wd_row (Kn.hd0 (Kn.tlU (Kn.tlU (Kn.tl hw)))) Ox) ?_
    simp only [qz]
    refine rf_loadR (n := 2) rfl rfl rfl Try.underlying70 rfl Kx (fun w hw => Kn.hd0 hw) rfl rfl ?_
    simp only [qz]
    refine rf_field (n := 7) (j := 0) rfl rfl rfl Try.underlying73 rfl Kx rfl ?_
    simp only [qz]
    have hT := acc_bound (X := X) (Y := Y) (by decide) hP (i * 4 + k) ((i + k) % 4) Ox
    rw [hac2.out] at hT
    have hn15 : ((i * 4 + k : Nat) : Int) * 1231312693637327475383720003129487931408741852202045208373384168882678805359287831606695820465153613775207124697088 ≤ 15 * 1231312693637327475383720003129487931408741852202045208373384168882678805359287831606695820465153613775207124697088 := Int.mul_le_mul_of_nonneg_right Ox (by decide)
    have hpp := hP i k Ox Ox
    apply (rg_made (T := fun v u => ∃ s, v = bgV (T2 ((i + k) % 4) + X i * Y k) s ∧ SU u s (T2 ((i + k) % 4) + X i * Y k).natAbs)) Rx Kx
    case hargs => exact Ax
    case h => exact fun w hw => badd_any (T2 ((i + k) % 4)) (X i * Y k) _ _ (len_big Ox Ox) (len_big Ox Ox) w ((hsu2 _ Ox).at hw (List.Sublist.cons _ ((List.sublist_append_left _ _).trans (List.sublist_append_right _ _)))) (hSp.at hw (List.Sublist.cons _ (List.sublist_append_left _ _)))
    case hz => exact (fun _ h => by cases h; exact (sc _ (List.Sublist.append_left (List.Sublist.append_left (sc _ (sc _ (sc _ (sc _ sn)))) _) _)))
    rintro _ uN ⟨sN, rfl, hSN⟩
    obtain ⟨⟨daN, dcN, rfl⟩, -⟩ := id hSN
    simp only [qz]
    refine rf_indexA (n := (i + k) % 4) (sz := 2) (j := 0 + ((i + k) % 4) * 2) rfl rfl rfl rfl Try.underlying71 Kx Ox rfl ?_
    simp only [qz]
    refine rf_storeRM (n := 2) rfl rfl Kx rfl rfl (UpdR.app _ (UpdR.there _ (UpdR.app _ (UpdR.app _ (UpdR.here _ _ _ (show 0 + ((i + k) % 4) * 2 + 2 ≤ 9 by omega)))))) ((sc _ (List.Sublist.append_left (List.Sublist.append_left (sk _ (sc _ (sc _ (sc _ sn)))) _) _)).trans (List.sublist_append_right _ _)) ?_
    simp only [qz, Nat.reduceAdd]
    refine rg_nil (ek_block (ek_next ?_))
    refine wk_region [0, 0, 0] rfl Kx ?_
    simp only [qy]
    refine rg_move ?_
    simp only [qz]
    refine rf_add rfl rfl rfl rfl (wrap_ok Ox Ox) ?_
    simp only [qz]
    refine rg_assign ?_
    simp only [qz]
    refine rg_nil ?_
    refine ek_sub (List.Sublist.append_left (sk _ ((List.Sublist.append_left (sc _ (sc _ (sc _ (sc _ sn)))) _).trans (List.sublist_append_right _ _))) _) ?_
    refine ek_roundF (4 - (k + 1)) Ox Kx ?_
    exact ⟨k + 1, upd T2 ((i + k) % 4) (T2 ((i + k) % 4) + X i * Y k), upd da2 ((i + k) % 4) daN, upd dc2 ((i + k) % 4) dcN, uN ++ u2, rfl, (by rw [List.append_assoc, wd_set' Ox]), by rfl, Ox, (Lib.hid (by rw [acc_step Ox hac2.out, if_neg Ox])), (su_upd hsu2 hSN)⟩
  (try simp only [qd, ne_eq] at h3)
  simp only [qz]
  refine rg_nil (ek_next (wk_cond_t rfl ?_))
  refine wk_region [0, 1, 1] rfl Kx ?_
  simp only [qy]
  refine rf_loadR (n := 2) rfl rfl rfl Try.underlying70 rfl Kx (fun w hw => Kn.hd0 hw) rfl rfl ?_
  simp only [qz]
  apply rg_pure Rx Kx
  case hargs => exact Ax
  case h => exact fun w hw => bneg_any (X i * Y k) _ (len_big Ox Ox) w (hSp.at hw (List.Sublist.cons _ (List.sublist_append_left _ _)))
  case hz => exact Nz
  simp only [qz]
  refine rf_storeR (n := 2) rfl rfl Kx rfl rfl (UpdR.here _ _ _ Nl) Nz ?_
  simp only [qz, Nat.reduceAdd]
  refine rg_nil (ek_next ?_)
  refine wk_draws_m (hz1 := (sc _ (List.Sublist.append_left (List.Sublist.append_left (sk _ (sc _ (sc _ (sc _ sn)))) _) _))) [(0, 0), (1, 0), (2, 0), (3, 0), (4, 0), (5, 0), (6, 0), (7, 0), (8, 0), (9, 0), (10, 0), (11, 0), (13, 3), (12, 1), (14, 0), (15, 2)] 15 Kx Kx (fun c d v a w h => by cases d <;> exact h) ?_
  simp only [List.map_cons, List.map_nil, List.getD_cons_zero, List.getD_cons_succ]
  refine rg_move ?_
  simp only [qz]
  refine rg_move ?_
  simp only [qz]
  refine rf_add rfl rfl rfl rfl (wrap_ok Ox Ox) ?_
  simp only [qz]
  refine rf_rem (r := (((i + k) % 4 : Nat) : Int)) rfl rfl rfl rfl (by decide) ((rem_ok Ox).trans Ox) ?_
  simp only [qz]
  refine rg_move ?_
  simp only [qz]
  refine rg_move ?_
  simp only [qz]
  refine rf_add rfl rfl rfl rfl (wrap_ok Ox Ox) ?_
  simp only [qz]
  refine rf_rem (r := (((i + k) % 4 : Nat) : Int)) rfl rfl rfl rfl (by decide) ((rem_ok Ox).trans Ox) ?_
  simp only [qz]
  refine rf_field (n := 7) (j := 0) rfl rfl rfl Try.underlying73 rfl Kx rfl ?_
  simp only [qz]
  refine rf_indexA (n := (i + k) % 4) (sz := 2) (j := 0 + ((i + k) % 4) * 2) rfl rfl rfl rfl Try.underlying71 Kx Ox rfl ?_
  simp only [qz]
  refine rf_loadC (n := 2) (vs := [.bool (decide (T2 ((i + k) % 4) < 0)), slD T2 da2 dc2 ((i + k) % 4)]) rfl rfl rfl Try.underlying70 rfl Kx rfl (fun w hw => wd_row (Kn.hd0 (Kn.tlU (Kn.tlU (Kn.tl hw)))) Ox) ?_
  simp only [qz]
  refine rf_loadR (n := 2) rfl rfl rfl Try.underlying70 rfl Kx (fun w hw => Kn.hd0 hw) rfl rfl ?_
  simp only [qz]
  refine rf_field (n := 7) (j := 0) rfl rfl rfl Try.underlying73 rfl Kx rfl ?_
  simp only [qz]
  have hT := acc_bound (X := X) (Y := Y) (by decide) hP (i * 4 + k) ((i + k) % 4) Ox
  rw [hac2.out] at hT
  have hn15 : ((i * 4 + k : Nat) : Int) * 1231312693637327475383720003129487931408741852202045208373384168882678805359287831606695820465153613775207124697088 ≤ 15 * 1231312693637327475383720003129487931408741852202045208373384168882678805359287831606695820465153613775207124697088 := Int.mul_le_mul_of_nonneg_right Ox (by decide)
  have hpp := hP i k Ox Ox
  apply (rg_made (T := fun v u => ∃ s, v = bgV (T2 ((i + k) % 4) + -(X i * Y k)) s ∧ SU u s (T2 ((i + k) % 4) + -(X i * Y k)).natAbs)) Rx Kx
  case hargs => exact Ax
  case h => exact fun w hw => badd_any (T2 ((i + k) % 4)) (-(X i * Y k)) _ _ (len_big Ox Ox) (len_big Ox Ox) w ((hsu2 _ Ox).at hw (List.Sublist.cons _ ((List.sublist_append_left _ _).trans (List.sublist_append_right _ _)))) (by rw [Int.natAbs_neg]; exact hSp.at hw (List.Sublist.cons _ (List.sublist_append_left _ _)))
  case hz => exact (fun _ h => by cases h; exact (sc _ (List.Sublist.append_left (List.Sublist.append_left (sc _ (sc _ (sc _ (sc _ sn)))) _) _)))
  rintro _ uN ⟨sN, rfl, hSN⟩
  obtain ⟨⟨daN, dcN, rfl⟩, -⟩ := id hSN
  simp only [qz]
  refine rf_indexA (n := (i + k) % 4) (sz := 2) (j := 0 + ((i + k) % 4) * 2) rfl rfl rfl rfl Try.underlying71 Kx Ox rfl ?_
  simp only [qz]
  refine rf_storeRM (n := 2) rfl rfl Kx rfl rfl (UpdR.app _ (UpdR.there _ (UpdR.app _ (UpdR.app _ (UpdR.here _ _ _ (show 0 + ((i + k) % 4) * 2 + 2 ≤ 9 by omega)))))) ((sc _ (List.Sublist.append_left (List.Sublist.append_left (sk _ (sc _ (sc _ (sc _ sn)))) _) _)).trans (List.sublist_append_right _ _)) ?_
  simp only [qz, Nat.reduceAdd]
  refine rg_nil (ek_block (ek_next ?_))
  refine wk_region [0, 0, 0] rfl Kx ?_
  simp only [qy]
  refine rg_move ?_
  simp only [qz]
  refine rf_add rfl rfl rfl rfl (wrap_ok Ox Ox) ?_
  simp only [qz]
  refine rg_assign ?_
  simp only [qz]
  refine rg_nil ?_
  refine ek_sub (List.Sublist.append_left (sk _ ((List.Sublist.append_left (sc _ (sc _ (sc _ (sc _ sn)))) _).trans (List.sublist_append_right _ _))) _) ?_
  refine ek_roundF (4 - (k + 1)) Ox Kx ?_
  exact ⟨k + 1, upd T2 ((i + k) % 4) (T2 ((i + k) % 4) + -(X i * Y k)), upd da2 ((i + k) % 4) daN, upd dc2 ((i + k) % 4) dcN, uN ++ u2, rfl, (by rw [List.append_assoc, wd_set' Ox]), by rfl, Ox, (Lib.hid (by rw [acc_step Ox hac2.out, if_pos Ox])), (su_upd hsu2 hSN)⟩

def ProdB (x y : Nm) : Prop := ∀ i k, i < 4 → k < 4 → -1231312693637327475383720003129487931408741852202045208373384168882678805359287831606695820465153613775207124697088 ≤ sel4 x.a x.b x.c x.d i * sel4 y.a y.b y.c y.d k ∧ sel4 x.a x.b x.c x.d i * sel4 y.a y.b y.c y.d k ≤ 1231312693637327475383720003129487931408741852202045208373384168882678805359287831606695820465153613775207124697088
theorem prodB_ok {x y : Nm} (hx : x.Fit 1000000000) (hy : y.Fit 1000000000) : ProdB x y := by
  obtain ⟨a1, a2, a3, a4, a5, a6, a7, a8⟩ := hx
  obtain ⟨b1, b2, b3, b4, b5, b6, b7, b8⟩ := hy
  have key : ∀ a b : Int, -1000000000 ≤ a → a ≤ 1000000000 → -1000000000 ≤ b → b ≤ 1000000000 → -1231312693637327475383720003129487931408741852202045208373384168882678805359287831606695820465153613775207124697088 ≤ a * b ∧ a * b ≤ 1231312693637327475383720003129487931408741852202045208373384168882678805359287831606695820465153613775207124697088 := fun a b h1 h2 h3 h4 => by
    have := mul_le h1 h2 h3 h4
    omega
  intro i k hi hk
  rcases lt4 hi with rfl | rfl | rfl | rfl <;> rcases lt4 hk with rfl | rfl | rfl | rfl <;> exact key _ _ (by assumption) (by assumption) (by assumption) (by assumption)
theorem wtimes_any (x y : Nm) (s0 s1 s2 s3 p0 p1 p2 p3 : Value) (hx : x.Fit 9850501549098619803069760025035903451269934817616361666987073351061430442874302652853566563721228910201656997576704) (hy : y.Fit 9850501549098619803069760025035903451269934817616361666987073351061430442874302652853566563721228910201656997576704) (hP : ProdB x y) (hk : 0 ≤ x.k) (hk1 : x.k ≤ 10000) (hk2 : 0 ≤ y.k) (hk3 : y.k ≤ 10000) (w : World) (hs : SA4 w x s0 s1 s2 s3) (hs2 : SA4 w y p0 p1 p2 p3) :
    Calls Try.prog 108 #[wdV x s0 s1 s2 s3, wdV y p0 p1 p2 p3] w fun e w' => RetW w (x.mulR y) e w' := by
  obtain ⟨⟨a0, c0, rfl⟩, ⟨a1, c1, rfl⟩, ⟨a2, c2, rfl⟩, ⟨a3, c3, rfl⟩⟩ := (⟨hs.a.form, hs.b.form, hs.c.form, hs.d.form⟩ : _ ∧ _ ∧ _ ∧ _)
  obtain ⟨⟨b0, d0, rfl⟩, ⟨b1, d1, rfl⟩, ⟨b2, d2, rfl⟩, ⟨b3, d3, rfl⟩⟩ := (⟨hs2.a.form, hs2.b.form, hs2.c.form, hs2.d.form⟩ : _ ∧ _ ∧ _ ∧ _)
  obtain ⟨la, lb, lc, ld⟩ := fit_big hx
  obtain ⟨ma, mb, mc, md⟩ := fit_big hy
  refine (wtimes_core (sel4 x.a x.b x.c x.d) (sel4 y.a y.b y.c y.d) (sel4 a0 a1 a2 a3) (sel4 b0 b1 b2 b3) (sel4 c0 c1 c2 c3) (sel4 d0 d1 d2 d3) x.k y.k (sel_cases la lb lc ld) (sel_cases ma mb mc md) hP hk hk1 hk2 hk3 w (sel_cases hs.a hs.b hs.c hs.d) (sel_cases hs2.a hs2.b hs2.c hs2.d)).mono ?_
  rintro e w' ⟨v, u, he, ⟨sa, sc, hv, hsu⟩, hm⟩
  rw [← acc_16 x y]
  exact ⟨v, u, he, ⟨_, _, _, _, hv, ⟨hsu 0 (by decide), hsu 1 (by decide), hsu 2 (by decide), hsu 3 (by decide)⟩⟩, hm⟩
end Go.Proofs.Ytjeijnjaleldkaa
namespace Go.Proofs.Ytjeijnjaleldkaa
set_option linter.all false
open Go.RowKit

theorem tr_len {z : Nm} (h : z.Fit 9850501549098619803069760025035903451269934817616361666987073351061430442874302652853566563721228910201656997576704) : (digs z.tr.a.natAbs).length ≤ 1000 ∧ (digs z.tr.b.natAbs).length ≤ 1000 ∧ (digs z.tr.c.natAbs).length ≤ 1000 ∧ (digs z.tr.d.natAbs).length ≤ 1000 := by
  obtain ⟨h1, h2, h3, h4, h5, h6, h7, h8⟩ := h
  simp only [Nm.tr]
  exact ⟨len_big Ox Ox, len_big Ox Ox, len_big Ox Ox, len_big Ox Ox⟩
set_option maxRecDepth 100000 in
set_option maxHeartbeats 2000000 in
theorem wnum_any (z : Nm) (s0 s1 s2 s3 : Value) (hz : z.Fit 9850501549098619803069760025035903451269934817616361666987073351061430442874302652853566563721228910201656997576704) (hk : 0 ≤ z.k) (hk1 : z.k ≤ 10000) (w : World) (hs : SA4 w z s0 s1 s2 s3) : Calls Try.prog 60 #[wdV z s0 s1 s2 s3] w fun e w' => e = .returned (.tuple #[nmV (wnum z).1, .bool (wnum z).2]) ∧ Below w.heap.size w w' := by
  obtain ⟨⟨a0, c0, rfl⟩, ⟨a1, c1, rfl⟩, ⟨a2, c2, rfl⟩, ⟨a3, c3, rfl⟩⟩ := (⟨hs.a.form, hs.b.form, hs.c.form, hs.d.form⟩ : _ ∧ _ ∧ _ ∧ _)
  go_enter Try.func60, Try.ntmps60
  refine wk_start ?_
  refine wk_seq ?_
  refine wk_region [1, 1, 0] rfl Kx ?_
  simp only [qy]
  refine Rgn fun g1 => ?_
  simp only [qz]
  refine Rgn fun g2 => ?_
  simp only [qz]
  refine rg_assign ?_
  simp only [qz]
  refine rg_nil (ek_next ?_)
  refine wk_cutF [4, 5, 10, 11, 12, 13, 14, 15, 16, 17, 18, 19, 20, 21, 22, 23, 24, 25, 26, 27, 28, 29, 30, 31, 32, 33, 34, 35, 36, 37, 38, 39, 40, 41, 42, 43, 44, 45, 46, 47, 48, 49, 50, 51] (fun f s => ∃ (y : Nm) (ta0 ta1 ta2 ta3 : Option Addr) (tc0 tc1 tc2 tc3 : Nat) (u : List Blk), s = (u ++ ((g2, .cells #[.int .i64 0, .int .i64 0, .int .i64 0, .int .i64 0, .int .i64 0] 29) :: ((g1, .cells #[.bool (decide (y.a < 0)), .slice ta0 (digs y.a.natAbs).length tc0, .bool (decide (y.b < 0)), .slice ta1 (digs y.b.natAbs).length tc1, .bool (decide (y.c < 0)), .slice ta2 (digs y.c.natAbs).length tc2, .bool (decide (y.d < 0)), .slice ta3 (digs y.d.natAbs).length tc3, .int .i64 y.k] 73) :: []))) ∧ Hid (y.nf = z.nf) ∧ y.nf = y ∧ SK4 w u y (.slice ta0 (digs y.a.natAbs).length tc0) (.slice ta1 (digs y.b.natAbs).length tc1) (.slice ta2 (digs y.c.natAbs).length tc2) (.slice ta3 (digs y.d.natAbs).length tc3) ∧ y.Fit 9850501549098619803069760025035903451269934817616361666987073351061430442874302652853566563721228910201656997576704) ?_ ?_
  · refine wk_block ?_
    refine wk_loopF [4, 5, 10, 11, 12, 13, 14, 15, 16, 17, 18, 19, 20, 21, 22, 23, 24, 25, 26, 27, 28, 29, 30, 31, 32, 33, 34, 35, 36, 37, 38, 39, 40, 41, 42, 43, 44, 45, 46, 47, 48, 49, 50, 51] (fun mz f s => ∃ (y : Nm) (ta0 ta1 ta2 ta3 : Option Addr) (tc0 tc1 tc2 tc3 : Nat) (u : List Blk), s = (u ++ ((g2, .cells #[.int .i64 0, .int .i64 0, .int .i64 0, .int .i64 0, .int .i64 0] 29) :: ((g1, .cells #[.bool (decide (y.a < 0)), .slice ta0 (digs y.a.natAbs).length tc0, .bool (decide (y.b < 0)), .slice ta1 (digs y.b.natAbs).length tc1, .bool (decide (y.c < 0)), .slice ta2 (digs y.c.natAbs).length tc2, .bool (decide (y.d < 0)), .slice ta3 (digs y.d.natAbs).length tc3, .int .i64 y.k] 73) :: []))) ∧ mz = y.k.toNat ∧ Hid (y.nf = z.nf) ∧ SK4 w u y (.slice ta0 (digs y.a.natAbs).length tc0) (.slice ta1 (digs y.b.natAbs).length tc1) (.slice ta2 (digs y.c.natAbs).length tc2) (.slice ta3 (digs y.d.natAbs).length tc3) ∧ y.Fit 9850501549098619803069760025035903451269934817616361666987073351061430442874302652853566563721228910201656997576704 ∧ 0 ≤ y.k ∧ y.k ≤ 10000) ((fun (y : Nm) (ta0 ta1 ta2 ta3 : Option Addr) (tc0 tc1 tc2 tc3 : Nat) (u : List Blk) => y.k.toNat) (z) (a0) (a1) (a2) (a3) (c0) (c1) (c2) (c3) ([])) ?_ Kx ?_
    · exact ⟨z, a0, a1, a2, a3, c0, c1, c2, c3, [], rfl, rfl, Lib.hid rfl, SK4.arg hs, hz, hk, hk1⟩
    rintro mz f1 s ⟨y, ta0, ta1, ta2, ta3, tc0, tc1, tc2, tc3, u, rfl, hn, hd1, hd2, hd3, hd4, hd5⟩
    simp only [Act.putF, List.foldl_cons, List.foldl_nil, Act.put, Act.eval, q1, q2, q3, q4, q5, q6, q7, q8, q9, q10, q11, q12, q13, q14, q15, q16, q17, q18, Nat.reduceAdd, Bool.not_true, Bool.not_false]
    have hnf := hd1
    have hsk := hd2
    have hfit := hd3
    clear hd1 hd2 hd3
    refine wk_seq (wk_seq ?_)
    refine wk_region [0, 0, 0, 0, 0, 0, 0, 0, 0, 0, 1, 1, 0, 0, 0, 0, 0, 0, 0, 0, 1, 1, 0] rfl Kx ?_
    simp only [qy]
    refine rf_field (n := 0) (j := 8) rfl rfl rfl Try.underlying73 rfl Kx rfl ?_
    simp only [qz]
    refine rf_load rfl rfl rfl Try.underlying3 rfl (fun w hw => (Kn.hd0 (Kn.tl (Kn.tlU hw))).at rfl) ?_
    simp only [qz]
    refine rfb_gtr rfl rfl rfl rfl ?_
    intro x h1
    cases x
    · (try simp only [qd, ne_eq] at h1)
      simp only [qz]
      refine rg_move ?_
      simp only [qz]
      refine rg_skip Rx ?_
      simp only [qz]
      refine rg_skip Rx ?_
      simp only [qz]
      refine rg_skip Rx ?_
      simp only [qz]
      refine rg_skip Rx ?_
      simp only [qz]
      refine rg_skip Rx ?_
      simp only [qz]
      refine rg_skip Rx ?_
      simp only [qz]
      refine rg_skip_h Rx Nz ?_
      simp only [qz]
      refine rg_skip_h Rx Nz ?_
      simp only [qz]
      refine rf_pick rfl rfl rfl ?_
      simp only [qz]
      refine rg_move ?_
      simp only [qz]
      refine rg_skip Rx ?_
      simp only [qz]
      refine rg_skip Rx ?_
      simp only [qz]
      refine rg_skip Rx ?_
      simp only [qz]
      refine rg_skip Rx ?_
      simp only [qz]
      refine rg_skip Rx ?_
      simp only [qz]
      refine rg_skip Rx ?_
      simp only [qz]
      refine rg_skip_h Rx Nz ?_
      simp only [qz]
      refine rg_skip_h Rx Nz ?_
      simp only [qz]
      refine rf_pick rfl rfl rfl ?_
      simp only [qz]
      refine rg_nil (ek_next (wk_cond_f rfl (wk_exit (ek_then_exit (ek_then_exit (ek_block_exit ?_))))))
      refine ek_midF Kx ?_
      exact ⟨y, ta0, ta1, ta2, ta3, tc0, tc1, tc2, tc3, u, by rfl, hnf, (nf_stop (fun hh => by have := hh.1; have := hh.2.1; have := hh.2.2; omega)), hsk, hfit⟩
    (try simp only [qd, ne_eq] at h1)
    simp only [qz]
    refine rg_move ?_
    simp only [qz]
    refine rf_field (n := 7) (j := 0) rfl rfl rfl Try.underlying73 rfl Kx rfl ?_
    simp only [qz]
    refine rf_indexA (n := 0) (sz := 2) (j := 0) rfl rfl rfl rfl Try.underlying71 Kx (by decide) rfl ?_
    simp only [qz]
    refine rf_loadR (n := 2) rfl rfl rfl Try.underlying70 rfl Kx (fun w hw => Kn.hd0 (Kn.tl (Kn.tlU hw))) rfl rfl ?_
    simp only [qz]
    refine rf_field (n := 7) (j := 0) rfl rfl rfl Try.underlying73 rfl Kx rfl ?_
    simp only [qz]
    refine rf_indexA (n := 2) (sz := 2) (j := 4) rfl rfl rfl rfl Try.underlying71 Kx (by decide) rfl ?_
    simp only [qz]
    refine rf_loadR (n := 2) rfl rfl rfl Try.underlying70 rfl Kx (fun w hw => Kn.hd0 (Kn.tl (Kn.tlU hw))) rfl rfl ?_
    simp only [qz]
    obtain ⟨la, lb, lc, ld⟩ := fit_big hfit
    obtain ⟨fa0, fa1, fb0, fb1, fc0, fc1, fd0, fd1⟩ := id hfit
    apply (rg_made (T := fun v u => ∃ s, v = bgV (y.a + y.c) s ∧ SU u s (y.a + y.c).natAbs)) Rx Kx
    case hargs => exact Ax
    case h => exact fun w hw => badd_any y.a y.c _ _ la lc w (hsk.a.at hw (List.sublist_append_left _ _)) (hsk.c.at hw (List.sublist_append_left _ _))
    case hz => exact Nz
    rintro _ u3 ⟨s3, rfl, hS3⟩
    obtain ⟨⟨sa3, sc3, rfl⟩, -⟩ := id hS3
    simp only [qz]
    apply rg_pureb Rx Kx
    case hargs => exact Ax
    case h => exact fun w hw => beven_any (y.a + y.c) _ (len_big Ox Ox) w (hS3.at hw (List.sublist_append_left _ _))
    case hz => exact Nz
    intro x h2
    cases x
    · (try simp only [qd, ne_eq] at h2)
      simp only [qz]
      refine rf_pick rfl rfl rfl ?_
      simp only [qz]
      refine rg_move ?_
      simp only [qz]
      refine rg_skip Rx ?_
      simp only [qz]
      refine rg_skip Rx ?_
      simp only [qz]
      refine rg_skip Rx ?_
      simp only [qz]
      refine rg_skip Rx ?_
      simp only [qz]
      refine rg_skip Rx ?_
      simp only [qz]
      refine rg_skip Rx ?_
      simp only [qz]
      refine rg_skip_h Rx Nz ?_
      simp only [qz]
      refine rg_skip_h Rx Nz ?_
      simp only [qz]
      refine rf_pick rfl rfl rfl ?_
      simp only [qz]
      refine rg_nil (ek_next (wk_cond_f rfl (wk_exit (ek_then_exit (ek_then_exit (ek_block_exit ?_))))))
      refine ek_sub ((List.Sublist.append_left (sc _ (sc _ sn)) _).trans (List.sublist_append_right _ _)) ?_
      refine ek_midF Kx ?_
      exact ⟨y, ta0, ta1, ta2, ta3, tc0, tc1, tc2, tc3, u, by rfl, hnf, (nf_stop (fun hh => by have := hh.1; have := hh.2.1; have := hh.2.2; omega)), hsk, hfit⟩
    (try simp only [qd, ne_eq] at h2)
    simp only [qz]
    refine rf_pick rfl rfl rfl ?_
    simp only [qz]
    refine rg_move ?_
    simp only [qz]
    refine rf_field (n := 7) (j := 0) rfl rfl rfl Try.underlying73 rfl Kx rfl ?_
    simp only [qz]
    refine rf_indexA (n := 1) (sz := 2) (j := 2) rfl rfl rfl rfl Try.underlying71 Kx (by decide) rfl ?_
    simp only [qz]
    refine rf_loadR (n := 2) rfl rfl rfl Try.underlying70 rfl Kx (fun w hw => Kn.hd0 (Kn.tl (Kn.tlU (Kn.tlU hw)))) rfl rfl ?_
    simp only [qz]
    refine rf_field (n := 7) (j := 0) rfl rfl rfl Try.underlying73 rfl Kx rfl ?_
    simp only [qz]
    refine rf_indexA (n := 3) (sz := 2) (j := 6) rfl rfl rfl rfl Try.underlying71 Kx (by decide) rfl ?_
    simp only [qz]
    refine rf_loadR (n := 2) rfl rfl rfl Try.underlying70 rfl Kx (fun w hw => Kn.hd0 (Kn.tl (Kn.tlU (Kn.tlU hw)))) rfl rfl ?_
    simp only [qz]
    apply (rg_made (T := fun v u => ∃ s, v = bgV (y.b + y.d) s ∧ SU u s (y.b + y.d).natAbs)) Rx Kx
    case hargs => exact Ax
    case h => exact fun w hw => badd_any y.b y.d _ _ lb ld w (hsk.b.at hw ((List.sublist_append_left _ _).trans (List.sublist_append_right _ _))) (hsk.d.at hw ((List.sublist_append_left _ _).trans (List.sublist_append_right _ _)))
    case hz => exact Nz
    rintro _ u4 ⟨s4, rfl, hS4⟩
    obtain ⟨⟨sa4, sc4, rfl⟩, -⟩ := id hS4
    simp only [qz]
    apply rg_pureb Rx Kx
    case hargs => exact Ax
    case h => exact fun w hw => beven_any (y.b + y.d) _ (len_big Ox Ox) w (hS4.at hw (List.sublist_append_left _ _))
    case hz => exact Nz
    intro x h3
    cases x
    · (try simp only [qd, ne_eq] at h3)
      simp only [qz]
      refine rf_pick rfl rfl rfl ?_
      simp only [qz]
      refine rg_nil (ek_next (wk_cond_f rfl (wk_exit (ek_then_exit (ek_then_exit (ek_block_exit ?_))))))
      refine ek_sub (((List.Sublist.append_left (sc _ (sc _ sn)) _).trans (List.sublist_append_right _ _)).trans (List.sublist_append_right _ _)) ?_
      refine ek_midF Kx ?_
      exact ⟨y, ta0, ta1, ta2, ta3, tc0, tc1, tc2, tc3, u, by rfl, hnf, (nf_stop (fun hh => by have := hh.1; have := hh.2.1; have := hh.2.2; omega)), hsk, hfit⟩
    (try simp only [qd, ne_eq] at h3)
    simp only [qz]
    refine rf_pick rfl rfl rfl ?_
    simp only [qz]
    refine rg_nil (ek_next (wk_cond_t rfl (wk_skip (ek_next (wk_block (wk_seq ?_))))))
    refine wk_region [0, 0, 1, 1, 1] rfl Kx ?_
    simp only [qy]
    refine rf_field (n := 7) (j := 0) rfl rfl rfl Try.underlying73 rfl Kx rfl ?_
    simp only [qz]
    refine rf_loadR (n := 8) rfl rfl rfl Try.underlying71 rfl Kx (fun w hw => Kn.hd0 (Kn.tl (Kn.tlU (Kn.tlU (Kn.tlU hw))))) rfl rfl ?_
    simp only [qz]
    apply (rg_made (T := fun v u => ∃ s0 s1 s2 s3, v = arV (y.tr) s0 s1 s2 s3 ∧ SU4 u (y.tr) s0 s1 s2 s3)) Rx Kx
    case hargs => exact Ax
    case h => exact fun w hw => timesR_any y _ _ _ _ hfit w (hsk.at hw (((List.sublist_append_left _ _).trans (List.sublist_append_right _ _)).trans (List.sublist_append_right _ _)))
    case hz => exact Nz
    rintro _ u5 ⟨t0, t1, t2, t3, rfl, hS5⟩
    obtain ⟨⟨ta5_0, tc5_0, rfl⟩, -⟩ := id hS5.a
    obtain ⟨⟨ta5_1, tc5_1, rfl⟩, -⟩ := id hS5.b
    obtain ⟨⟨ta5_2, tc5_2, rfl⟩, -⟩ := id hS5.c
    obtain ⟨⟨ta5_3, tc5_3, rfl⟩, -⟩ := id hS5.d
    simp only [qz]
    obtain ⟨ma, mb, mc, md⟩ := tr_len hfit
    refine Rgn fun g6 => ?_
    simp only [qz]
    refine rf_storeR (n := 8) rfl rfl Kx rfl rfl (UpdR.here _ _ _ Nl) Nz ?_
    simp only [qz, Nat.reduceAdd]
    refine rg_nil (ek_next (wk_seq (wk_seq ?_)))
    refine wk_region [0] rfl Kx ?_
    simp only [qy]
    refine rg_assign ?_
    simp only [qz]
    refine rg_nil (ek_next (wk_block ?_))
    refine wk_unroll 4 ?_
    refine wk_seq (wk_seq ?_)
    refine wk_region [0, 0] rfl Kx ?_
    simp only [qy]
    refine rg_move ?_
    simp only [qz]
    refine rf_lss (b := true) rfl rfl rfl rfl (by decide) ?_
    simp only [qz]
    refine rg_nil (ek_next (wk_cond_t rfl (wk_skip (ek_next (wk_seq (wk_block ?_))))))
    refine wk_region [0, 0, 0, 0, 1, 0, 1] rfl Kx ?_
    simp only [qy]
    refine rg_move ?_
    simp only [qz]
    refine rg_move ?_
    simp only [qz]
    refine rf_indexA (n := 0) (sz := 2) (j := 0) rfl rfl rfl rfl Try.underlying71 Kx (by decide) rfl ?_
    simp only [qz]
    refine rf_loadR (n := 2) rfl rfl rfl Try.underlying70 rfl Kx (fun w hw => Kn.hd0 hw) rfl rfl ?_
    simp only [qz]
    apply (rg_made (T := fun v u => ∃ s, v = bgV (y.tr.a / 2) s ∧ SU u s (y.tr.a / 2).natAbs)) Rx Kx
    case hargs => exact Ax
    case h => exact fun w hw => bhalf_any y.tr.a _ ma (by simp only [Nm.tr]; omega) w (hS5.a.at hw (List.Sublist.cons _ (List.sublist_append_left _ _)))
    case hz => exact Nz
    rintro _ u7 ⟨s7, rfl, hS7⟩
    obtain ⟨⟨sa7, sc7, rfl⟩, -⟩ := id hS7
    simp only [qz]
    refine rf_indexA (n := 0) (sz := 2) (j := 0) rfl rfl rfl rfl Try.underlying71 Kx (by decide) rfl ?_
    simp only [qz]
    refine rf_storeR (n := 2) rfl rfl Kx rfl rfl (UpdR.app _ (UpdR.here _ _ _ Nl)) Nz ?_
    simp only [qz, Nat.reduceAdd]
    refine rg_nil (ek_block (ek_next ?_))
    refine wk_region [0, 0, 0] rfl Kx ?_
    simp only [qy]
    refine rg_move ?_
    simp only [qz]
    refine rf_add (r := 1) rfl rfl rfl rfl (by decide) ?_
    simp only [qz]
    refine rg_assign ?_
    simp only [qz]
    refine rg_nil (ek_again (wk_seq (wk_seq ?_)))
    refine wk_region [0, 0] rfl Kx ?_
    simp only [qy]
    refine rg_move ?_
    simp only [qz]
    refine rf_lss (b := true) rfl rfl rfl rfl (by decide) ?_
    simp only [qz]
    refine rg_nil (ek_next (wk_cond_t rfl (wk_skip (ek_next (wk_seq (wk_block ?_))))))
    refine wk_region [0, 0, 0, 0, 1, 0, 1] rfl Kx ?_
    simp only [qy]
    refine rg_move ?_
    simp only [qz]
    refine rg_move ?_
    simp only [qz]
    refine rf_indexA (n := 1) (sz := 2) (j := 2) rfl rfl rfl rfl Try.underlying71 Kx (by decide) rfl ?_
    simp only [qz]
    refine rf_loadR (n := 2) rfl rfl rfl Try.underlying70 rfl Kx (fun w hw => Kn.hd0 (Kn.tlU hw)) rfl rfl ?_
    simp only [qz]
    apply (rg_made (T := fun v u => ∃ s, v = bgV (y.tr.b / 2) s ∧ SU u s (y.tr.b / 2).natAbs)) Rx Kx
    case hargs => exact Ax
    case h => exact fun w hw => bhalf_any y.tr.b _ mb (by simp only [Nm.tr]; omega) w (hS5.b.at hw ((List.Sublist.cons _ (List.sublist_append_left _ _)).trans (List.sublist_append_right _ _)))
    case hz => exact Nz
    rintro _ u8 ⟨s8, rfl, hS8⟩
    obtain ⟨⟨sa8, sc8, rfl⟩, -⟩ := id hS8
    simp only [qz]
    refine rf_indexA (n := 1) (sz := 2) (j := 2) rfl rfl rfl rfl Try.underlying71 Kx (by decide) rfl ?_
    simp only [qz]
    refine rf_storeR (n := 2) rfl rfl Kx rfl rfl (UpdR.app _ (UpdR.app _ (UpdR.here _ _ _ Nl))) Nz ?_
    simp only [qz, Nat.reduceAdd]
    refine rg_nil (ek_block (ek_next ?_))
    refine wk_region [0, 0, 0] rfl Kx ?_
    simp only [qy]
    refine rg_move ?_
    simp only [qz]
    refine rf_add (r := 2) rfl rfl rfl rfl (by decide) ?_
    simp only [qz]
    refine rg_assign ?_
    simp only [qz]
    refine rg_nil (ek_again (wk_seq (wk_seq ?_)))
    refine wk_region [0, 0] rfl Kx ?_
    simp only [qy]
    refine rg_move ?_
    simp only [qz]
    refine rf_lss (b := true) rfl rfl rfl rfl (by decide) ?_
    simp only [qz]
    refine rg_nil (ek_next (wk_cond_t rfl (wk_skip (ek_next (wk_seq (wk_block ?_))))))
    refine wk_region [0, 0, 0, 0, 1, 0, 1] rfl Kx ?_
    simp only [qy]
    refine rg_move ?_
    simp only [qz]
    refine rg_move ?_
    simp only [qz]
    refine rf_indexA (n := 2) (sz := 2) (j := 4) rfl rfl rfl rfl Try.underlying71 Kx (by decide) rfl ?_
    simp only [qz]
    refine rf_loadR (n := 2) rfl rfl rfl Try.underlying70 rfl Kx (fun w hw => Kn.hd0 (Kn.tlU (Kn.tlU hw))) rfl rfl ?_
    simp only [qz]
    apply (rg_made (T := fun v u => ∃ s, v = bgV (y.tr.c / 2) s ∧ SU u s (y.tr.c / 2).natAbs)) Rx Kx
    case hargs => exact Ax
    case h => exact fun w hw => bhalf_any y.tr.c _ mc (by simp only [Nm.tr]; omega) w (hS5.c.at hw (((List.Sublist.cons _ (List.sublist_append_left _ _)).trans (List.sublist_append_right _ _)).trans (List.sublist_append_right _ _)))
    case hz => exact Nz
    rintro _ u9 ⟨s9, rfl, hS9⟩
    obtain ⟨⟨sa9, sc9, rfl⟩, -⟩ := id hS9
    simp only [qz]
    refine rf_indexA (n := 2) (sz := 2) (j := 4) rfl rfl rfl rfl Try.underlying71 Kx (by decide) rfl ?_
    simp only [qz]
    refine rf_storeR (n := 2) rfl rfl Kx rfl rfl (UpdR.app _ (UpdR.app _ (UpdR.app _ (UpdR.here _ _ _ Nl)))) Nz ?_
    simp only [qz, Nat.reduceAdd]
    refine rg_nil (ek_block (ek_next ?_))
    refine wk_region [0, 0, 0] rfl Kx ?_
    simp only [qy]
    refine rg_move ?_
    simp only [qz]
    refine rf_add (r := 3) rfl rfl rfl rfl (by decide) ?_
    simp only [qz]
    refine rg_assign ?_
    simp only [qz]
    refine rg_nil (ek_again (wk_seq (wk_seq ?_)))
    refine wk_region [0, 0] rfl Kx ?_
    simp only [qy]
    refine rg_move ?_
    simp only [qz]
    refine rf_lss (b := true) rfl rfl rfl rfl (by decide) ?_
    simp only [qz]
    refine rg_nil (ek_next (wk_cond_t rfl (wk_skip (ek_next (wk_seq (wk_block ?_))))))
    refine wk_region [0, 0, 0, 0, 1, 0, 1] rfl Kx ?_
    simp only [qy]
    refine rg_move ?_
    simp only [qz]
    refine rg_move ?_
    simp only [qz]
    refine rf_indexA (n := 3) (sz := 2) (j := 6) rfl rfl rfl rfl Try.underlying71 Kx (by decide) rfl ?_
    simp only [qz]
    refine rf_loadR (n := 2) rfl rfl rfl Try.underlying70 rfl Kx (fun w hw => Kn.hd0 (Kn.tlU (Kn.tlU (Kn.tlU hw)))) rfl rfl ?_
    simp only [qz]
    apply (rg_made (T := fun v u => ∃ s, v = bgV (y.tr.d / 2) s ∧ SU u s (y.tr.d / 2).natAbs)) Rx Kx
    case hargs => exact Ax
    case h => exact fun w hw => bhalf_any y.tr.d _ md (by simp only [Nm.tr]; omega) w (hS5.d.at hw ((((List.Sublist.cons _ (List.sublist_append_left _ _)).trans (List.sublist_append_right _ _)).trans (List.sublist_append_right _ _)).trans (List.sublist_append_right _ _)))
    case hz => exact Nz
    rintro _ u10 ⟨s10, rfl, hS10⟩
    obtain ⟨⟨sa10, sc10, rfl⟩, -⟩ := id hS10
    simp only [qz]
    refine rf_indexA (n := 3) (sz := 2) (j := 6) rfl rfl rfl rfl Try.underlying71 Kx (by decide) rfl ?_
    simp only [qz]
    refine rf_storeR (n := 2) rfl rfl Kx rfl rfl (UpdR.app _ (UpdR.app _ (UpdR.app _ (UpdR.app _ (UpdR.here _ _ _ Nl))))) Nz ?_
    simp only [qz, Nat.reduceAdd]
    refine rg_nil (ek_block (ek_next ?_))
    refine wk_region [0, 0, 0] rfl Kx ?_
    simp only [qy]
    refine rg_move ?_
    simp only [qz]
    refine rf_add (r := 4) rfl rfl rfl rfl (by decide) ?_
    simp only [qz]
    refine rg_assign ?_
    simp only [qz]
    refine rg_nil (ek_again (wk_seq (wk_seq ?_)))
    refine wk_region [0, 0] rfl Kx ?_
    simp only [qy]
    refine rg_move ?_
    simp only [qz]
    refine rf_lss (b := false) rfl rfl rfl rfl (by decide) ?_
    simp only [qz]
    refine rg_nil (ek_next (wk_cond_f rfl (wk_exit (ek_then_exit (ek_then_exit (ek_block_exit (ek_next ?_)))))))
    refine wk_region [0, 0, 0, 0, 0, 1, 0, 1] rfl Kx ?_
    simp only [qy]
    refine rf_loadR (n := 8) rfl rfl rfl Try.underlying71 rfl Kx (fun w hw => Kn.hd0 (Kn.tlU (Kn.tlU (Kn.tlU (Kn.tlU hw))))) rfl rfl ?_
    simp only [qz]
    refine rf_field (n := 0) (j := 8) rfl rfl rfl Try.underlying73 rfl Kx rfl ?_
    simp only [qz]
    refine rf_load rfl rfl rfl Try.underlying3 rfl (fun w hw => (Kn.hd0 (Kn.tl (Kn.tlU (Kn.tlU (Kn.tlU (Kn.tlU (Kn.tl (Kn.tlU (Kn.tlU (Kn.tlU (Kn.tlU hw))))))))))).at rfl) ?_
    simp only [qz]
    refine rf_sub rfl rfl rfl rfl (wrap_ok Ox Ox) ?_
    simp only [qz]
    refine rf_field (n := 7) (j := 0) rfl rfl rfl Try.underlying73 rfl Kx rfl ?_
    simp only [qz]
    refine rf_storeR (n := 8) rfl rfl Kx rfl rfl (UpdR.app _ (UpdR.app _ (UpdR.app _ (UpdR.app _ (UpdR.there _ (UpdR.app _ (UpdR.app _ (UpdR.app _ (UpdR.app _ (UpdR.there _ (UpdR.here _ _ _ Nl))))))))))) Nz ?_
    simp only [qz, Nat.reduceAdd]
    refine rf_field (n := 0) (j := 8) rfl rfl rfl Try.underlying73 rfl Kx rfl ?_
    simp only [qz]
    refine rf_store rfl rfl Kx rfl rfl (UpdR.app _ (UpdR.app _ (UpdR.app _ (UpdR.app _ (UpdR.there _ (UpdR.app _ (UpdR.app _ (UpdR.app _ (UpdR.app _ (UpdR.there _ (UpdR.here _ _ _ Nl))))))))))) Nz ?_
    simp only [qz]
    refine rg_nil (ek_block ?_)
    refine ek_sub (List.Sublist.append_left (List.Sublist.append_left (List.Sublist.append_left (List.Sublist.append_left (sk _ (((((sc _ (sc _ sn)).trans (List.sublist_append_right _ _)).trans (List.sublist_append_right _ _)).trans (List.sublist_append_right _ _)).trans (List.sublist_append_right _ _))) _) _) _) _) ?_
    refine ek_roundF (y.step.k.toNat) ((by simp only [Nm.step]; omega)) Kx ?_
    exact ⟨y.step, sa7, sa8, sa9, sa10, sc7, sc8, sc9, sc10, (u10 ++ (u9 ++ (u8 ++ u7))), (by simp only [List.append_assoc]; rfl), by rfl, (Lib.hid ((nf_step Ox ⟨by omega, by omega⟩).symm.trans hnf.out)), ⟨(SK.own (hS7.mono ((((List.Sublist.refl _).trans (List.sublist_append_right _ _)).trans (List.sublist_append_right _ _)).trans (List.sublist_append_right _ _)))), (SK.own (hS8.mono (((List.sublist_append_left _ _).trans (List.sublist_append_right _ _)).trans (List.sublist_append_right _ _)))), (SK.own (hS9.mono ((List.sublist_append_left _ _).trans (List.sublist_append_right _ _)))), (SK.own (hS10.mono (List.sublist_append_left _ _)))⟩, (Nm.step_fit hfit), (by simp only [Nm.step]; omega), (by simp only [Nm.step]; omega)⟩
  rintro f1 s ⟨y, ta0, ta1, ta2, ta3, tc0, tc1, tc2, tc3, u, rfl, hnf, hst, hsk, hfit⟩
  simp only [Act.putF, List.foldl_cons, List.foldl_nil, Act.put, Act.eval, q1, q2, q3, q4, q5, q6, q7, q8, q9, q10, q11, q12, q13, q14, q15, q16, q17, q18, Nat.reduceAdd, Bool.not_true, Bool.not_false]
  have hyz : y = z.nf := hst.symm.trans hnf.out
  replace hyz := Lib.hid hyz
  clear hst hnf
  obtain ⟨la, lb, lc, ld⟩ := fit_big hfit
  refine wk_seq ?_
  refine wk_region [0, 0, 0, 1, 1] rfl Kx ?_
  simp only [qy]
  refine rf_field (n := 0) (j := 8) rfl rfl rfl Try.underlying73 rfl Kx rfl ?_
  simp only [qz]
  refine rf_load rfl rfl rfl Try.underlying3 rfl (fun w hw => (Kn.hd0 (Kn.tl (Kn.tlU hw))).at rfl) ?_
  simp only [qz]
  refine rf_build (cs := fun a => #[.int .i64 0, .int .i64 0, .int .i64 0, .int .i64 0, a.eval (.tmp 53)]) rfl rfl Kx ?_
  simp only [qz]
  refine Rgn fun g11 => ?_
  simp only [qz]
  refine rf_storeR (n := 5) rfl rfl Kx rfl rfl (UpdR.here _ _ _ Nl) Nz ?_
  simp only [qz, Nat.reduceAdd]
  refine rg_nil (ek_next (wk_seq (wk_seq ?_)))
  refine wk_region [0] rfl Kx ?_
  simp only [qy]
  refine rg_assign ?_
  simp only [qz]
  refine rg_nil (ek_next (wk_block ?_))
  refine wk_unroll 4 ?_
  refine wk_seq (wk_seq ?_)
  refine wk_region [0, 0] rfl Kx ?_
  simp only [qy]
  refine rg_move ?_
  simp only [qz]
  refine rf_lss (b := true) rfl rfl rfl rfl (by decide) ?_
  simp only [qz]
  refine rg_nil (ek_next (wk_cond_t rfl (wk_skip (ek_next (wk_seq (wk_block (wk_seq ?_)))))))
  refine wk_region [0, 0, 0, 0, 1, 0, 0, 0, 0, 0] rfl Kx ?_
  simp only [qy]
  refine rg_move ?_
  simp only [qz]
  refine rf_field (n := 7) (j := 0) rfl rfl rfl Try.underlying73 rfl Kx rfl ?_
  simp only [qz]
  refine rf_indexA (n := 0) (sz := 2) (j := 0) rfl rfl rfl rfl Try.underlying71 Kx (by decide) rfl ?_
  simp only [qz]
  refine rf_loadR (n := 2) rfl rfl rfl Try.underlying70 rfl Kx (fun w hw => Kn.hd0 (Kn.tl (Kn.tlU (Kn.tl hw)))) rfl rfl ?_
  simp only [qz]
  cases hq0 : smB y.a
  · apply rg_pure Rx Kx
    case hargs => exact Ax
    case h => exact fun w hw => by have := bsmall_any y.a _ la w (hsk.a.at hw (List.Sublist.cons _ (List.sublist_append_left _ _))); rw [hq0] at this; exact this
    case hz => exact Nz
    simp only [qz]
    refine rg_move ?_
    simp only [qz]
    refine rf_extract rfl rfl rfl rfl ?_
    simp only [qz]
    refine rf_extract rfl rfl rfl rfl ?_
    simp only [qz]
    refine rg_assign ?_
    simp only [qz]
    refine rg_assign ?_
    simp only [qz]
    refine rg_nil (ek_next (wk_seq (wk_seq ?_)))
    refine wk_region [0, 0] rfl Kx ?_
    simp only [qy]
    refine rg_move ?_
    simp only [qz]
    refine rf_not rfl rfl rfl ?_
    simp only [qz]
    refine rg_nil (ek_next (wk_cond_t rfl (wk_seq ?_)))
    refine wk_region [0, 1, 0] rfl Kx ?_
    simp only [qy]
    refine rf_build (cs := fun a => #[.int .i64 0, .int .i64 0, .int .i64 0, .int .i64 0, .int .i64 0]) rfl rfl Kx ?_
    simp only [qz]
    refine rf_storeR (n := 5) rfl rfl Kx rfl rfl (UpdR.there _ (UpdR.app _ (UpdR.here _ _ _ Nl))) Nz ?_
    simp only [qz, Nat.reduceAdd]
    refine rg_assign ?_
    simp only [qz]
    refine rg_nil (ek_next (wk_ret (ek_then_ret (ek_block_ret (ek_then_ret (ek_then_ret (ek_block_ret (ek_then_ret ?_))))))))
    refine ek_ret (fun w hw => ⟨rfl, _, run_results2 rfl rfl (Kn.hd0 (Kn.tlU (Kn.tl hw))) Try.underlying29 rfl Kx, ?_⟩)
    (try simp only [qz])
    exact ⟨by unfold wnum; rw [← hyz.out]; unfold numOk; simp [*, Nm.zero], hw.below⟩
  apply rg_pure Rx Kx
  case hargs => exact Ax
  case h => exact fun w hw => by have := bsmall_any y.a _ la w (hsk.a.at hw (List.Sublist.cons _ (List.sublist_append_left _ _))); rw [hq0] at this; exact this
  case hz => exact Nz
  simp only [qz]
  refine rg_move ?_
  simp only [qz]
  refine rf_extract rfl rfl rfl rfl ?_
  simp only [qz]
  refine rf_extract rfl rfl rfl rfl ?_
  simp only [qz]
  refine rg_assign ?_
  simp only [qz]
  refine rg_assign ?_
  simp only [qz]
  refine rg_nil (ek_next (wk_seq (wk_seq ?_)))
  refine wk_region [0, 0] rfl Kx ?_
  simp only [qy]
  refine rg_move ?_
  simp only [qz]
  refine rf_not rfl rfl rfl ?_
  simp only [qz]
  refine rg_nil (ek_next (wk_cond_f rfl (wk_skip (ek_next ?_))))
  refine wk_region [0, 0, 0, 0, 1] rfl Kx ?_
  simp only [qy]
  refine rg_move ?_
  simp only [qz]
  refine rg_move ?_
  simp only [qz]
  refine rf_field (n := 3) (j := 0) rfl rfl rfl Try.underlying29 rfl Kx rfl ?_
  simp only [qz]
  refine rf_indexA (n := 0) (sz := 1) (j := 0) rfl rfl rfl rfl Try.underlying27 Kx (by decide) rfl ?_
  simp only [qz]
  refine rf_store rfl rfl Kx rfl rfl (UpdR.here _ _ _ Nl) Nz ?_
  simp only [qz]
  refine rg_nil (ek_block (ek_next ?_))
  refine wk_region [0, 0, 0] rfl Kx ?_
  simp only [qy]
  refine rg_move ?_
  simp only [qz]
  refine rf_add (r := 1) rfl rfl rfl rfl (by decide) ?_
  simp only [qz]
  refine rg_assign ?_
  simp only [qz]
  refine rg_nil (ek_again (wk_seq (wk_seq ?_)))
  refine wk_region [0, 0] rfl Kx ?_
  simp only [qy]
  refine rg_move ?_
  simp only [qz]
  refine rf_lss (b := true) rfl rfl rfl rfl (by decide) ?_
  simp only [qz]
  refine rg_nil (ek_next (wk_cond_t rfl (wk_skip (ek_next (wk_seq (wk_block (wk_seq ?_)))))))
  refine wk_region [0, 0, 0, 0, 1, 0, 0, 0, 0, 0] rfl Kx ?_
  simp only [qy]
  refine rg_move ?_
  simp only [qz]
  refine rf_field (n := 7) (j := 0) rfl rfl rfl Try.underlying73 rfl Kx rfl ?_
  simp only [qz]
  refine rf_indexA (n := 1) (sz := 2) (j := 2) rfl rfl rfl rfl Try.underlying71 Kx (by decide) rfl ?_
  simp only [qz]
  refine rf_loadR (n := 2) rfl rfl rfl Try.underlying70 rfl Kx (fun w hw => Kn.hd0 (Kn.tl (Kn.tlU (Kn.tl hw)))) rfl rfl ?_
  simp only [qz]
  cases hq1 : smB y.b
  · apply rg_pure Rx Kx
    case hargs => exact Ax
    case h => exact fun w hw => by have := bsmall_any y.b _ lb w (hsk.b.at hw (List.Sublist.cons _ (List.sublist_append_left _ _))); rw [hq1] at this; exact this
    case hz => exact Nz
    simp only [qz]
    refine rg_move ?_
    simp only [qz]
    refine rf_extract rfl rfl rfl rfl ?_
    simp only [qz]
    refine rf_extract rfl rfl rfl rfl ?_
    simp only [qz]
    refine rg_assign ?_
    simp only [qz]
    refine rg_assign ?_
    simp only [qz]
    refine rg_nil (ek_next (wk_seq (wk_seq ?_)))
    refine wk_region [0, 0] rfl Kx ?_
    simp only [qy]
    refine rg_move ?_
    simp only [qz]
    refine rf_not rfl rfl rfl ?_
    simp only [qz]
    refine rg_nil (ek_next (wk_cond_t rfl (wk_seq ?_)))
    refine wk_region [0, 1, 0] rfl Kx ?_
    simp only [qy]
    refine rf_build (cs := fun a => #[.int .i64 0, .int .i64 0, .int .i64 0, .int .i64 0, .int .i64 0]) rfl rfl Kx ?_
    simp only [qz]
    refine rf_storeR (n := 5) rfl rfl Kx rfl rfl (UpdR.there _ (UpdR.app _ (UpdR.here _ _ _ Nl))) Nz ?_
    simp only [qz, Nat.reduceAdd]
    refine rg_assign ?_
    simp only [qz]
    refine rg_nil (ek_next (wk_ret (ek_then_ret (ek_block_ret (ek_then_ret (ek_then_ret (ek_block_ret (ek_then_ret ?_))))))))
    refine ek_ret (fun w hw => ⟨rfl, _, run_results2 rfl rfl (Kn.hd0 (Kn.tlU (Kn.tl hw))) Try.underlying29 rfl Kx, ?_⟩)
    (try simp only [qz])
    exact ⟨by unfold wnum; rw [← hyz.out]; unfold numOk; simp [*, Nm.zero], hw.below⟩
  apply rg_pure Rx Kx
  case hargs => exact Ax
  case h => exact fun w hw => by have := bsmall_any y.b _ lb w (hsk.b.at hw (List.Sublist.cons _ (List.sublist_append_left _ _))); rw [hq1] at this; exact this
  case hz => exact Nz
  simp only [qz]
  refine rg_move ?_
  simp only [qz]
  refine rf_extract rfl rfl rfl rfl ?_
  simp only [qz]
  refine rf_extract rfl rfl rfl rfl ?_
  simp only [qz]
  refine rg_assign ?_
  simp only [qz]
  refine rg_assign ?_
  simp only [qz]
  refine rg_nil (ek_next (wk_seq (wk_seq ?_)))
  refine wk_region [0, 0] rfl Kx ?_
  simp only [qy]
  refine rg_move ?_
  simp only [qz]
  refine rf_not rfl rfl rfl ?_
  simp only [qz]
  refine rg_nil (ek_next (wk_cond_f rfl (wk_skip (ek_next ?_))))
  refine wk_region [0, 0, 0, 0, 1] rfl Kx ?_
  simp only [qy]
  refine rg_move ?_
  simp only [qz]
  refine rg_move ?_
  simp only [qz]
  refine rf_field (n := 3) (j := 0) rfl rfl rfl Try.underlying29 rfl Kx rfl ?_
  simp only [qz]
  refine rf_indexA (n := 1) (sz := 1) (j := 1) rfl rfl rfl rfl Try.underlying27 Kx (by decide) rfl ?_
  simp only [qz]
  refine rf_store rfl rfl Kx rfl rfl (UpdR.here _ _ _ Nl) Nz ?_
  simp only [qz]
  refine rg_nil (ek_block (ek_next ?_))
  refine wk_region [0, 0, 0] rfl Kx ?_
  simp only [qy]
  refine rg_move ?_
  simp only [qz]
  refine rf_add (r := 2) rfl rfl rfl rfl (by decide) ?_
  simp only [qz]
  refine rg_assign ?_
  simp only [qz]
  refine rg_nil (ek_again (wk_seq (wk_seq ?_)))
  refine wk_region [0, 0] rfl Kx ?_
  simp only [qy]
  refine rg_move ?_
  simp only [qz]
  refine rf_lss (b := true) rfl rfl rfl rfl (by decide) ?_
  simp only [qz]
  refine rg_nil (ek_next (wk_cond_t rfl (wk_skip (ek_next (wk_seq (wk_block (wk_seq ?_)))))))
  refine wk_region [0, 0, 0, 0, 1, 0, 0, 0, 0, 0] rfl Kx ?_
  simp only [qy]
  refine rg_move ?_
  simp only [qz]
  refine rf_field (n := 7) (j := 0) rfl rfl rfl Try.underlying73 rfl Kx rfl ?_
  simp only [qz]
  refine rf_indexA (n := 2) (sz := 2) (j := 4) rfl rfl rfl rfl Try.underlying71 Kx (by decide) rfl ?_
  simp only [qz]
  refine rf_loadR (n := 2) rfl rfl rfl Try.underlying70 rfl Kx (fun w hw => Kn.hd0 (Kn.tl (Kn.tlU (Kn.tl hw)))) rfl rfl ?_
  simp only [qz]
  cases hq2 : smB y.c
  · apply rg_pure Rx Kx
    case hargs => exact Ax
    case h => exact fun w hw => by have := bsmall_any y.c _ lc w (hsk.c.at hw (List.Sublist.cons _ (List.sublist_append_left _ _))); rw [hq2] at this; exact this
    case hz => exact Nz
    simp only [qz]
    refine rg_move ?_
    simp only [qz]
    refine rf_extract rfl rfl rfl rfl ?_
    simp only [qz]
    refine rf_extract rfl rfl rfl rfl ?_
    simp only [qz]
    refine rg_assign ?_
    simp only [qz]
    refine rg_assign ?_
    simp only [qz]
    refine rg_nil (ek_next (wk_seq (wk_seq ?_)))
    refine wk_region [0, 0] rfl Kx ?_
    simp only [qy]
    refine rg_move ?_
    simp only [qz]
    refine rf_not rfl rfl rfl ?_
    simp only [qz]
    refine rg_nil (ek_next (wk_cond_t rfl (wk_seq ?_)))
    refine wk_region [0, 1, 0] rfl Kx ?_
    simp only [qy]
    refine rf_build (cs := fun a => #[.int .i64 0, .int .i64 0, .int .i64 0, .int .i64 0, .int .i64 0]) rfl rfl Kx ?_
    simp only [qz]
    refine rf_storeR (n := 5) rfl rfl Kx rfl rfl (UpdR.there _ (UpdR.app _ (UpdR.here _ _ _ Nl))) Nz ?_
    simp only [qz, Nat.reduceAdd]
    refine rg_assign ?_
    simp only [qz]
    refine rg_nil (ek_next (wk_ret (ek_then_ret (ek_block_ret (ek_then_ret (ek_then_ret (ek_block_ret (ek_then_ret ?_))))))))
    refine ek_ret (fun w hw => ⟨rfl, _, run_results2 rfl rfl (Kn.hd0 (Kn.tlU (Kn.tl hw))) Try.underlying29 rfl Kx, ?_⟩)
    (try simp only [qz])
    exact ⟨by unfold wnum; rw [← hyz.out]; unfold numOk; simp [*, Nm.zero], hw.below⟩
  apply rg_pure Rx Kx
  case hargs => exact Ax
  case h => exact fun w hw => by have := bsmall_any y.c _ lc w (hsk.c.at hw (List.Sublist.cons _ (List.sublist_append_left _ _))); rw [hq2] at this; exact this
  case hz => exact Nz
  simp only [qz]
  refine rg_move ?_
  simp only [qz]
  refine rf_extract rfl rfl rfl rfl ?_
  simp only [qz]
  refine rf_extract rfl rfl rfl rfl ?_
  simp only [qz]
  refine rg_assign ?_
  simp only [qz]
  refine rg_assign ?_
  simp only [qz]
  refine rg_nil (ek_next (wk_seq (wk_seq ?_)))
  refine wk_region [0, 0] rfl Kx ?_
  simp only [qy]
  refine rg_move ?_
  simp only [qz]
  refine rf_not rfl rfl rfl ?_
  simp only [qz]
  refine rg_nil (ek_next (wk_cond_f rfl (wk_skip (ek_next ?_))))
  refine wk_region [0, 0, 0, 0, 1] rfl Kx ?_
  simp only [qy]
  refine rg_move ?_
  simp only [qz]
  refine rg_move ?_
  simp only [qz]
  refine rf_field (n := 3) (j := 0) rfl rfl rfl Try.underlying29 rfl Kx rfl ?_
  simp only [qz]
  refine rf_indexA (n := 2) (sz := 1) (j := 2) rfl rfl rfl rfl Try.underlying27 Kx (by decide) rfl ?_
  simp only [qz]
  refine rf_store rfl rfl Kx rfl rfl (UpdR.here _ _ _ Nl) Nz ?_
  simp only [qz]
  refine rg_nil (ek_block (ek_next ?_))
  refine wk_region [0, 0, 0] rfl Kx ?_
  simp only [qy]
  refine rg_move ?_
  simp only [qz]
  refine rf_add (r := 3) rfl rfl rfl rfl (by decide) ?_
  simp only [qz]
  refine rg_assign ?_
  simp only [qz]
  refine rg_nil (ek_again (wk_seq (wk_seq ?_)))
  refine wk_region [0, 0] rfl Kx ?_
  simp only [qy]
  refine rg_move ?_
  simp only [qz]
  refine rf_lss (b := true) rfl rfl rfl rfl (by decide) ?_
  simp only [qz]
  refine rg_nil (ek_next (wk_cond_t rfl (wk_skip (ek_next (wk_seq (wk_block (wk_seq ?_)))))))
  refine wk_region [0, 0, 0, 0, 1, 0, 0, 0, 0, 0] rfl Kx ?_
  simp only [qy]
  refine rg_move ?_
  simp only [qz]
  refine rf_field (n := 7) (j := 0) rfl rfl rfl Try.underlying73 rfl Kx rfl ?_
  simp only [qz]
  refine rf_indexA (n := 3) (sz := 2) (j := 6) rfl rfl rfl rfl Try.underlying71 Kx (by decide) rfl ?_
  simp only [qz]
  refine rf_loadR (n := 2) rfl rfl rfl Try.underlying70 rfl Kx (fun w hw => Kn.hd0 (Kn.tl (Kn.tlU (Kn.tl hw)))) rfl rfl ?_
  simp only [qz]
  cases hq3 : smB y.d
  · apply rg_pure Rx Kx
    case hargs => exact Ax
    case h => exact fun w hw => by have := bsmall_any y.d _ ld w (hsk.d.at hw (List.Sublist.cons _ (List.sublist_append_left _ _))); rw [hq3] at this; exact this
    case hz => exact Nz
    simp only [qz]
    refine rg_move ?_
    simp only [qz]
    refine rf_extract rfl rfl rfl rfl ?_
    simp only [qz]
    refine rf_extract rfl rfl rfl rfl ?_
    simp only [qz]
    refine rg_assign ?_
    simp only [qz]
    refine rg_assign ?_
    simp only [qz]
    refine rg_nil (ek_next (wk_seq (wk_seq ?_)))
    refine wk_region [0, 0] rfl Kx ?_
    simp only [qy]
    refine rg_move ?_
    simp only [qz]
    refine rf_not rfl rfl rfl ?_
    simp only [qz]
    refine rg_nil (ek_next (wk_cond_t rfl (wk_seq ?_)))
    refine wk_region [0, 1, 0] rfl Kx ?_
    simp only [qy]
    refine rf_build (cs := fun a => #[.int .i64 0, .int .i64 0, .int .i64 0, .int .i64 0, .int .i64 0]) rfl rfl Kx ?_
    simp only [qz]
    refine rf_storeR (n := 5) rfl rfl Kx rfl rfl (UpdR.there _ (UpdR.app _ (UpdR.here _ _ _ Nl))) Nz ?_
    simp only [qz, Nat.reduceAdd]
    refine rg_assign ?_
    simp only [qz]
    refine rg_nil (ek_next (wk_ret (ek_then_ret (ek_block_ret (ek_then_ret (ek_then_ret (ek_block_ret (ek_then_ret ?_))))))))
    refine ek_ret (fun w hw => ⟨rfl, _, run_results2 rfl rfl (Kn.hd0 (Kn.tlU (Kn.tl hw))) Try.underlying29 rfl Kx, ?_⟩)
    (try simp only [qz])
    exact ⟨by unfold wnum; rw [← hyz.out]; unfold numOk; simp [*, Nm.zero], hw.below⟩
  apply rg_pure Rx Kx
  case hargs => exact Ax
  case h => exact fun w hw => by have := bsmall_any y.d _ ld w (hsk.d.at hw (List.Sublist.cons _ (List.sublist_append_left _ _))); rw [hq3] at this; exact this
  case hz => exact Nz
  simp only [qz]
  refine rg_move ?_
  simp only [qz]
  refine rf_extract rfl rfl rfl rfl ?_
  simp only [qz]
  refine rf_extract rfl rfl rfl rfl ?_
  simp only [qz]
  refine rg_assign ?_
  simp only [qz]
  refine rg_assign ?_
  simp only [qz]
  refine rg_nil (ek_next (wk_seq (wk_seq ?_)))
  refine wk_region [0, 0] rfl Kx ?_
  simp only [qy]
  refine rg_move ?_
  simp only [qz]
  refine rf_not rfl rfl rfl ?_
  simp only [qz]
  refine rg_nil (ek_next (wk_cond_f rfl (wk_skip (ek_next ?_))))
  refine wk_region [0, 0, 0, 0, 1] rfl Kx ?_
  simp only [qy]
  refine rg_move ?_
  simp only [qz]
  refine rg_move ?_
  simp only [qz]
  refine rf_field (n := 3) (j := 0) rfl rfl rfl Try.underlying29 rfl Kx rfl ?_
  simp only [qz]
  refine rf_indexA (n := 3) (sz := 1) (j := 3) rfl rfl rfl rfl Try.underlying27 Kx (by decide) rfl ?_
  simp only [qz]
  refine rf_store rfl rfl Kx rfl rfl (UpdR.here _ _ _ Nl) Nz ?_
  simp only [qz]
  refine rg_nil (ek_block (ek_next ?_))
  refine wk_region [0, 0, 0] rfl Kx ?_
  simp only [qy]
  refine rg_move ?_
  simp only [qz]
  refine rf_add (r := 4) rfl rfl rfl rfl (by decide) ?_
  simp only [qz]
  refine rg_assign ?_
  simp only [qz]
  refine rg_nil (ek_again (wk_seq (wk_seq ?_)))
  refine wk_region [0, 0] rfl Kx ?_
  simp only [qy]
  refine rg_move ?_
  simp only [qz]
  refine rf_lss (b := false) rfl rfl rfl rfl (by decide) ?_
  simp only [qz]
  refine rg_nil (ek_next (wk_cond_f rfl (wk_exit (ek_then_exit (ek_then_exit (ek_block_exit (ek_next (wk_seq ?_))))))))
  refine wk_draws_m (hz1 := (sc _ (List.Sublist.append_left (sk _ (sc _ sn)) _))) [(0, 0), (1, 3), (2, 3), (3, 3), (4, 2), (5, 0)] 4 Kx Kx (fun c d v a w h => by cases d <;> exact h) ?_
  simp only [List.map_cons, List.map_nil, List.getD_cons_zero, List.getD_cons_succ]
  refine rf_loadR (n := 5) rfl rfl rfl Try.underlying29 rfl Kx (fun w hw => Kn.hd0 hw) rfl rfl ?_
  simp only [qz]
  refine rf_field (n := 0) (j := 8) rfl rfl rfl Try.underlying73 rfl Kx rfl ?_
  simp only [qz]
  refine rf_load rfl rfl rfl Try.underlying3 rfl (fun w hw => (Kn.hd0 (Kn.tlU (Kn.tl hw))).at rfl) ?_
  simp only [qz]
  refine rf_leq rfl rfl rfl rfl rfl ?_
  simp only [qz]
  refine rf_storeRM (n := 5) rfl rfl Kx rfl rfl (UpdR.there _ (UpdR.app _ (UpdR.here _ _ _ Nl))) (sc _ (List.Sublist.append_left (sk _ (sc _ sn)) _)) ?_
  simp only [qz, Nat.reduceAdd]
  refine rg_assign ?_
  simp only [qz]
  refine rg_nil (ek_next (wk_ret ?_))
  refine ek_ret (fun w hw => ⟨rfl, _, run_results2 rfl rfl (Kn.hd0 (Kn.tlU (Kn.tl hw))) Try.underlying29 rfl Kx, ?_⟩)
  (try simp only [qz])
  exact ⟨by unfold wnum; rw [← hyz.out]; unfold numOk; simp [*, Nm.zero], hw.below⟩

end Go.Proofs.Ytjeijnjaleldkaa
namespace Go.Proofs.Ytjeijnjaleldkaa
set_option linter.all false
open Go.RowKit

theorem fit382 {z : Nm} (h : z.Fit 1000000000) : z.Fit 9850501549098619803069760025035903451269934817616361666987073351061430442874302652853566563721228910201656997576704 := Nm.fit_mono h (by decide)
theorem to_fit {z : Nm} {m : Int} (h : z.Fit 1000000000) (h0 : z.k ≤ m) (h1 : m - z.k ≤ 40) : (z.to m).Fit 9850501549098619803069760025035903451269934817616361666987073351061430442874302652853566563721228910201656997576704 := by
  unfold Nm.to
  exact Nm.fit_mono (Nm.up40_fit (n := (m - z.k).toNat) h Ox) (by decide)
theorem addR_fitW {x y : Nm} (hx : x.Ok) (hy : y.Ok) : (x.addR y).Fit 9850501549098619803069760025035903451269934817616361666987073351061430442874302652853566563721228910201656997576704 := Nm.fit_mono (addR_fit hx hy) (by decide)
theorem mulR_fitW {x y : Nm} (hx : x.Ok) (hy : y.Ok) : (x.mulR y).Fit 9850501549098619803069760025035903451269934817616361666987073351061430442874302652853566563721228910201656997576704 := Nm.fit_mono (mulR_fit hx.fit hy.fit) (by decide)
end Go.Proofs.Ytjeijnjaleldkaa
namespace Go.Proofs.Ytjeijnjaleldkaa
set_option linter.all false
open Go.RowKit
section
variable {R : Option Nat} {ops : Array Oper} {Q : Exit → Act → World → Prop} {B : World} {F : List Nat} {s0 : Option (List Blk × List Blk)} {P : Program}
variable {l : List (Oper × Nat)} {a : Act} {s : List Blk} {d : Option Tmp} {t : TypeId} {p : String} {af : Array Edge} {gd : Option (Nat × Bool)} {m : Nat}
/-- A slice from lo on: x[lo:]. -/
theorem rf_sliceFrom {T : Nat} {x yl : Operand} {b off lo len cap e sz : Nat} {k' : IntKind} {zl : Int} (hm : soft03 m = true) (hg : Region.wanted ⟨d, .slice T x (some yl) none none, t, p, af, gd⟩ (yielded ops a.tmps) = true)
    (hx : a.eval x = .slice (some ⟨b, off, none⟩) len cap) (hl : a.eval yl = .int k' zl) (hu : P.underlying T = some (.slice e)) (hs : (P.info? e).map (·.size) = some sz) (hzl : zl = (lo : Int)) (hn : lo ≤ len)
    (h : Rg R P ops Q B F s0 l (a.put d (.slice (if cap = lo then some ⟨b, off, none⟩ else some ⟨b, off + lo * sz, none⟩) (len - lo) (cap - lo))) s) : Rg R P ops Q B F s0 ((⟨d, .slice T x (some yl) none none, t, p, af, gd⟩, m) :: l) a s := by
  subst hzl
  refine rg_any hm hg (fun w => ?_) h
  unfold Yld
  cases hq : P.info? e with
  | none => simp [hq] at hs
  | some q =>
    have hs' : q.size = sz := by simpa [hq] using hs
    have hb2 := fun w => run_sliceBound (P := P) w k' (lo : Int) len .sliceB (by omega) (by omega)
    have e2 : (lo : Int).toNat = lo := Int.toNat_natCast _
    rw [e2] at hb2
    simp [execOp, hx, hl, Instr.sliceAt, Instr.slice, Instr.sliceBounds, run_underlying hu, sizeOf, typeInfo, hq, hs', hb2, Addr.add_mid]
end
end Go.Proofs.Ytjeijnjaleldkaa
namespace Go.Proofs.Ytjeijnjaleldkaa
set_option linter.all false
open Go.RowKit

/-- Rows that are there; hs: the slices. -/
def RowsA (w : World) (hs : List Value) (rows : List (List Nm)) : Prop :=
  hs.length = rows.length ∧ ∀ k, k < rows.length → ∃ b off c, hs[k]? = some (.slice (some ⟨b, off, none⟩) (rows.getD k []).length c) ∧ (rows.getD k []).length ≤ c ∧ AS w (some ⟨b, off, none⟩) (nms (rows.getD k []))
theorem RowsA.kn0 {B w : World} {s : List Blk} {hs : List Value} {rows : List (List Nm)} (h : RowsA B hs rows) (K : Kn B [] s w) : RowsA w hs rows :=
  ⟨h.1, fun k hk => by
    obtain ⟨b, off, c, h1, h2, h3⟩ := h.2 k hk
    exact ⟨b, off, c, h1, h2, h3.kn0 K⟩⟩
theorem flat_len (l : List Nm) : (nms l).length = l.length * 5 := NmE.flat_len l
theorem AS.part {w : World} {b off : Nat} {xs ys : List Nm} {lo : Nat} (h : AS w (some ⟨b, off, none⟩) (nms xs)) (hl : lo + ys.length ≤ xs.length) (he : ∀ j, j < ys.length → nm ys j = nm xs (lo + j)) : AS w (some ⟨b, off + lo * 5, none⟩) (nms ys) := by
  intro hne
  have hy := flat_len ys
  have hf := flat_len xs
  have hy0 : 0 < (nms ys).length := List.length_pos_iff.2 hne
  obtain ⟨b', off', e, hlt, hc⟩ := h (fun e => by rw [e] at hf; simp at hf; omega)
  cases e
  refine ⟨b, _, rfl, hlt, fun j hj => ?_⟩
  have hd := Nat.div_add_mod j 5
  have hm5 := Nat.mod_lt j (show 0 < 5 by omega)
  have h1 := NmE.get ys (j / 5) (j % 5) (by omega) hm5
  have h2 := NmE.get xs (lo + j / 5) (j % 5) (by omega) hm5
  have e1 : NmE.at ys (j / 5) = NmE.at xs (lo + j / 5) := he _ (by omega)
  rw [e1, ← h2] at h1
  have e2 : j / 5 * NmE.sz + j % 5 = j := by show j / 5 * 5 + j % 5 = j; omega
  have e3 : (lo + j / 5) * NmE.sz + j % 5 = lo * 5 + j := by show (lo + j / 5) * 5 + j % 5 = _; omega
  rw [e2, e3] at h1
  rw [h1, ← hc _ (by omega), Nat.add_assoc]
theorem nm_take {xs : List Nm} {k j : Nat} (h : j < k) : nm (xs.take k) j = nm xs j := by
  show El.at NmE _ _ = El.at NmE _ _
  unfold El.at
  rw [List.getD_eq_getElem?_getD, List.getD_eq_getElem?_getD, List.getElem?_take, if_pos h]
theorem nm_drop {xs : List Nm} {k j : Nat} : nm (xs.drop k) j = nm xs (k + j) := by
  show El.at NmE _ _ = El.at NmE _ _
  unfold El.at
  rw [List.getD_eq_getElem?_getD, List.getD_eq_getElem?_getD, List.getElem?_drop]
theorem AS.takeN {w : World} {b off : Nat} {xs : List Nm} {k : Nat} (h : AS w (some ⟨b, off, none⟩) (nms xs)) (hk : k ≤ xs.length) : AS w (some ⟨b, off, none⟩) (nms (xs.take k)) := by
  have := h.part (lo := 0) (ys := xs.take k) (by rw [List.length_take]; omega) (fun j hj => by rw [Nat.zero_add]; exact nm_take (by rw [List.length_take] at hj; omega))
  simpa using this
theorem AS.dropN {w : World} {b off : Nat} {xs : List Nm} {k : Nat} {ad : Addr} (h : AS w (some ⟨b, off, none⟩) (nms xs)) (hk : k ≤ xs.length) (ha : k < xs.length → ad = ⟨b, off + k * 5, none⟩) : AS w (some ad) (nms (xs.drop k)) := by
  intro hne
  have hl : k < xs.length := by
    rcases Nat.lt_or_ge k xs.length with h | h
    · exact h
    · rw [List.drop_eq_nil_of_le h] at hne; exact absurd rfl hne
  rw [ha hl]
  exact h.part (lo := k) (ys := xs.drop k) (by rw [List.length_drop]; omega) (fun j _ => nm_drop) hne
theorem take_drop_erase {α : Type} : ∀ (l : List α) (k : Nat), l.take k ++ l.drop (k + 1) = l.eraseIdx k
  | [], _ => by simp
  | _ :: _, 0 => rfl
  | x :: t, k + 1 => by
    show x :: (t.take k ++ t.drop (k + 1)) = x :: t.eraseIdx k
    rw [take_drop_erase t k]
/-- Rows that lie in blocks of their own. -/
inductive RowsN : List Blk → List Value → List (List Nm) → Prop
  | nil : RowsN [] [] []
  | snoc {us : List Blk} {hs : List Value} {rows : List (List Nm)} {u : List Blk} {h : Value} {row : List Nm} : RowsN us hs rows → OwnN u h row → 0 < row.length → RowsN (u ++ us) (hs ++ [h]) (rows ++ [row])
theorem RowsN.len {us : List Blk} {hs : List Value} {rows : List (List Nm)} (h : RowsN us hs rows) : hs.length = rows.length := by
  induction h with
  | nil => rfl
  | snoc _ _ _ ih => simp [ih]
theorem RowsN.asA {us : List Blk} {hs : List Value} {rows : List (List Nm)} (h : RowsN us hs rows) : ∀ {B w : World} {F : List Nat} {s : List Blk}, Kn B F s w → us.Sublist s → RowsA w hs rows := by
  induction h with
  | nil => intro B w F s K hs; exact ⟨rfl, fun k hk => absurd hk (by simp)⟩
  | @snoc us hs rows u h row h0 hO hrl ih =>
    intro B w F s K hsub
    have hl := h0.len
    obtain ⟨-, ih⟩ := ih K ((List.sublist_append_right _ _).trans hsub)
    refine ⟨by simp [hl], fun k hk => ?_⟩
    rcases (by simp at hk; omega : k < rows.length ∨ k = rows.length) with hk | rfl
    · obtain ⟨b, off, c, h1, h2, h3⟩ := ih k hk
      have e : (rows ++ [row]).getD k [] = rows.getD k [] := by rw [List.getD_eq_getElem?_getD, List.getElem?_append_left hk, ← List.getD_eq_getElem?_getD]
      rw [e]
      exact ⟨b, off, c, by rw [List.getElem?_append_left (by omega)]; exact h1, h2, h3⟩
    · have e : (rows ++ [row]).getD rows.length [] = row := by simp [List.getD_eq_getElem?_getD]
      rw [e]
      have K' := K.sub ((List.sublist_append_left u us).trans hsub)
      obtain ⟨a, c, e1, e2⟩ := Own.as (s := []) hO (by rw [List.append_nil]; exact K')
      obtain ⟨a', c', e3, e4⟩ := Own.val hO
      rw [e1] at e3
      cases e3
      have hf := flat_len row
      obtain ⟨b, off, e5, -, -⟩ := e2 (fun e => by have e' : nms row = [] := e; rw [e'] at hf; simp at hf; omega)
      subst e5
      refine ⟨b, off, c, ?_, e4, e2⟩
      rw [List.getElem?_append_right (by omega)]
      simp [hl, e1]
theorem sNInfo : (Try.prog.info? 22).map (fun i => (i.zero, i.size, i.bytes)) = some (some (.slice none 0 0), 1, 24) := by kernel_rfl
section
variable {R : Option Nat} {ops : Array Oper} {Q : Exit → Act → World → Prop} {B : World} {F : List Nat} {s0 : Option (List Blk × List Blk)}
variable {l : List (Oper × Nat)} {a : Act} {s S : List Blk} {d : Option Tmp} {op : Op} {t : TypeId} {p : String} {af : Array Edge} {v : Value}
/-- append of a row to a list of rows. -/
theorem rg_appLN {so xo : Operand} {u : List Blk} {hs : List Value} {n g : Nat} {h : Value} {gd : Option (Nat × Bool)} (hg : Region.wanted ⟨d, .call ⟨.builtin .append, #[so, xo], #[84, 84]⟩, t, p, af, gd⟩ (yielded ops a.tmps) = true)
    (hs0 : a.eval so = v) (hown : Own 22 1 u v n hs) (hx : a.eval xo = .slice (some ⟨g, 0, none⟩) 1 1) (hn : n ≤ 1000000) (h1 : h.oneCell' = true) (hp : S.Perm (u ++ s))
    (hnews : ∀ w, Kn B F S w → Hd w g 22 #[h]) (hzz : ∀ z ∈ s0, z.1.Sublist s)
    (k : ∀ u' a' c', Own 22 1 u' (.slice a' (n + 1) c') (n + 1) (hs ++ [h]) → Rg R Try.prog ops Q B F s0 l (a.put d (.slice a' (n + 1) c')) (u' ++ s)) :
    Rg R Try.prog ops Q B F s0 ((⟨d, .call ⟨.builtin .append, #[so, xo], #[84, 84]⟩, t, p, af, gd⟩, 1) :: l) a S := by
  obtain ⟨i, hi, hz, hsz, hb⟩ := info_partsN sNInfo
  refine rg_append (u := u) (s := s) (i := i) (z := .slice none 0 0) (size := 1) (bytes := 24) (n := n) (m := 1) (c := 1) (xs := hs) (news := [h]) (ad := ⟨g, 0, none⟩) hg
    Try.underlying84 hi hz hsz hb rfl (by decide) hs0 hown hx (by rfl) ?_ (by simpa using h1) (by simp only [maxLen]; omega) (by omega) hp hzz ?_
  · intro w K j y hj
    have hd := (hnews w K).cell
    match j, hj with
    | 0, hj => simp only [List.getElem?_cons_zero, Option.some.injEq] at hj; subst hj; exact hd 0
    | j + 1, hj => simp at hj
  · intro u' v' hO _
    obtain ⟨a', c', rfl, -⟩ := Own.val hO
    exact k u' a' c' hO
/-- append of a list of numbers, which may be empty. -/
theorem rg_appN0 {so xo : Operand} {u : List Blk} {xs ys : List Nm} {m c r : Nat} {ad : Addr} {gd : Option (Nat × Bool)} (hg : Region.wanted ⟨d, .call ⟨.builtin .append, #[so, xo], #[22, 22]⟩, t, p, af, gd⟩ (yielded ops a.tmps) = true)
    (hs : a.eval so = v) (hown : OwnN u v xs) (hx : a.eval xo = .slice (some ad) m c) (hm : ys.length = m) (hr : xs.length + ys.length = r) (hb : r ≤ 10000000) (hp : S.Perm (u ++ s))
    (hA : ∀ w, Kn B F S w → AS w (some ad) (nms ys))
    (hzz : ∀ z ∈ s0, z.1.Sublist s) (h : ∀ u' a' c', OwnN u' (.slice a' r c') (xs ++ ys) → Rg R Try.prog ops Q B F s0 l (a.put d (.slice a' r c')) (u' ++ s)) :
    Rg R Try.prog ops Q B F s0 ((⟨d, .call ⟨.builtin .append, #[so, xo], #[22, 22]⟩, t, p, af, gd⟩, 1) :: l) a S := by
  obtain ⟨i, hi, hz, hsz, hby⟩ := info_partsN numInfo
  subst hm hr
  refine rg_appendG (E := NmE) (u := u) (s := s) (i := i) (xs := xs) (ys := ys) (ad := ad) hg Try.underlying22 hi hz hsz rfl (by omega) hs hown hx rfl (by omega) hp (fun w K j y hj => ?_) hzz fun u' v' hO => ?_
  · have hne : nms ys ≠ [] := fun e => by (have e' : NmE.flat ys = [] := e; rw [e'] at hj; simp at hj)
    obtain ⟨b, off, e, _, hc⟩ := hA w K hne
    cases e
    have hj' : j < (nms ys).length := by
      rcases Nat.lt_or_ge j (nms ys).length with h | h
      · exact h
      · rw [List.getElem?_eq_none h] at hj; cases hj
    have e1 : (⟨b, off, none⟩ : Addr).add j = ⟨b, off + j, none⟩ := Addr.add_mid ..
    rw [e1, hc j hj', hj]
  · obtain ⟨a', c', rfl, -⟩ := Own.val hO
    have e : (xs ++ ys).length = xs.length + ys.length := by simp
    rw [e] at hO ⊢
    exact h u' a' c' hO
/-- A slice from lo on. -/
theorem rf_from {P : Program} {m : Nat} {T : Nat} {x yl : Operand} {b off lo len cap e sz : Nat} {k' : IntKind} {zl : Int} {gd : Option (Nat × Bool)} (hm : soft03 m = true) (hg : Region.wanted ⟨d, .slice T x (some yl) none none, t, p, af, gd⟩ (yielded ops a.tmps) = true)
    (hx : a.eval x = .slice (some ⟨b, off, none⟩) len cap) (hl : a.eval yl = .int k' zl) (hu : P.underlying T = some (.slice e)) (hs : (P.info? e).map (·.size) = some sz) (hzl : zl = (lo : Int)) (hn : lo ≤ len)
    (h : ∀ ad, (lo < cap → ad = ⟨b, off + lo * sz, none⟩) → Rg R P ops Q B F s0 l (a.put d (.slice (some ad) (len - lo) (cap - lo))) s) : Rg R P ops Q B F s0 ((⟨d, .slice T x (some yl) none none, t, p, af, gd⟩, m) :: l) a s := by
  refine rf_sliceFrom hm hg hx hl hu hs hzl hn ?_
  by_cases hc : cap = lo
  · rw [if_pos hc]
    exact h _ fun h => by omega
  · rw [if_neg hc]
    exact h _ fun _ => rfl
end
end Go.Proofs.Ytjeijnjaleldkaa
namespace Go.Proofs.Ytjeijnjaleldkaa
set_option linter.all false
open Go.RowKit

theorem madeZ (n : Nat) : madeCells #[Value.int .i64 0] n = (zs (List.replicate n 0)).toArray := by
  unfold madeCells
  apply Array.ext'
  simp only [Array.toList_map, Array.toList_range]
  apply List.ext_getElem
  · simp
  intro i h1 h2
  simp [Nat.mod_one]
theorem OwnZ.whole {g : Nat} {xs : List Int} (h : xs.length ≤ 1000000) : OwnZ [(g, .cells (zs xs).toArray 3)] (.slice (some ⟨g, 0, none⟩) xs.length xs.length) xs :=
  Own.whole (cur := (zs xs).toArray) (by simp) (by simp only [maxLen]; omega)
section
variable {R : Option Nat} {ops : Array Oper} {Q : Exit → Act → World → Prop} {B : World} {F : List Nat} {s0 : Option (List Blk × List Blk)}
variable {l : List (Oper × Nat)} {a : Act} {s S : List Blk} {d : Option Tmp} {op : Op} {t : TypeId} {p : String} {af : Array Edge} {v : Value}
theorem rg_makeZ {lo co : Operand} {n : Nat} {gd : Option (Nat × Bool)} (hg : Region.wanted ⟨d, .makeSlice 37 lo co, t, p, af, gd⟩ (yielded ops a.tmps) = true) (hl : a.eval lo = .int .i64 n) (hc : a.eval co = .int .i64 n) (hn : n ≤ 1000000)
    (hzz : ∀ z ∈ s0, z.1.Sublist s) (h : ∀ g, Rg R Try.prog ops Q B F s0 l (a.put d (.slice (some ⟨g, 0, none⟩) n n)) ((g, .cells (zs (List.replicate n 0)).toArray 3) :: s)) :
    Rg R Try.prog ops Q B F s0 ((⟨d, .makeSlice 37 lo co, t, p, af, gd⟩, 1) :: l) a s := by
  obtain ⟨i, hi, hz, hs, hb⟩ := info_partsN zInfo
  refine rg_make (i := i) (z := .int .i64 0) (n := n) hg Try.underlying37 hi hz hl hc (by rw [hb]; omega) Ox hzz fun g => ?_
  have : madeCells (Value.int .i64 0).cells (n * i.size) = (zs (List.replicate n 0)).toArray := by rw [hs, Nat.mul_one]; exact madeZ n
  rw [this]
  exact h g
/-- copy of known whole numbers into a block. -/
theorem rg_copyZ {so xo : Operand} {g o dl dc m c : Nat} {ad : Addr} {cur : List Int} {cur' cs : List Int} {r : Int} {gd : Option (Nat × Bool)} (hg : Region.wanted ⟨d, .call ⟨.builtin .copy, #[so, xo], #[37, 37]⟩, t, p, af, gd⟩ (yielded ops a.tmps) = true)
    (hs : a.eval so = .slice (some ⟨g, o, none⟩) dl dc) (hx : a.eval xo = .slice (some ad) m c) (hn : cs.length = Nat.min m dl) (hrr : (cs.length : Int) = r) (hp : S.Perm ((g, .cells (zs cur).toArray 3) :: s))
    (hsrc : ∀ w, Kn B F S w → ∀ j x, cs[j]? = some x → w.cell? (ad.add j) = some (.int .i64 x)) (hfit : o + cs.length ≤ cur.length) (hc : cur.take o ++ cs ++ cur.drop (o + cs.length) = cur')
    (hzz : ∀ z ∈ s0, z.1.Sublist ((g, Obj.cells (zs cur').toArray 3) :: s)) (h : Rg R Try.prog ops Q B F s0 l (a.put d (.int .i64 r)) ((g, .cells (zs cur').toArray 3) :: s)) :
    Rg R Try.prog ops Q B F s0 ((⟨d, .call ⟨.builtin .copy, #[so, xo], #[37, 37]⟩, t, p, af, gd⟩, 1) :: l) a S := by
  subst hrr
  refine rg_run hg fun w K => ?_
  have K' := K.perm hp
  have hd : w.heap[g]? = some (.cells (zs cur).toArray 3 (0, 0)) := Kn.hd0 K'
  have hr := run_copy_row (P := Try.prog) w 37 37 t 3 g o dl dc ad m c (zs cur).toArray 3 (zs cs) Try.underlying37 Kx hd (by simpa using hn)
    (fun j v hj => by
      rw [List.getElem?_map] at hj
      obtain ⟨x, hx1, rfl⟩ := Option.map_eq_some_iff.1 hj
      exact hsrc w K j x hx1) (by simpa using hfit) (by intro v hv; obtain ⟨x, -, rfl⟩ := List.mem_map.1 hv; rfl)
  have e : ((zs cur).toArray.toList.take o ++ zs cs ++ (zs cur).toArray.toList.drop (o + (zs cs).length)).toArray = (zs cur').toArray := by
    rw [← hc]
    simp [List.map_take, List.map_drop]
  rw [e, List.length_map] at hr
  refine ⟨.int .i64 cs.length, w.setRow g (zs cur').toArray, (g, Obj.cells (zs cur').toArray 3) :: s, .inl ?_, Kn.mod K' rfl rfl rfl (by simp) (fun k _ hk => setRow_other w g k _ (fun e => hk e)) (setRow_heap w g (zs cur).toArray _ 3 _ hd), hzz, h⟩
  have hx1 : execOp a.eval ⟨d, .call ⟨.builtin .copy, #[so, xo], #[37, 37]⟩, t, p, af, gd⟩ = (do let d ← resolve a.eval ⟨.builtin .copy, #[so, xo], #[37, 37]⟩ t; invoke d.target d.args) := rfl
  rw [hx1]
  simp only [resolve, invoke, builtin, Sem.run_bind, Sem.run_pure, Result.andThen_ok, List.map_toArray, List.map_cons, List.map_nil, hs, hx, hr]
  rfl
end
/-- k numbers that are x, the others 0. -/
def repZ (x : Int) (n k : Nat) : List Int := List.replicate k x ++ List.replicate (n - k) 0
theorem repZ_len {x : Int} {n k : Nat} (h : k ≤ n) : (repZ x n k).length = n := by simp [repZ]; omega
theorem repZ_get {x : Int} {n k j : Nat} (h : j < k) : (repZ x n k)[j]? = some x := by
  unfold repZ
  rw [List.getElem?_append_left (by simpa using h), List.getElem?_replicate, if_pos h]
theorem repZ_one {x : Int} {n : Nat} (h : 1 ≤ n) : (List.replicate n (0 : Int)).take 0 ++ [x] ++ (List.replicate n (0 : Int)).drop (0 + [x].length) = repZ x n 1 := by
  simp [repZ]
theorem repZ_step {x : Int} {n k m : Nat} (h : k + m ≤ n) : (repZ x n k).take (0 + k * 1) ++ List.replicate m x ++ (repZ x n k).drop (0 + k * 1 + (List.replicate m x).length) = repZ x n (k + m) := by
  unfold repZ
  rw [Nat.zero_add, Nat.mul_one, List.length_replicate, List.take_left' (by simp), List.drop_append]
  have e1 : (List.replicate k x).drop (k + m) = [] := List.drop_eq_nil_of_le (by simp)
  rw [e1, List.nil_append, List.length_replicate, List.drop_replicate, List.replicate_append_replicate]
  congr 2
  omega
theorem repZ_all (x : Int) (n : Nat) : repZ x n n = List.replicate n x := by simp [repZ]
def RetZ (w : World) (n : Nat) (L : List Int) (e : Ending) (w' : World) : Prop := ∃ g c u, e = .returned (.slice (some ⟨g, 0, none⟩) n c) ∧ OwnZ u (.slice (some ⟨g, 0, none⟩) n c) L ∧ Made w u w'
set_option maxRecDepth 100000 in
set_option maxHeartbeats 1000000 in
theorem bitsMul_any (n : Nat) (hn : n ≤ 5) (w : World) : Calls Try.prog 153 #[.int .u64 1, .int .u64 n] w fun e w' => e = .returned (.tuple #[.int .u64 0, .int .u64 n]) ∧ Below w.heap.size w w' := by
  go_enter Try.func153, Try.ntmps153
  refine wk_start ?_
  refine wk_seq ?_
  refine wk_region [0, 0] rfl Kx ?_
  simp only [qy]
  refine rg_assign ?_
  simp only [qz]
  refine rg_assign ?_
  simp only [qz]
  refine rg_nil (ek_next (wk_seq (wk_cond_f rfl (wk_skip (ek_next (wk_seq ?_))))))
  refine wk_region [0, 0, 1, 0, 0, 0, 0, 0] rfl Kx ?_
  simp only [qy]
  refine rg_move ?_
  simp only [qz]
  refine rg_move ?_
  simp only [qz]
  apply rg_pure Rx Kx
  case hargs => exact Ax
  case h => exact fun w hw => (mul64_any 1 n Ox Ox Ox Ox w).mono (fun e w' ⟨he, hw'⟩ => (⟨by rw [he, show (1 : Int) * n / 18446744073709551616 = 0 by omega, show (1 : Int) * n % 18446744073709551616 = n by omega], hw' ▸ Below.refl _ _⟩ : e = .returned (.tuple #[.int .u64 0, .int .u64 n]) ∧ Below w.heap.size w w'))
  case hz => exact Nz
  simp only [qz]
  refine rg_move ?_
  simp only [qz]
  refine rf_extract rfl rfl rfl rfl ?_
  simp only [qz]
  refine rf_extract rfl rfl rfl rfl ?_
  simp only [qz]
  refine rg_assign ?_
  simp only [qz]
  refine rg_assign ?_
  simp only [qz]
  refine rg_nil (ek_next (wk_seq ?_))
  refine wk_region [0, 0, 0, 0] rfl Kx ?_
  simp only [qy]
  refine rg_move ?_
  simp only [qz]
  refine rg_move ?_
  simp only [qz]
  refine rg_assign ?_
  simp only [qz]
  refine rg_assign ?_
  simp only [qz]
  refine rg_nil (ek_next (wk_ret ?_))
  refine ek_ret (fun w hw => ⟨rfl, _, res_tt _ _ rfl, ?_⟩)
  (try simp only [qz])
  first | exact ⟨rfl, hw.below⟩ | exact ⟨trivial, hw.below⟩ | exact hw.below

set_option maxRecDepth 100000 in
set_option maxHeartbeats 1000000 in
theorem repeat_pos (x : Int) (a : Option Addr) (c : Nat) (n : Nat) (hn : n ≤ 5) (hn1 : 1 ≤ n) (w : World) (hA : AS w a (zs [x])) : Calls Try.prog 130 #[.slice a 1 c, .int .i64 n] w fun e w' => RetZ w n (List.replicate n x) e w' := by
  obtain ⟨b, off, rfl, hlt, hcell⟩ := AS.openI hA (by simp)
  go_enter Try.func130, Try.ntmps130
  refine wk_start ?_
  refine wk_seq ?_
  refine wk_region [0] rfl Kx ?_
  simp only [qy]
  refine rg_assign ?_
  simp only [qz]
  refine rg_nil (ek_next (wk_seq (wk_seq ?_)))
  refine wk_region [0, 0] rfl Kx ?_
  simp only [qy]
  refine rg_move ?_
  simp only [qz]
  refine rfb_lss rfl rfl rfl rfl ?_
  intro x h1
  obtain rfl : x = false := by (refine h1.symm.trans ?_; exact decide_eq_false Ox)
  clear h1
  simp only [qz]
  refine rg_nil (ek_next (wk_cond_f rfl (wk_skip (ek_next (wk_seq ?_)))))
  refine wk_region [0, 0, 0, 0, 0, 1, 0, 0, 0, 0, 0] rfl Kx ?_
  simp only [qy]
  refine rg_move ?_
  simp only [qz]
  refine rf_len rfl rfl rfl Try.underlying37 ?_
  simp only [qz]
  refine rf_conv (r := 1) rfl rfl rfl Try.underlying3 Try.underlying137 (by decide) ?_
  simp only [qz]
  refine rg_move ?_
  simp only [qz]
  refine rf_conv (r := (n : Int)) rfl rfl rfl Try.underlying3 Try.underlying137 (by rw [IntKind.wrap_u64]; omega) ?_
  simp only [qz]
  apply rg_pure Rx Kx
  case hargs => exact Ax
  case h => exact fun w hw => bitsMul_any n Ox w
  case hz => exact Nz
  simp only [qz]
  refine rg_move ?_
  simp only [qz]
  refine rf_extract rfl rfl rfl rfl ?_
  simp only [qz]
  refine rf_extract rfl rfl rfl rfl ?_
  simp only [qz]
  refine rg_assign ?_
  simp only [qz]
  refine rg_assign ?_
  simp only [qz]
  refine rg_nil (ek_next (wk_seq (wk_seq ?_)))
  refine wk_region [0, 0, 0, 0, 0, 0] rfl Kx ?_
  simp only [qy]
  refine rg_move ?_
  simp only [qz]
  refine rfb_gtr rfl rfl rfl rfl ?_
  intro x h2
  obtain rfl : x = false := by (refine h2.symm.trans ?_; exact decide_eq_false Ox)
  clear h2
  simp only [qz]
  refine rg_move ?_
  simp only [qz]
  apply rg_soft_g
  case hg => rfl
  case hy => (intro w hw; go_simp; (try go_bits); exact Yld.mk _ _)
  simp only [qz]
  refine rfb_gtr rfl rfl rfl rfl ?_
  intro x h3
  obtain rfl : x = false := by (refine h3.symm.trans ?_; exact decide_eq_false Ox)
  clear h3
  simp only [qz]
  refine rf_pick rfl rfl rfl ?_
  simp only [qz]
  refine rg_nil (ek_next (wk_cond_f rfl (wk_skip (ek_next (wk_seq ?_)))))
  refine wk_region [0, 0, 1, 0] rfl Kx ?_
  simp only [qy]
  refine rg_move ?_
  simp only [qz]
  refine rf_conv (r := (n : Int)) rfl rfl rfl Try.underlying137 Try.underlying3 (wrap_ok Ox Ox) ?_
  simp only [qz]
  refine rg_makeZ (n := n) Rx rfl rfl Ox Nz (fun g1 => ?_)
  simp only [qz]
  refine rg_assign ?_
  simp only [qz]
  refine rg_nil (ek_next (wk_seq ?_))
  refine wk_region [0, 0, 1, 0] rfl Kx ?_
  simp only [qy]
  refine rg_move ?_
  simp only [qz]
  refine rg_move ?_
  simp only [qz]
  refine rg_copyZ (cs := [x]) (cur := List.replicate n 0) (r := 1) Rx rfl rfl (by simp [Nat.min_def]; omega) rfl (List.Perm.refl _) (fun w hw j y hj => by
    match j, hj with
    | 0, hj =>
      simp only [List.getElem?_cons_zero, Option.some.injEq] at hj; subst hj
      exact (Kn.cellB hw hlt (by simp) (off + 0)).trans (hcell 0 (by simp))
    | j + 1, hj => simp at hj) (by simp; omega) (repZ_one hn1) Nz ?_
  simp only [qz]
  refine rg_assign ?_
  simp only [qz]
  refine rg_nil (ek_next (wk_seq (wk_block ?_)))
  refine wk_loopF [8, 34, 35, 36, 37, 38, 39, 40, 41, 42, 43, 44, 45, 46] (fun mz f s => ∃ (k : Nat), f 8 = .int .i64 k ∧ s = ((g1, .cells (zs (repZ x n k)).toArray 3) :: []) ∧ mz = n - k ∧ 1 ≤ k ∧ k ≤ n) ((fun (k : Nat) => n - k) (1)) ?_ Kx ?_
  · exact ⟨1, rfl, rfl, rfl, by omega, hn1⟩
  rintro mz f1 s ⟨k, hs1_8, rfl, hn, hd1, hd2⟩
  simp only [Act.putF, List.foldl_cons, List.foldl_nil, hs1_8, Act.put, Act.eval, q1, q2, q3, q4, q5, q6, q7, q8, q9, q10, q11, q12, q13, q14, q15, q16, q17, q18, Nat.reduceAdd, Bool.not_true, Bool.not_false]
  clear hs1_8
  refine wk_seq (wk_seq ?_)
  refine wk_region [0, 0, 0, 0] rfl Kx ?_
  simp only [qy]
  refine rg_move ?_
  simp only [qz]
  refine rg_move ?_
  simp only [qz]
  refine rf_len rfl rfl rfl Try.underlying37 ?_
  simp only [qz]
  refine rfb_lss rfl rfl rfl rfl ?_
  intro x h4
  cases x
  · (try simp only [qd, ne_eq] at h4)
    simp only [qz]
    refine rg_nil (ek_next (wk_cond_f rfl (wk_exit (ek_then_exit (ek_then_exit (ek_block_exit (ek_next (wk_seq ?_))))))))
    refine wk_region [0, 0] rfl Kx ?_
    simp only [qy]
    refine rg_move ?_
    simp only [qz]
    refine rg_assign ?_
    simp only [qz]
    refine rg_nil (ek_next (wk_ret ?_))
    refine ek_ret (fun w hw => ⟨rfl, _, res_t _ rfl, ?_⟩)
    (try simp only [qz])
    obtain rfl : k = n := by omega
    have hO := OwnZ.whole (g := g1) (xs := List.replicate k x) (by simp; omega)
    rw [List.length_replicate, ← repZ_all] at hO
    exact ⟨_, _, _, rfl, by rw [← repZ_all]; exact hO, hw.made (List.Sublist.refl _)⟩
  (try simp only [qd, ne_eq] at h4)
  simp only [qz]
  refine rg_nil (ek_next (wk_cond_t rfl (wk_skip (ek_next (wk_block ?_)))))
  obtain ⟨m, hm1, hm2, hm3, hm4⟩ : ∃ m, m = Nat.min k (n - k) ∧ m ≤ k ∧ m ≤ n - k ∧ 1 ≤ m := ⟨_, rfl, Nat.min_le_left _ _, Nat.min_le_right _ _, Nat.le_min.2 ⟨by omega, by omega⟩⟩
  refine wk_draws _ _ [(0, 0), (1, 0), (2, 0), (3, 0), (4, 0), (5, 0), (6, 0), (7, 1), (8, 0), (9, 0)] [] Kx Kx (fun c d v a w h => by cases d <;> exact h) ((sk _ sn)) (fun e => by first | exact absurd e (by decide) | rfl) ?_
  simp only [List.map_cons, List.map_nil, List.getD_cons_zero, List.getD_cons_succ]
  refine rg_move ?_
  simp only [qz]
  refine rg_move ?_
  simp only [qz]
  refine rg_move ?_
  simp only [qz]
  refine rf_from (lo := k) (sz := 1) rfl rfl rfl rfl Try.underlying37 Kx Ox Ox (fun ad had => ?_)
  obtain rfl := had Ox
  simp only [qz]
  refine rg_move ?_
  simp only [qz]
  refine rg_move ?_
  simp only [qz]
  refine rf_sliceTo (n := k) (sz := 1) rfl rfl rfl rfl Try.underlying37 Kx Ox Ox ?_
  simp only [qz]
  refine rg_copyZ (cs := List.replicate m x) (r := (m : Int)) Rx rfl rfl (by rw [List.length_replicate, hm1]) (by rw [List.length_replicate]) (List.Perm.refl _) (fun w hw j y hj => by
    have hj1 : j < m := by
      rcases Nat.lt_or_ge j m with h | h
      · exact h
      · rw [List.getElem?_eq_none (by simpa using h)] at hj; cases hj
    rw [List.getElem?_replicate, if_pos hj1] at hj
    cases hj
    have e1 : (⟨g1, 0, none⟩ : Addr).add j = ⟨g1, 0 + j, none⟩ := Addr.add_mid ..
    rw [e1, Nat.zero_add]
    exact (Kn.hd0 hw).cell j |>.trans (by rw [List.getElem?_toArray, List.getElem?_map, repZ_get Ox]; rfl)) (by rw [repZ_len Ox, List.length_replicate]; omega) (repZ_step Ox) (fun _ h => by cases h; exact (sk _ sn)) ?_
  simp only [qz]
  refine rf_add rfl rfl rfl rfl (wrap_ok Ox Ox) ?_
  simp only [qz]
  refine rg_assign ?_
  simp only [qz]
  refine rg_nil (ek_block ?_)
  refine ek_roundF (n - (k + m)) Ox Kx ?_
  exact ⟨k + m, rfl, by rfl, by rfl, Ox, Ox⟩

set_option maxRecDepth 100000 in
set_option maxHeartbeats 1000000 in
theorem repeat_zero (x : Int) (a : Option Addr) (c : Nat) (w : World) (hA : AS w a (zs [x])) : Calls Try.prog 130 #[.slice a 1 c, .int .i64 0] w fun e w' => RetZ w 0 [] e w' := by
  obtain ⟨b, off, rfl, hlt, hcell⟩ := AS.openI hA (by simp)
  go_enter Try.func130, Try.ntmps130
  refine wk_start ?_
  refine wk_seq ?_
  refine wk_region [0] rfl Kx ?_
  simp only [qy]
  refine rg_assign ?_
  simp only [qz]
  refine rg_nil (ek_next (wk_seq (wk_seq ?_)))
  refine wk_region [0, 0] rfl Kx ?_
  simp only [qy]
  refine rg_move ?_
  simp only [qz]
  refine rfb_lss rfl rfl rfl rfl ?_
  intro x h1
  obtain rfl : x = false := by (refine h1.symm.trans ?_; exact decide_eq_false Ox)
  clear h1
  simp only [qz]
  refine rg_nil (ek_next (wk_cond_f rfl (wk_skip (ek_next (wk_seq ?_)))))
  refine wk_region [0, 0, 0, 0, 0, 1, 0, 0, 0, 0, 0] rfl Kx ?_
  simp only [qy]
  refine rg_move ?_
  simp only [qz]
  refine rf_len rfl rfl rfl Try.underlying37 ?_
  simp only [qz]
  refine rf_conv (r := 1) rfl rfl rfl Try.underlying3 Try.underlying137 (by decide) ?_
  simp only [qz]
  refine rg_move ?_
  simp only [qz]
  refine rf_conv (r := 0) rfl rfl rfl Try.underlying3 Try.underlying137 (by decide) ?_
  simp only [qz]
  apply rg_pure Rx Kx
  case hargs => exact Ax
  case h => exact fun w hw => bitsMul_any 0 Ox w
  case hz => exact Nz
  simp only [qz]
  refine rg_move ?_
  simp only [qz]
  refine rf_extract rfl rfl rfl rfl ?_
  simp only [qz]
  refine rf_extract rfl rfl rfl rfl ?_
  simp only [qz]
  refine rg_assign ?_
  simp only [qz]
  refine rg_assign ?_
  simp only [qz]
  refine rg_nil (ek_next (wk_seq (wk_seq ?_)))
  refine wk_region [0, 0, 0, 0, 0, 0] rfl Kx ?_
  simp only [qy]
  refine rg_move ?_
  simp only [qz]
  refine rfb_gtr rfl rfl rfl rfl ?_
  intro x h2
  obtain rfl : x = false := by (refine h2.symm.trans ?_; exact decide_eq_false Ox)
  clear h2
  simp only [qz]
  refine rg_move ?_
  simp only [qz]
  apply rg_soft_g
  case hg => rfl
  case hy => (intro w hw; go_simp; (try go_bits); exact Yld.mk _ _)
  simp only [qz]
  refine rfb_gtr rfl rfl rfl rfl ?_
  intro x h3
  obtain rfl : x = false := by (refine h3.symm.trans ?_; exact decide_eq_false Ox)
  clear h3
  simp only [qz]
  refine rf_pick rfl rfl rfl ?_
  simp only [qz]
  refine rg_nil (ek_next (wk_cond_f rfl (wk_skip (ek_next (wk_seq ?_)))))
  refine wk_region [0, 0, 1, 0] rfl Kx ?_
  simp only [qy]
  refine rg_move ?_
  simp only [qz]
  refine rf_conv (r := 0) rfl rfl rfl Try.underlying137 Try.underlying3 (by decide) ?_
  simp only [qz]
  refine rg_makeZ (n := 0) Rx rfl rfl Ox Nz (fun g1 => ?_)
  simp only [qz]
  refine rg_assign ?_
  simp only [qz]
  refine rg_nil (ek_next (wk_seq ?_))
  refine wk_region [0, 0, 1, 0] rfl Kx ?_
  simp only [qy]
  refine rg_move ?_
  simp only [qz]
  refine rg_move ?_
  simp only [qz]
  refine rg_copyZ (cs := []) (cur := []) (cur' := []) (r := 0) Rx rfl rfl (by simp [Nat.min_def]) rfl (List.Perm.refl _) (fun w hw j y hj => by simp at hj) (by simp) (by simp) Nz ?_
  simp only [qz]
  refine rg_assign ?_
  simp only [qz]
  refine rg_nil (ek_next (wk_seq (wk_block ?_)))
  refine wk_unroll 0 ?_
  refine wk_seq (wk_seq ?_)
  refine wk_region [0, 0, 0, 0] rfl Kx ?_
  simp only [qy]
  refine rg_move ?_
  simp only [qz]
  refine rg_move ?_
  simp only [qz]
  refine rf_len rfl rfl rfl Try.underlying37 ?_
  simp only [qz]
  refine rfb_lss rfl rfl rfl rfl ?_
  intro x h4
  obtain rfl : x = false := by (refine h4.symm.trans ?_; exact decide_eq_false Ox)
  clear h4
  simp only [qz]
  refine rg_nil (ek_next (wk_cond_f rfl (wk_exit (ek_then_exit (ek_then_exit (ek_block_exit (ek_next (wk_seq ?_))))))))
  refine wk_region [0, 0] rfl Kx ?_
  simp only [qy]
  refine rg_move ?_
  simp only [qz]
  refine rg_assign ?_
  simp only [qz]
  refine rg_nil (ek_next (wk_ret ?_))
  refine ek_ret (fun w hw => ⟨rfl, _, res_t _ rfl, ?_⟩)
  (try simp only [qz])
  exact ⟨_, _, _, rfl, OwnZ.whole (g := g1) (xs := []) (by simp), hw.made (List.Sublist.refl _)⟩

theorem repeat_any (x : Int) (a : Option Addr) (c : Nat) (n : Nat) (hn : n ≤ 5) (w : World) (hA : AS w a (zs [x])) : Calls Try.prog 130 #[.slice a 1 c, .int .i64 n] w fun e w' => RetZ w n (List.replicate n x) e w' := by
  rcases Nat.eq_zero_or_pos n with rfl | h
  · exact repeat_zero x a c w hA
  exact repeat_pos x a c n hn h w hA
theorem repeat_int (x z : Int) (a : Option Addr) (c : Nat) (n : Nat) (hz : z = n) (hn : n ≤ 5) (w : World) (hA : AS w a (zs [x])) : Calls Try.prog 130 #[.slice a 1 c, .int .i64 z] w fun e w' => RetZ w n (List.replicate n x) e w' := by
  subst hz
  exact repeat_any x a c n hn w hA
end Go.Proofs.Ytjeijnjaleldkaa
namespace Go.Proofs.Ytjeijnjaleldkaa
set_option linter.all false
open Go.RowKit

/-- The function that yields the elements of a matrix. -/
theorem at_fnv {N : Nat} {xs : List Nm} {a : Option Addr} {c : Nat} (hl : xs.length = N * N) (hN : N ≤ 6) {w : World} (hA : AS w a (nms xs)) : FnV w (.func (.func 64) #[.agg #[.int .i64 N, .slice a xs.length c]] #[]) (D2 N N fun i k => nmV (nm xs (i * N + k))) :=
  ⟨_, _, _, rfl, by kernel_rfl, fun w' hb vs r ⟨i, k, hi, hk, hv, hr⟩ => by
    subst hv hr
    have := at_any N i k xs a c hl hN hi hk w' (hA.below hb)
    simpa using this⟩
def perR (n : Int) (xs : List Nm) : NR := if validB n xs then perF n.toNat (fun i k => nm xs (i * n.toNat + k)) else .error 20
theorem validB_N {n : Int} {xs : List Nm} (h : validB n xs = true) : ∃ N : Nat, n = N ∧ 1 ≤ N ∧ N ≤ 6 ∧ xs.length = N * N ∧ xs.length ≤ 36 ∧ allOk xs = true := by
  simp only [validB, Bool.and_eq_true, decide_eq_true_eq] at h
  obtain ⟨h1, h2, h3, h4⟩ := h
  obtain ⟨N, rfl⟩ : ∃ N : Nat, n = N := ⟨n.toNat, by omega⟩
  have h5 : xs.length = N * N := by
    have e : ((N * N : Nat) : Int) = (N : Int) * N := Int.natCast_mul N N
    omega
  have h6 : N * N ≤ 6 * 6 := Nat.mul_le_mul Ox Ox
  exact ⟨N, rfl, by omega, by omega, h5, by omega, h4⟩
theorem elem_ok {xs : List Nm} {N : Nat} (hok : allOk xs = true) (hl : xs.length = N * N) {i k : Nat} (hi : i < N) (hk : k < N) : (nm xs (i * N + k)).Ok := ok_at hok (by rw [hl]; exact ix_lt hi hk)
theorem numV_ve (r : NR) : ∃ (v : Nm) (c : Int), numV r = .tuple #[nmV v, .int .i64 c] := by cases r <;> exact ⟨_, _, rfl⟩
set_option maxRecDepth 100000 in
set_option maxHeartbeats 1000000 in
theorem mpermanent_any (n : Int) (xs : List Nm) (a : Option Addr) (c : Nat) (hl : xs.length ≤ 1000000) (w : World) (hA : AS w a (nms xs)) : Calls Try.prog 17 #[.agg #[.int .i64 n, .slice a xs.length c]] w fun e w' => e = .returned (numV (perR n xs)) ∧ Below w.heap.size w w' := by
  go_enter Try.func17, Try.ntmps17
  refine wk_start ?_
  refine wk_seq ?_
  refine wk_region [1, 1, 0] rfl Kx ?_
  simp only [qy]
  refine Rgn fun g1 => ?_
  simp only [qz]
  refine Rgn fun g2 => ?_
  simp only [qz]
  refine rg_assign ?_
  simp only [qz]
  refine rg_nil (ek_next (wk_seq (wk_seq ?_)))
  refine wk_region [0, 1, 0] rfl Kx ?_
  simp only [qy]
  refine rf_loadR (n := 2) rfl rfl rfl Try.underlying24 rfl Kx (fun w hw => Kn.hd0 (Kn.tl hw)) rfl rfl ?_
  simp only [qz]
  apply rg_pureb Rx Kx
  case hargs => exact Ax
  case h => exact fun w hw => mvalid_any n xs a c hl w (hA.kn0 hw)
  case hz => exact Nz
  intro x h1
  cases x
  · (try simp only [qd, ne_eq] at h1)
    simp only [qz]
    have hv := h1
    have hcp : perR n xs = .error 20 := by (unfold perR; rw [if_neg (by rw [hv]; decide)])
    replace hcp := Lib.hid hcp
    refine rf_not rfl rfl rfl ?_
    simp only [qz]
    refine rg_nil (ek_next (wk_cond_t rfl (wk_seq ?_)))
    refine wk_region [0, 1, 0] rfl Kx ?_
    simp only [qy]
    refine rf_build (cs := fun a => #[.int .i64 0, .int .i64 0, .int .i64 0, .int .i64 0, .int .i64 0]) rfl rfl Kx ?_
    simp only [qz]
    refine rf_storeR (n := 5) rfl rfl Kx rfl rfl (UpdR.here _ _ _ Nl) Nz ?_
    simp only [qz, Nat.reduceAdd]
    refine rg_assign ?_
    simp only [qz]
    refine rg_nil (ek_next (wk_ret (ek_then_ret ?_)))
    refine ek_ret (fun w hw => ⟨rfl, _, run_results2 rfl rfl (Kn.hd0 hw) Try.underlying29 rfl Kx, ?_⟩)
    (try simp only [qz])
    exact ⟨by rw [hcp.out]; rfl, hw.below⟩
  (try simp only [qd, ne_eq] at h1)
  simp only [qz]
  have hv := h1
  obtain ⟨N, rfl, hN1, hN, hlen, hl36, hok⟩ := validB_N hv
  replace hlen := Lib.hid hlen
  have hcp : perR (N : Int) xs = perF N (fun i k => nm xs (i * N + k)) := by (unfold perR; rw [if_pos hv, Int.toNat_natCast])
  replace hcp := Lib.hid hcp
  refine rf_not rfl rfl rfl ?_
  simp only [qz]
  refine rg_nil (ek_next (wk_cond_f rfl (wk_skip (ek_next (wk_seq ?_)))))
  refine wk_region [0, 0, 0, 0, 0, 1, 0, 0, 1, 0] rfl Kx ?_
  simp only [qy]
  refine rf_field (n := 0) (j := 0) rfl rfl rfl Try.underlying24 rfl Kx rfl ?_
  simp only [qz]
  refine rf_load rfl rfl rfl Try.underlying3 rfl (fun w hw => (Kn.hd0 (Kn.tl hw)).at rfl) ?_
  simp only [qz]
  refine rf_loadR (n := 2) rfl rfl rfl Try.underlying24 rfl Kx (fun w hw => Kn.hd0 (Kn.tl hw)) rfl rfl ?_
  simp only [qz]
  refine rf_build (cs := fun a => #[cellAt (a.eval (.tmp 10)) 0, cellAt (a.eval (.tmp 10)) 1]) rfl rfl Kx ?_
  simp only [qz]
  apply rg_soft
  case hy => (intro w hw; go_simp; (try go_bits); exact Yld.mk _ _)
  simp only [qz]
  apply rg_pure Rx Kx
  case hargs => exact Ax
  case h => exact fun w hw => permanent_any N hN (fun i k => nm xs (i * N + k)) _ (fun i k hi hk => elem_ok hok hlen.out hi hk) w (at_fnv hlen.out hN (hA.kn0 hw))
  case hz => exact Nz
  simp only [qz]
  rw [← hcp.out]
  obtain ⟨v, e, hve⟩ := numV_ve (perR (N : Int) xs)
  rw [hve]
  replace hve := Lib.hid hve
  refine rf_extract rfl rfl rfl rfl ?_
  simp only [qz]
  refine rf_extract rfl rfl rfl rfl ?_
  simp only [qz]
  refine rf_storeR (n := 5) rfl rfl Kx rfl rfl (UpdR.here _ _ _ Nl) Nz ?_
  simp only [qz, Nat.reduceAdd]
  refine rg_assign ?_
  simp only [qz]
  refine rg_nil (ek_next (wk_ret ?_))
  refine ek_ret (fun w hw => ⟨rfl, _, run_results2 rfl rfl (Kn.hd0 hw) Try.underlying29 rfl Kx, ?_⟩)
  (try simp only [qz])
  exact ⟨rfl, hw.below⟩

end Go.Proofs.Ytjeijnjaleldkaa
