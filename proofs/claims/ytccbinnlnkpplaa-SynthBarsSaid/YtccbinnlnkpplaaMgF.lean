/- Several texts in one. -/
import Derived.Test.YtccbinnlnkpplaaSq
import Derived.Test.YtccbinnlnkpplaaMgE
import Derived.Test.YtccbinnlnkpplaaXt
import Derived.Test.YtccbinnlnkpplaaRt
import Derived.Test.YtccbinnlnkpplaaMgC
import Derived.Test.YtccbinnlnkpplaaMgD
import Derived.Test.YtccbinnlnkpplaaWs4
import Derived.Test.YtccbinnlnkpplaaMt2a
import Derived.Test.YtccbinnlnkpplaaMgA
import Derived.Test.YtccbinnlnkpplaaMx1
namespace Go.Proofs.Ytccbinnlnkpplaa
set_option linter.all false
open Go.RowKit

/-- Four numbers of any size; s0 .. s3: their digits. -/
abbrev arC (z : Nm) (s0 s1 s2 s3 : Value) : List Value := [.bool (decide (z.a < 0)), s0, .bool (decide (z.b < 0)), s1, .bool (decide (z.c < 0)), s2, .bool (decide (z.d < 0)), s3]
abbrev arV (z : Nm) (s0 s1 s2 s3 : Value) : Value := .agg #[.bool (decide (z.a < 0)), s0, .bool (decide (z.b < 0)), s1, .bool (decide (z.c < 0)), s2, .bool (decide (z.d < 0)), s3]
abbrev wdV (z : Nm) (s0 s1 s2 s3 : Value) : Value := .agg #[.bool (decide (z.a < 0)), s0, .bool (decide (z.b < 0)), s1, .bool (decide (z.c < 0)), s2, .bool (decide (z.d < 0)), s3, .int .i64 z.k]
structure SA4 (w : World) (z : Nm) (s0 s1 s2 s3 : Value) : Prop where
  a : SA w s0 z.a.natAbs
  b : SA w s1 z.b.natAbs
  c : SA w s2 z.c.natAbs
  d : SA w s3 z.d.natAbs
/-- The digits are those of the world at the call's begin, or lie in the blocks u. -/
def SK (B : World) (u : List Blk) (s : Value) (n : Nat) : Prop := (∃ a c, s = .slice a (digs n).length c) ∧ ∀ w, Kn B [] u w → SA w s n
structure SK4 (B : World) (u : List Blk) (z : Nm) (s0 s1 s2 s3 : Value) : Prop where
  a : SK B u s0 z.a.natAbs
  b : SK B u s1 z.b.natAbs
  c : SK B u s2 z.c.natAbs
  d : SK B u s3 z.d.natAbs
structure SU4 (u : List Blk) (z : Nm) (s0 s1 s2 s3 : Value) : Prop where
  a : SU u s0 z.a.natAbs
  b : SU u s1 z.b.natAbs
  c : SU u s2 z.c.natAbs
  d : SU u s3 z.d.natAbs
theorem SA.form {w : World} {s : Value} {n : Nat} (h : SA w s n) : ∃ a c, s = .slice a (digs n).length c := let ⟨a, c, e, _⟩ := h; ⟨a, c, e⟩
theorem SK.arg {B : World} {s : Value} {n : Nat} (h : SA B s n) : SK B [] s n := ⟨h.form, fun w K => h.kn K⟩
theorem SK.own {B : World} {u : List Blk} {s : Value} {n : Nat} (h : SU u s n) : SK B u s n := ⟨h.1, fun w K => h.2 B [] w K⟩
theorem SK.at {B w : World} {u s : List Blk} {v : Value} {n : Nat} (h : SK B u v n) (K : Kn B [] s w) (hs : u.Sublist s) : SA w v n := h.2 w (K.sub hs)
theorem SK4.arg {B : World} {z : Nm} {s0 s1 s2 s3 : Value} (h : SA4 B z s0 s1 s2 s3) : SK4 B [] z s0 s1 s2 s3 := ⟨.arg h.a, .arg h.b, .arg h.c, .arg h.d⟩
theorem SK4.own {B : World} {u : List Blk} {z : Nm} {s0 s1 s2 s3 : Value} (h : SU4 u z s0 s1 s2 s3) : SK4 B u z s0 s1 s2 s3 := ⟨.own h.a, .own h.b, .own h.c, .own h.d⟩
theorem SK4.at {B w : World} {u s : List Blk} {z : Nm} {s0 s1 s2 s3 : Value} (h : SK4 B u z s0 s1 s2 s3) (K : Kn B [] s w) (hs : u.Sublist s) : SA4 w z s0 s1 s2 s3 := ⟨h.a.at K hs, h.b.at K hs, h.c.at K hs, h.d.at K hs⟩
theorem SU4.mono {u v : List Blk} {z : Nm} {s0 s1 s2 s3 : Value} (h : SU4 u z s0 s1 s2 s3) (hs : u.Sublist v) : SU4 v z s0 s1 s2 s3 := ⟨h.a.mono hs, h.b.mono hs, h.c.mono hs, h.d.mono hs⟩
theorem SU4.at {u s : List Blk} {z : Nm} {s0 s1 s2 s3 : Value} {B w : World} {F : List Nat} (h : SU4 u z s0 s1 s2 s3) (K : Kn B F s w) (hs : u.Sublist s) : SA4 w z s0 s1 s2 s3 := ⟨h.a.at K hs, h.b.at K hs, h.c.at K hs, h.d.at K hs⟩
theorem SA4.kn {B w : World} {s : List Blk} {z : Nm} {s0 s1 s2 s3 : Value} (h : SA4 B z s0 s1 s2 s3) (K : Kn B [] s w) : SA4 w z s0 s1 s2 s3 := ⟨h.a.kn K, h.b.kn K, h.c.kn K, h.d.kn K⟩
/-- A call that hands back four numbers, an amplitude. -/
def RetA (w : World) (z : Nm) (e : Ending) (w' : World) : Prop := ∃ v u, e = .returned v ∧ (∃ s0 s1 s2 s3, v = arV z s0 s1 s2 s3 ∧ SU4 u z s0 s1 s2 s3) ∧ Made w u w'
def RetW (w : World) (z : Nm) (e : Ending) (w' : World) : Prop := ∃ v u, e = .returned v ∧ (∃ s0 s1 s2 s3, v = wdV z s0 s1 s2 s3 ∧ SU4 u z s0 s1 s2 s3) ∧ Made w u w'
theorem len_big {n : Int} (h0 : -39402006196394479212279040100143613805079739270465446667948293404245721771497210611414266254884915640806627990306816 < n) (h1 : n < 39402006196394479212279040100143613805079739270465446667948293404245721771497210611414266254884915640806627990306816) : (digs n.natAbs).length ≤ 1000 := by
  have : (digs n.natAbs).length ≤ 12 := digs_len_le (L := 12) (by
    show _ < (39402006196394479212279040100143613805079739270465446667948293404245721771497210611414266254884915640806627990306816 : Int)
    omega)
  omega
theorem fit_big {z : Nm} (h : z.Fit 9850501549098619803069760025035903451269934817616361666987073351061430442874302652853566563721228910201656997576704) : (digs z.a.natAbs).length ≤ 1000 ∧ (digs z.b.natAbs).length ≤ 1000 ∧ (digs z.c.natAbs).length ≤ 1000 ∧ (digs z.d.natAbs).length ≤ 1000 := by
  obtain ⟨h1, h2, h3, h4, h5, h6, h7, h8⟩ := h
  exact ⟨len_big Ox Ox, len_big Ox Ox, len_big Ox Ox, len_big Ox Ox⟩
end Go.Proofs.Ytccbinnlnkpplaa
namespace Go.Proofs.Ytccbinnlnkpplaa
set_option linter.all false
open Go.RowKit

set_option maxRecDepth 100000 in
set_option maxHeartbeats 1000000 in
theorem timesR_any (z : Nm) (s0 s1 s2 s3 : Value) (hz : z.Fit 9850501549098619803069760025035903451269934817616361666987073351061430442874302652853566563721228910201656997576704) (w : World) (hs : SA4 w z s0 s1 s2 s3) : Calls Try.prog 98 #[arV z s0 s1 s2 s3] w fun e w' => RetA w z.tr e w' := by
  obtain ⟨ha, hb, hc, hd⟩ := hs
  obtain ⟨la, lb, lc, ld⟩ := fit_big hz
  obtain ⟨⟨a0, c0, rfl⟩, ⟨a1, c1, rfl⟩, ⟨a2, c2, rfl⟩, ⟨a3, c3, rfl⟩⟩ := (⟨ha.form, hb.form, hc.form, hd.form⟩ : _ ∧ _ ∧ _ ∧ _)
  go_enter Try.func98, Try.ntmps98
  refine wk_start ?_
  refine wk_seq ?_
  refine wk_region [1, 1] rfl Kx ?_
  simp only [qy]
  refine Rgn fun g1 => ?_
  simp only [qz]
  refine Rgn fun g2 => ?_
  simp only [qz]
  refine rg_nil (ek_next (wk_seq ?_))
  refine wk_draws_m (hz1 := (sk _ (sc _ sn))) [(0, 0), (1, 0), (2, 0), (3, 0), (5, 0), (6, 0), (7, 0), (8, 0), (10, 0), (11, 0), (12, 0), (13, 0), (15, 0), (16, 0), (17, 0), (18, 0), (4, 1), (9, 1), (14, 1), (19, 1), (20, 0), (21, 2)] 21 Kx Kx (fun c d v a w h => by cases d <;> exact h) ?_
  simp only [List.map_cons, List.map_nil, List.getD_cons_zero, List.getD_cons_succ]
  refine rf_indexA (n := 1) (sz := 2) (j := 2) rfl rfl rfl rfl Try.underlying68 Kx (by decide) rfl ?_
  simp only [qz]
  refine rf_loadR (n := 2) rfl rfl rfl Try.underlying67 rfl Kx (fun w hw => Kn.hd0 (Kn.tl hw)) rfl rfl ?_
  simp only [qz]
  refine rf_indexA (n := 3) (sz := 2) (j := 6) rfl rfl rfl rfl Try.underlying68 Kx (by decide) rfl ?_
  simp only [qz]
  refine rf_loadR (n := 2) rfl rfl rfl Try.underlying67 rfl Kx (fun w hw => Kn.hd0 (Kn.tl hw)) rfl rfl ?_
  simp only [qz]
  refine rf_indexA (n := 0) (sz := 2) (j := 0) rfl rfl rfl rfl Try.underlying68 Kx (by decide) rfl ?_
  simp only [qz]
  refine rf_loadR (n := 2) rfl rfl rfl Try.underlying67 rfl Kx (fun w hw => Kn.hd0 (Kn.tl hw)) rfl rfl ?_
  simp only [qz]
  refine rf_indexA (n := 2) (sz := 2) (j := 4) rfl rfl rfl rfl Try.underlying68 Kx (by decide) rfl ?_
  simp only [qz]
  refine rf_loadR (n := 2) rfl rfl rfl Try.underlying67 rfl Kx (fun w hw => Kn.hd0 (Kn.tl hw)) rfl rfl ?_
  simp only [qz]
  refine rf_indexA (n := 1) (sz := 2) (j := 2) rfl rfl rfl rfl Try.underlying68 Kx (by decide) rfl ?_
  simp only [qz]
  refine rf_loadR (n := 2) rfl rfl rfl Try.underlying67 rfl Kx (fun w hw => Kn.hd0 (Kn.tl hw)) rfl rfl ?_
  simp only [qz]
  refine rf_indexA (n := 3) (sz := 2) (j := 6) rfl rfl rfl rfl Try.underlying68 Kx (by decide) rfl ?_
  simp only [qz]
  refine rf_loadR (n := 2) rfl rfl rfl Try.underlying67 rfl Kx (fun w hw => Kn.hd0 (Kn.tl hw)) rfl rfl ?_
  simp only [qz]
  refine rf_indexA (n := 2) (sz := 2) (j := 4) rfl rfl rfl rfl Try.underlying68 Kx (by decide) rfl ?_
  simp only [qz]
  refine rf_loadR (n := 2) rfl rfl rfl Try.underlying67 rfl Kx (fun w hw => Kn.hd0 (Kn.tl hw)) rfl rfl ?_
  simp only [qz]
  refine rf_indexA (n := 0) (sz := 2) (j := 0) rfl rfl rfl rfl Try.underlying68 Kx (by decide) rfl ?_
  simp only [qz]
  refine rf_loadR (n := 2) rfl rfl rfl Try.underlying67 rfl Kx (fun w hw => Kn.hd0 (Kn.tl hw)) rfl rfl ?_
  simp only [qz]
  apply (rg_made (T := fun v u => ∃ s, v = bgV (z.b - z.d) s ∧ SU u s (z.b - z.d).natAbs)) Rx Kx
  case hargs => exact Ax
  case h => exact fun w hw => bsub_any z.b z.d _ _ lb ld w (hb.kn hw) (hd.kn hw)
  case hz => exact (fun _ h => by cases h; exact (sc _ (sc _ sn)))
  rintro _ u3 ⟨s3, rfl, hS3⟩
  obtain ⟨⟨sa3, sc3, rfl⟩, -⟩ := id hS3
  simp only [qz]
  apply (rg_made (T := fun v u => ∃ s, v = bgV (z.a + z.c) s ∧ SU u s (z.a + z.c).natAbs)) Rx Kx
  case hargs => exact Ax
  case h => exact fun w hw => badd_any z.a z.c _ _ la lc w (ha.kn hw) (hc.kn hw)
  case hz => exact (fun _ h => by cases h; exact ((sc _ (sc _ sn)).trans (List.sublist_append_right _ _)))
  rintro _ u4 ⟨s4, rfl, hS4⟩
  obtain ⟨⟨sa4, sc4, rfl⟩, -⟩ := id hS4
  simp only [qz]
  apply (rg_made (T := fun v u => ∃ s, v = bgV (z.b + z.d) s ∧ SU u s (z.b + z.d).natAbs)) Rx Kx
  case hargs => exact Ax
  case h => exact fun w hw => badd_any z.b z.d _ _ lb ld w (hb.kn hw) (hd.kn hw)
  case hz => exact (fun _ h => by cases h; exact (((sc _ (sc _ sn)).trans (List.sublist_append_right _ _)).trans (List.sublist_append_right _ _)))
  rintro _ u5 ⟨s5, rfl, hS5⟩
  obtain ⟨⟨sa5, sc5, rfl⟩, -⟩ := id hS5
  simp only [qz]
  apply (rg_made (T := fun v u => ∃ s, v = bgV (z.c - z.a) s ∧ SU u s (z.c - z.a).natAbs)) Rx Kx
  case hargs => exact Ax
  case h => exact fun w hw => bsub_any z.c z.a _ _ lc la w (hc.kn hw) (ha.kn hw)
  case hz => exact (fun _ h => by cases h; exact ((((sc _ (sc _ sn)).trans (List.sublist_append_right _ _)).trans (List.sublist_append_right _ _)).trans (List.sublist_append_right _ _)))
  rintro _ u6 ⟨s6, rfl, hS6⟩
  obtain ⟨⟨sa6, sc6, rfl⟩, -⟩ := id hS6
  simp only [qz]
  refine rf_build (cs := fun a => #[cellAt (a.eval (.tmp 7)) 0, cellAt (a.eval (.tmp 7)) 1, cellAt (a.eval (.tmp 12)) 0, cellAt (a.eval (.tmp 12)) 1, cellAt (a.eval (.tmp 17)) 0, cellAt (a.eval (.tmp 17)) 1, cellAt (a.eval (.tmp 22)) 0, cellAt (a.eval (.tmp 22)) 1]) rfl rfl Kx ?_
  simp only [qz]
  refine rf_storeRM (n := 8) rfl rfl Kx rfl rfl (UpdR.app _ (UpdR.app _ (UpdR.app _ (UpdR.app _ (UpdR.here _ _ _ Nl))))) (((((sk _ (sc _ sn)).trans (List.sublist_append_right _ _)).trans (List.sublist_append_right _ _)).trans (List.sublist_append_right _ _)).trans (List.sublist_append_right _ _)) ?_
  simp only [qz, Nat.reduceAdd]
  refine rg_nil (ek_next (wk_ret ?_))
  refine ek_ret (fun w hw => ⟨rfl, _, run_results1 rfl rfl (Kn.hd0 (Kn.tlU (Kn.tlU (Kn.tlU (Kn.tlU hw))))) Try.underlying68 rfl Kx, ?_⟩)
  (try simp only [qz])
  exact ⟨_, (u6 ++ (u5 ++ (u4 ++ u3))), rfl, ⟨_, _, _, _, rfl, ⟨(hS3.mono ((((List.Sublist.refl _).trans (List.sublist_append_right _ _)).trans (List.sublist_append_right _ _)).trans (List.sublist_append_right _ _))), (hS4.mono (((List.sublist_append_left _ _).trans (List.sublist_append_right _ _)).trans (List.sublist_append_right _ _))), (hS5.mono ((List.sublist_append_left _ _).trans (List.sublist_append_right _ _))), (hS6.mono (List.sublist_append_left _ _))⟩⟩, hw.made (List.Sublist.append_left (List.Sublist.append_left (List.Sublist.append_left (List.sublist_append_left _ _) _) _) _)⟩

set_option maxRecDepth 100000 in
set_option maxHeartbeats 1000000 in
theorem wideOf_any (z : Nm) (hz : z.Fit 4611686018427387903) (w : World) : Calls Try.prog 51 #[nmV z] w fun e w' => RetW w z e w' := by
  obtain ⟨fa0, fa1, fb0, fb1, fc0, fc1, fd0, fd1⟩ := id hz
  go_enter Try.func51, Try.ntmps51
  refine wk_start ?_
  refine wk_seq ?_
  refine wk_region [1, 1] rfl Kx ?_
  simp only [qy]
  refine Rgn fun g1 => ?_
  simp only [qz]
  refine Rgn fun g2 => ?_
  simp only [qz]
  refine rg_nil (ek_next (wk_seq ?_))
  refine wk_region [1] rfl Kx ?_
  simp only [qy]
  refine Rgn fun g3 => ?_
  simp only [qz]
  refine rg_nil (ek_next (wk_seq (wk_seq ?_)))
  refine wk_region [0] rfl Kx ?_
  simp only [qy]
  refine rg_assign ?_
  simp only [qz]
  refine rg_nil (ek_next (wk_block ?_))
  refine wk_unroll 4 ?_
  refine wk_seq (wk_seq ?_)
  refine wk_region [0, 0] rfl Kx ?_
  simp only [qy]
  refine rg_move ?_
  simp only [qz]
  refine rf_lss (b := true) rfl rfl rfl rfl (by decide) ?_
  simp only [qz]
  refine rg_nil (ek_next (wk_cond_t rfl (wk_skip (ek_next (wk_seq (wk_block ?_))))))
  refine wk_region [0, 0, 0, 0, 0, 1, 0, 0, 1] rfl Kx ?_
  simp only [qy]
  refine rg_move ?_
  simp only [qz]
  refine rg_move ?_
  simp only [qz]
  refine rf_field (n := 3) (j := 0) rfl rfl rfl Try.underlying45 rfl Kx rfl ?_
  simp only [qz]
  refine rf_indexA (n := 0) (sz := 1) (j := 0) rfl rfl rfl rfl Try.underlying43 Kx (by decide) rfl ?_
  simp only [qz]
  refine rf_load rfl rfl rfl Try.underlying3 rfl (fun w hw => (Kn.hd0 (Kn.tl (Kn.tl hw))).at rfl) ?_
  simp only [qz]
  apply (rg_made (T := fun v u => ∃ s, v = bgV (z.a) s ∧ SU u s (z.a).natAbs)) Rx Kx
  case hargs => exact Ax
  case h => exact fun w hw => bigOf_any z.a Ox Ox w
  case hz => exact Nz
  rintro _ u4 ⟨s4, rfl, hS4⟩
  obtain ⟨⟨sa4, sc4, rfl⟩, -⟩ := id hS4
  simp only [qz]
  refine rf_field (n := 7) (j := 0) rfl rfl rfl Try.underlying70 rfl Kx rfl ?_
  simp only [qz]
  refine rf_indexA (n := 0) (sz := 2) (j := 0) rfl rfl rfl rfl Try.underlying68 Kx (by decide) rfl ?_
  simp only [qz]
  refine rf_storeR (n := 2) rfl rfl Kx rfl rfl (UpdR.app _ (UpdR.here _ _ _ Nl)) Nz ?_
  simp only [qz, Nat.reduceAdd]
  refine rg_nil (ek_block (ek_next ?_))
  refine wk_region [0, 0, 0] rfl Kx ?_
  simp only [qy]
  refine rg_move ?_
  simp only [qz]
  refine rf_add (r := 1) rfl rfl rfl rfl (by decide) ?_
  simp only [qz]
  refine rg_assign ?_
  simp only [qz]
  refine rg_nil (ek_again (wk_seq (wk_seq ?_)))
  refine wk_region [0, 0] rfl Kx ?_
  simp only [qy]
  refine rg_move ?_
  simp only [qz]
  refine rf_lss (b := true) rfl rfl rfl rfl (by decide) ?_
  simp only [qz]
  refine rg_nil (ek_next (wk_cond_t rfl (wk_skip (ek_next (wk_seq (wk_block ?_))))))
  refine wk_region [0, 0, 0, 0, 0, 1, 0, 0, 1] rfl Kx ?_
  simp only [qy]
  refine rg_move ?_
  simp only [qz]
  refine rg_move ?_
  simp only [qz]
  refine rf_field (n := 3) (j := 0) rfl rfl rfl Try.underlying45 rfl Kx rfl ?_
  simp only [qz]
  refine rf_indexA (n := 1) (sz := 1) (j := 1) rfl rfl rfl rfl Try.underlying43 Kx (by decide) rfl ?_
  simp only [qz]
  refine rf_load rfl rfl rfl Try.underlying3 rfl (fun w hw => (Kn.hd0 (Kn.tl (Kn.tl (Kn.tlU hw)))).at rfl) ?_
  simp only [qz]
  apply (rg_made (T := fun v u => ∃ s, v = bgV (z.b) s ∧ SU u s (z.b).natAbs)) Rx Kx
  case hargs => exact Ax
  case h => exact fun w hw => bigOf_any z.b Ox Ox w
  case hz => exact Nz
  rintro _ u5 ⟨s5, rfl, hS5⟩
  obtain ⟨⟨sa5, sc5, rfl⟩, -⟩ := id hS5
  simp only [qz]
  refine rf_field (n := 7) (j := 0) rfl rfl rfl Try.underlying70 rfl Kx rfl ?_
  simp only [qz]
  refine rf_indexA (n := 1) (sz := 2) (j := 2) rfl rfl rfl rfl Try.underlying68 Kx (by decide) rfl ?_
  simp only [qz]
  refine rf_storeR (n := 2) rfl rfl Kx rfl rfl (UpdR.app _ (UpdR.app _ (UpdR.here _ _ _ Nl))) Nz ?_
  simp only [qz, Nat.reduceAdd]
  refine rg_nil (ek_block (ek_next ?_))
  refine wk_region [0, 0, 0] rfl Kx ?_
  simp only [qy]
  refine rg_move ?_
  simp only [qz]
  refine rf_add (r := 2) rfl rfl rfl rfl (by decide) ?_
  simp only [qz]
  refine rg_assign ?_
  simp only [qz]
  refine rg_nil (ek_again (wk_seq (wk_seq ?_)))
  refine wk_region [0, 0] rfl Kx ?_
  simp only [qy]
  refine rg_move ?_
  simp only [qz]
  refine rf_lss (b := true) rfl rfl rfl rfl (by decide) ?_
  simp only [qz]
  refine rg_nil (ek_next (wk_cond_t rfl (wk_skip (ek_next (wk_seq (wk_block ?_))))))
  refine wk_region [0, 0, 0, 0, 0, 1, 0, 0, 1] rfl Kx ?_
  simp only [qy]
  refine rg_move ?_
  simp only [qz]
  refine rg_move ?_
  simp only [qz]
  refine rf_field (n := 3) (j := 0) rfl rfl rfl Try.underlying45 rfl Kx rfl ?_
  simp only [qz]
  refine rf_indexA (n := 2) (sz := 1) (j := 2) rfl rfl rfl rfl Try.underlying43 Kx (by decide) rfl ?_
  simp only [qz]
  refine rf_load rfl rfl rfl Try.underlying3 rfl (fun w hw => (Kn.hd0 (Kn.tl (Kn.tl (Kn.tlU (Kn.tlU hw))))).at rfl) ?_
  simp only [qz]
  apply (rg_made (T := fun v u => ∃ s, v = bgV (z.c) s ∧ SU u s (z.c).natAbs)) Rx Kx
  case hargs => exact Ax
  case h => exact fun w hw => bigOf_any z.c Ox Ox w
  case hz => exact Nz
  rintro _ u6 ⟨s6, rfl, hS6⟩
  obtain ⟨⟨sa6, sc6, rfl⟩, -⟩ := id hS6
  simp only [qz]
  refine rf_field (n := 7) (j := 0) rfl rfl rfl Try.underlying70 rfl Kx rfl ?_
  simp only [qz]
  refine rf_indexA (n := 2) (sz := 2) (j := 4) rfl rfl rfl rfl Try.underlying68 Kx (by decide) rfl ?_
  simp only [qz]
  refine rf_storeR (n := 2) rfl rfl Kx rfl rfl (UpdR.app _ (UpdR.app _ (UpdR.app _ (UpdR.here _ _ _ Nl)))) Nz ?_
  simp only [qz, Nat.reduceAdd]
  refine rg_nil (ek_block (ek_next ?_))
  refine wk_region [0, 0, 0] rfl Kx ?_
  simp only [qy]
  refine rg_move ?_
  simp only [qz]
  refine rf_add (r := 3) rfl rfl rfl rfl (by decide) ?_
  simp only [qz]
  refine rg_assign ?_
  simp only [qz]
  refine rg_nil (ek_again (wk_seq (wk_seq ?_)))
  refine wk_region [0, 0] rfl Kx ?_
  simp only [qy]
  refine rg_move ?_
  simp only [qz]
  refine rf_lss (b := true) rfl rfl rfl rfl (by decide) ?_
  simp only [qz]
  refine rg_nil (ek_next (wk_cond_t rfl (wk_skip (ek_next (wk_seq (wk_block ?_))))))
  refine wk_region [0, 0, 0, 0, 0, 1, 0, 0, 1] rfl Kx ?_
  simp only [qy]
  refine rg_move ?_
  simp only [qz]
  refine rg_move ?_
  simp only [qz]
  refine rf_field (n := 3) (j := 0) rfl rfl rfl Try.underlying45 rfl Kx rfl ?_
  simp only [qz]
  refine rf_indexA (n := 3) (sz := 1) (j := 3) rfl rfl rfl rfl Try.underlying43 Kx (by decide) rfl ?_
  simp only [qz]
  refine rf_load rfl rfl rfl Try.underlying3 rfl (fun w hw => (Kn.hd0 (Kn.tl (Kn.tl (Kn.tlU (Kn.tlU (Kn.tlU hw)))))).at rfl) ?_
  simp only [qz]
  apply (rg_made (T := fun v u => ∃ s, v = bgV (z.d) s ∧ SU u s (z.d).natAbs)) Rx Kx
  case hargs => exact Ax
  case h => exact fun w hw => bigOf_any z.d Ox Ox w
  case hz => exact Nz
  rintro _ u7 ⟨s7, rfl, hS7⟩
  obtain ⟨⟨sa7, sc7, rfl⟩, -⟩ := id hS7
  simp only [qz]
  refine rf_field (n := 7) (j := 0) rfl rfl rfl Try.underlying70 rfl Kx rfl ?_
  simp only [qz]
  refine rf_indexA (n := 3) (sz := 2) (j := 6) rfl rfl rfl rfl Try.underlying68 Kx (by decide) rfl ?_
  simp only [qz]
  refine rf_storeR (n := 2) rfl rfl Kx rfl rfl (UpdR.app _ (UpdR.app _ (UpdR.app _ (UpdR.app _ (UpdR.here _ _ _ Nl))))) Nz ?_
  simp only [qz, Nat.reduceAdd]
  refine rg_nil (ek_block (ek_next ?_))
  refine wk_region [0, 0, 0] rfl Kx ?_
  simp only [qy]
  refine rg_move ?_
  simp only [qz]
  refine rf_add (r := 4) rfl rfl rfl rfl (by decide) ?_
  simp only [qz]
  refine rg_assign ?_
  simp only [qz]
  refine rg_nil (ek_again (wk_seq (wk_seq ?_)))
  refine wk_region [0, 0] rfl Kx ?_
  simp only [qy]
  refine rg_move ?_
  simp only [qz]
  refine rf_lss (b := false) rfl rfl rfl rfl (by decide) ?_
  simp only [qz]
  refine rg_nil (ek_next (wk_cond_f rfl (wk_exit (ek_then_exit (ek_then_exit (ek_block_exit (ek_next (wk_seq ?_))))))))
  refine wk_region [0, 0, 0, 1] rfl Kx ?_
  simp only [qy]
  refine rf_field (n := 0) (j := 4) rfl rfl rfl Try.underlying45 rfl Kx rfl ?_
  simp only [qz]
  refine rf_load rfl rfl rfl Try.underlying3 rfl (fun w hw => (Kn.hd0 (Kn.tl (Kn.tl (Kn.tlU (Kn.tlU (Kn.tlU (Kn.tlU hw))))))).at rfl) ?_
  simp only [qz]
  refine rf_field (n := 0) (j := 8) rfl rfl rfl Try.underlying70 rfl Kx rfl ?_
  simp only [qz]
  refine rf_store rfl rfl Kx rfl rfl (UpdR.app _ (UpdR.app _ (UpdR.app _ (UpdR.app _ (UpdR.here _ _ _ Nl))))) Nz ?_
  simp only [qz]
  refine rg_nil (ek_next (wk_seq ?_))
  refine wk_region [0, 1] rfl Kx ?_
  simp only [qy]
  refine rf_loadR (n := 9) rfl rfl rfl Try.underlying70 rfl Kx (fun w hw => Kn.hd0 (Kn.tlU (Kn.tlU (Kn.tlU (Kn.tlU hw))))) rfl rfl ?_
  simp only [qz]
  refine rf_storeR (n := 9) rfl rfl Kx rfl rfl (UpdR.app _ (UpdR.app _ (UpdR.app _ (UpdR.app _ (UpdR.there _ (UpdR.here _ _ _ Nl)))))) Nz ?_
  simp only [qz, Nat.reduceAdd]
  refine rg_nil (ek_next (wk_ret ?_))
  refine ek_ret (fun w hw => ⟨rfl, _, run_results1 rfl rfl (Kn.hd0 (Kn.tl (Kn.tlU (Kn.tlU (Kn.tlU (Kn.tlU hw)))))) Try.underlying70 rfl Kx, ?_⟩)
  (try simp only [qz])
  exact ⟨_, (u7 ++ (u6 ++ (u5 ++ u4))), rfl, ⟨_, _, _, _, rfl, ⟨(hS4.mono ((((List.Sublist.refl _).trans (List.sublist_append_right _ _)).trans (List.sublist_append_right _ _)).trans (List.sublist_append_right _ _))), (hS5.mono (((List.sublist_append_left _ _).trans (List.sublist_append_right _ _)).trans (List.sublist_append_right _ _))), (hS6.mono ((List.sublist_append_left _ _).trans (List.sublist_append_right _ _))), (hS7.mono (List.sublist_append_left _ _))⟩⟩, hw.made (List.Sublist.append_left (List.Sublist.append_left (List.Sublist.append_left (List.sublist_append_left _ _) _) _) _)⟩

end Go.Proofs.Ytccbinnlnkpplaa
namespace Go.Proofs.Ytccbinnlnkpplaa
set_option linter.all false
open Go.RowKit

set_option maxRecDepth 100000 in
set_option maxHeartbeats 1000000 in
theorem wconj_any (z : Nm) (s0 s1 s2 s3 : Value) (hz : z.Fit 9850501549098619803069760025035903451269934817616361666987073351061430442874302652853566563721228910201656997576704) (w : World) (hs : SA4 w z s0 s1 s2 s3) : Calls Try.prog 116 #[wdV z s0 s1 s2 s3] w fun e w' => e = .returned (wdV z.conj s0 s3 s2 s1) ∧ Below w.heap.size w w' := by
  obtain ⟨⟨a0, c0, rfl⟩, ⟨a1, c1, rfl⟩, ⟨a2, c2, rfl⟩, ⟨a3, c3, rfl⟩⟩ := (⟨hs.a.form, hs.b.form, hs.c.form, hs.d.form⟩ : _ ∧ _ ∧ _ ∧ _)
  obtain ⟨ha, hb, hc, hd⟩ := hs
  obtain ⟨la, lb, lc, ld⟩ := fit_big hz
  go_enter Try.func116, Try.ntmps116
  refine wk_start ?_
  refine wk_seq ?_
  refine wk_region [1, 1] rfl Kx ?_
  simp only [qy]
  refine Rgn fun g1 => ?_
  simp only [qz]
  refine Rgn fun g2 => ?_
  simp only [qz]
  refine rg_nil (ek_next (wk_seq ?_))
  refine wk_draws_m (hz1 := (sk _ (sc _ sn))) [(0, 0), (1, 0), (2, 0), (3, 0), (4, 0), (5, 0), (7, 0), (8, 0), (9, 0), (11, 0), (12, 0), (13, 0), (16, 0), (17, 0), (6, 1), (10, 1), (14, 1), (15, 0), (18, 0), (19, 2)] 19 Kx Kx (fun c d v a w h => by cases d <;> exact h) ?_
  simp only [List.map_cons, List.map_nil, List.getD_cons_zero, List.getD_cons_succ]
  refine rf_field (n := 7) (j := 0) rfl rfl rfl Try.underlying70 rfl Kx rfl ?_
  simp only [qz]
  refine rf_indexA (n := 0) (sz := 2) (j := 0) rfl rfl rfl rfl Try.underlying68 Kx (by decide) rfl ?_
  simp only [qz]
  refine rf_loadR (n := 2) rfl rfl rfl Try.underlying67 rfl Kx (fun w hw => Kn.hd0 (Kn.tl hw)) rfl rfl ?_
  simp only [qz]
  refine rf_field (n := 7) (j := 0) rfl rfl rfl Try.underlying70 rfl Kx rfl ?_
  simp only [qz]
  refine rf_indexA (n := 3) (sz := 2) (j := 6) rfl rfl rfl rfl Try.underlying68 Kx (by decide) rfl ?_
  simp only [qz]
  refine rf_loadR (n := 2) rfl rfl rfl Try.underlying67 rfl Kx (fun w hw => Kn.hd0 (Kn.tl hw)) rfl rfl ?_
  simp only [qz]
  refine rf_field (n := 7) (j := 0) rfl rfl rfl Try.underlying70 rfl Kx rfl ?_
  simp only [qz]
  refine rf_indexA (n := 2) (sz := 2) (j := 4) rfl rfl rfl rfl Try.underlying68 Kx (by decide) rfl ?_
  simp only [qz]
  refine rf_loadR (n := 2) rfl rfl rfl Try.underlying67 rfl Kx (fun w hw => Kn.hd0 (Kn.tl hw)) rfl rfl ?_
  simp only [qz]
  refine rf_field (n := 7) (j := 0) rfl rfl rfl Try.underlying70 rfl Kx rfl ?_
  simp only [qz]
  refine rf_indexA (n := 1) (sz := 2) (j := 2) rfl rfl rfl rfl Try.underlying68 Kx (by decide) rfl ?_
  simp only [qz]
  refine rf_loadR (n := 2) rfl rfl rfl Try.underlying67 rfl Kx (fun w hw => Kn.hd0 (Kn.tl hw)) rfl rfl ?_
  simp only [qz]
  refine rf_field (n := 0) (j := 8) rfl rfl rfl Try.underlying70 rfl Kx rfl ?_
  simp only [qz]
  refine rf_load rfl rfl rfl Try.underlying3 rfl (fun w hw => (Kn.hd0 (Kn.tl hw)).at rfl) ?_
  simp only [qz]
  apply rg_pure Rx Kx
  case hargs => exact Ax
  case h => exact fun w hw => bneg_any z.d _ ld w (hd.kn hw)
  case hz => exact (fun _ h => by cases h; exact (sc _ (sc _ sn)))
  simp only [qz]
  apply rg_pure Rx Kx
  case hargs => exact Ax
  case h => exact fun w hw => bneg_any z.c _ lc w (hc.kn hw)
  case hz => exact (fun _ h => by cases h; exact (sc _ (sc _ sn)))
  simp only [qz]
  apply rg_pure Rx Kx
  case hargs => exact Ax
  case h => exact fun w hw => bneg_any z.b _ lb w (hb.kn hw)
  case hz => exact (fun _ h => by cases h; exact (sc _ (sc _ sn)))
  simp only [qz]
  refine rf_build (cs := fun a => #[cellAt (a.eval (.tmp 5)) 0, cellAt (a.eval (.tmp 5)) 1, cellAt (a.eval (.tmp 9)) 0, cellAt (a.eval (.tmp 9)) 1, cellAt (a.eval (.tmp 13)) 0, cellAt (a.eval (.tmp 13)) 1, cellAt (a.eval (.tmp 17)) 0, cellAt (a.eval (.tmp 17)) 1]) rfl rfl Kx ?_
  simp only [qz]
  refine rf_build (cs := fun a => #[cellAt (a.eval (.tmp 18)) 0, cellAt (a.eval (.tmp 18)) 1, cellAt (a.eval (.tmp 18)) 2, cellAt (a.eval (.tmp 18)) 3, cellAt (a.eval (.tmp 18)) 4, cellAt (a.eval (.tmp 18)) 5, cellAt (a.eval (.tmp 18)) 6, cellAt (a.eval (.tmp 18)) 7, a.eval (.tmp 20)]) rfl rfl Kx ?_
  simp only [qz]
  refine rf_storeRM (n := 9) rfl rfl Kx rfl rfl (UpdR.here _ _ _ Nl) (sk _ (sc _ sn)) ?_
  simp only [qz, Nat.reduceAdd]
  refine rg_nil (ek_next (wk_ret ?_))
  refine ek_ret (fun w hw => ⟨rfl, _, run_results1 rfl rfl (Kn.hd0 hw) Try.underlying70 rfl Kx, ?_⟩)
  (try simp only [qz])
  first | exact ⟨rfl, hw.below⟩ | exact ⟨trivial, hw.below⟩ | exact hw.below

theorem up_fit_of {z : Nm} {m j : Nat} {M : Int} (h : (Nm.up m z).Fit M) (hj : j ≤ m) : (Nm.up j z).Fit M := by
  induction m with
  | zero => obtain rfl : j = 0 := Ox; exact h
  | succ m ih =>
    by_cases e : j = m + 1
    · subst e; exact h
    · refine ih ?_ Ox
      rw [Nm.up_succ1] at h
      have := Nm.step_fit h
      rwa [Nm.step_tr] at this
theorem addR_up {x y z v : Nm} {i j : Nat} (hx : Nm.up j x = z) (hy : Nm.up i y = v) (hk : z.k = v.k) (h1 : z.k = x.k + j) (h2 : j = 0 ∨ i = 0) : x.addR y = ⟨z.a + v.a, z.b + v.b, z.c + v.c, z.d + v.d, z.k⟩ := by
  have h3 : v.k = y.k + i := by rw [← hy, Nm.up_k]
  have hm : max x.k y.k = z.k := by omega
  have e1 : x.to (max x.k y.k) = z := by unfold Nm.to; rw [← hx]; congr 1; omega
  have e2 : y.to (max x.k y.k) = v := by unfold Nm.to; rw [← hy]; congr 1; omega
  unfold Nm.addR
  dsimp only
  rw [e1, e2, hm]
set_option maxRecDepth 100000 in
set_option maxHeartbeats 4000000 in
theorem wplus_any (x y : Nm) (s0 s1 s2 s3 : Value) (p0 p1 p2 p3 : Value) (hx : (x.to (max x.k y.k)).Fit 9850501549098619803069760025035903451269934817616361666987073351061430442874302652853566563721228910201656997576704) (hy : (y.to (max x.k y.k)).Fit 9850501549098619803069760025035903451269934817616361666987073351061430442874302652853566563721228910201656997576704) (hk : 0 ≤ x.k) (hk1 : x.k ≤ 10000) (hk2 : 0 ≤ y.k) (hk3 : y.k ≤ 10000) (w : World) (hs : SA4 w x s0 s1 s2 s3) (hs2 : SA4 w y p0 p1 p2 p3) : Calls Try.prog 52 #[wdV x s0 s1 s2 s3, wdV y p0 p1 p2 p3] w fun e w' => RetW w (x.addR y) e w' := by
  obtain ⟨⟨a0, c0, rfl⟩, ⟨a1, c1, rfl⟩, ⟨a2, c2, rfl⟩, ⟨a3, c3, rfl⟩⟩ := (⟨hs.a.form, hs.b.form, hs.c.form, hs.d.form⟩ : _ ∧ _ ∧ _ ∧ _)
  obtain ⟨⟨b0, d0, rfl⟩, ⟨b1, d1, rfl⟩, ⟨b2, d2, rfl⟩, ⟨b3, d3, rfl⟩⟩ := (⟨hs2.a.form, hs2.b.form, hs2.c.form, hs2.d.form⟩ : _ ∧ _ ∧ _ ∧ _)
  go_enter Try.func52, Try.ntmps52
  refine wk_start ?_
  refine wk_seq ?_
  refine wk_region [1, 1, 1] rfl Kx ?_
  simp only [qy]
  refine Rgn fun g1 => ?_
  simp only [qz]
  refine Rgn fun g2 => ?_
  simp only [qz]
  refine Rgn fun g3 => ?_
  simp only [qz]
  refine rg_nil (ek_next (wk_seq (wk_block ?_)))
  refine wk_loopF [6, 7, 8, 9, 10, 11, 12, 13, 14, 15, 16, 17, 18] (fun mz f s => ∃ (j : Nat) (z : Nm) (ta0 ta1 ta2 ta3 : Option Addr) (tc0 tc1 tc2 tc3 : Nat) (u : List Blk), s = (u ++ ((g3, .cells #[.bool false, .slice none 0 0, .bool false, .slice none 0 0, .bool false, .slice none 0 0, .bool false, .slice none 0 0, .int .i64 0] 70) :: ((g2, .cells #[.bool (decide (y.a < 0)), .slice b0 (digs y.a.natAbs).length d0, .bool (decide (y.b < 0)), .slice b1 (digs y.b.natAbs).length d1, .bool (decide (y.c < 0)), .slice b2 (digs y.c.natAbs).length d2, .bool (decide (y.d < 0)), .slice b3 (digs y.d.natAbs).length d3, .int .i64 y.k] 70) :: ((g1, .cells #[.bool (decide (z.a < 0)), .slice ta0 (digs z.a.natAbs).length tc0, .bool (decide (z.b < 0)), .slice ta1 (digs z.b.natAbs).length tc1, .bool (decide (z.c < 0)), .slice ta2 (digs z.c.natAbs).length tc2, .bool (decide (z.d < 0)), .slice ta3 (digs z.d.natAbs).length tc3, .int .i64 z.k] 70) :: [])))) ∧ mz = 20000 - j ∧ Nm.up j x = z ∧ SK4 w u z (.slice ta0 (digs z.a.natAbs).length tc0) (.slice ta1 (digs z.b.natAbs).length tc1) (.slice ta2 (digs z.c.natAbs).length tc2) (.slice ta3 (digs z.d.natAbs).length tc3) ∧ z.Fit 9850501549098619803069760025035903451269934817616361666987073351061430442874302652853566563721228910201656997576704 ∧ z.k ≤ x.k + j ∧ x.k + j ≤ z.k ∧ (j = 0 ∨ z.k ≤ y.k)) ((fun (j : Nat) (z : Nm) (ta0 ta1 ta2 ta3 : Option Addr) (tc0 tc1 tc2 tc3 : Nat) (u : List Blk) => 20000 - j) (0) (x) (a0) (a1) (a2) (a3) (c0) (c1) (c2) (c3) ([])) ?_ Kx ?_
  · exact ⟨0, x, a0, a1, a2, a3, c0, c1, c2, c3, [], rfl, rfl, rfl, SK4.arg hs, up_fit_of (j := 0) hx Ox, by omega, by omega, .inl rfl⟩
  rintro mz f1 s ⟨j, z, ta0, ta1, ta2, ta3, tc0, tc1, tc2, tc3, u, rfl, hn, hc1, hc2, hc3, hc4, hc5, hc6⟩
  simp only [Act.putF, List.foldl_cons, List.foldl_nil, Act.put, Act.eval, q1, q2, q3, q4, q5, q6, q7, q8, q9, q10, q11, q12, q13, q14, q15, q16, q17, q18, Nat.reduceAdd, Bool.not_true, Bool.not_false]
  have hz0 := Lib.hid hc1
  clear hc1
  have hsk0 := hc2
  have hfit0 := hc3
  refine wk_seq (wk_seq ?_)
  refine wk_region [0, 0, 0, 0, 0] rfl Kx ?_
  simp only [qy]
  refine rf_field (n := 0) (j := 8) rfl rfl rfl Try.underlying70 rfl Kx rfl ?_
  simp only [qz]
  refine rf_load rfl rfl rfl Try.underlying3 rfl (fun w hw => (Kn.hd0 (Kn.tl (Kn.tl (Kn.tlU hw)))).at rfl) ?_
  simp only [qz]
  refine rf_field (n := 0) (j := 8) rfl rfl rfl Try.underlying70 rfl Kx rfl ?_
  simp only [qz]
  refine rf_load rfl rfl rfl Try.underlying3 rfl (fun w hw => (Kn.hd0 (Kn.tl (Kn.tlU hw))).at rfl) ?_
  simp only [qz]
  refine rfb_lss rfl rfl rfl rfl ?_
  intro x h1
  cases x
  · (try simp only [qd, ne_eq] at h1)
    simp only [qz]
    refine rg_nil (ek_next (wk_cond_f rfl (wk_exit (ek_then_exit (ek_then_exit (ek_block_exit (ek_next (wk_seq (wk_block ?_)))))))))
    refine wk_loopF [19, 20, 21, 22, 23, 24, 25, 26, 27, 28, 29, 30, 31] (fun mz f s => ∃ (i : Nat) (z2 : Nm) (pa0 pa1 pa2 pa3 : Option Addr) (pc0 pc1 pc2 pc3 : Nat) (u2 : List Blk), s = (u2 ++ (u ++ ((g3, .cells #[.bool false, .slice none 0 0, .bool false, .slice none 0 0, .bool false, .slice none 0 0, .bool false, .slice none 0 0, .int .i64 0] 70) :: ((g2, .cells #[.bool (decide (z2.a < 0)), .slice pa0 (digs z2.a.natAbs).length pc0, .bool (decide (z2.b < 0)), .slice pa1 (digs z2.b.natAbs).length pc1, .bool (decide (z2.c < 0)), .slice pa2 (digs z2.c.natAbs).length pc2, .bool (decide (z2.d < 0)), .slice pa3 (digs z2.d.natAbs).length pc3, .int .i64 z2.k] 70) :: ((g1, .cells #[.bool (decide (z.a < 0)), .slice ta0 (digs z.a.natAbs).length tc0, .bool (decide (z.b < 0)), .slice ta1 (digs z.b.natAbs).length tc1, .bool (decide (z.c < 0)), .slice ta2 (digs z.c.natAbs).length tc2, .bool (decide (z.d < 0)), .slice ta3 (digs z.d.natAbs).length tc3, .int .i64 z.k] 70) :: []))))) ∧ mz = 20000 - i ∧ Nm.up i y = z2 ∧ SK4 w u2 z2 (.slice pa0 (digs z2.a.natAbs).length pc0) (.slice pa1 (digs z2.b.natAbs).length pc1) (.slice pa2 (digs z2.c.natAbs).length pc2) (.slice pa3 (digs z2.d.natAbs).length pc3) ∧ z2.Fit 9850501549098619803069760025035903451269934817616361666987073351061430442874302652853566563721228910201656997576704 ∧ z2.k ≤ y.k + i ∧ y.k + i ≤ z2.k ∧ (i = 0 ∨ z2.k ≤ z.k)) ((fun (i : Nat) (z2 : Nm) (pa0 pa1 pa2 pa3 : Option Addr) (pc0 pc1 pc2 pc3 : Nat) (u2 : List Blk) => 20000 - i) (0) (y) (b0) (b1) (b2) (b3) (d0) (d1) (d2) (d3) ([])) ?_ Kx ?_
    · exact ⟨0, y, b0, b1, b2, b3, d0, d1, d2, d3, [], rfl, rfl, rfl, SK4.arg hs2, up_fit_of (j := 0) hy Ox, by omega, by omega, .inl rfl⟩
    rintro mz f2 s ⟨i, z2, pa0, pa1, pa2, pa3, pc0, pc1, pc2, pc3, u2, rfl, hn, hd1, hd2, hd3, hd4, hd5, hd6⟩
    simp only [Act.putF, List.foldl_cons, List.foldl_nil, Act.put, Act.eval, q1, q2, q3, q4, q5, q6, q7, q8, q9, q10, q11, q12, q13, q14, q15, q16, q17, q18, Nat.reduceAdd, Bool.not_true, Bool.not_false]
    have hz1 := Lib.hid hd1
    clear hd1
    have hsk1 := hd2
    have hfit1 := hd3
    refine wk_seq (wk_seq ?_)
    refine wk_region [0, 0, 0, 0, 0] rfl Kx ?_
    simp only [qy]
    refine rf_field (n := 0) (j := 8) rfl rfl rfl Try.underlying70 rfl Kx rfl ?_
    simp only [qz]
    refine rf_load rfl rfl rfl Try.underlying3 rfl (fun w hw => (Kn.hd0 (Kn.tl (Kn.tlU (Kn.tlU hw)))).at rfl) ?_
    simp only [qz]
    refine rf_field (n := 0) (j := 8) rfl rfl rfl Try.underlying70 rfl Kx rfl ?_
    simp only [qz]
    refine rf_load rfl rfl rfl Try.underlying3 rfl (fun w hw => (Kn.hd0 (Kn.tl (Kn.tl (Kn.tlU (Kn.tlU hw))))).at rfl) ?_
    simp only [qz]
    refine rfb_lss rfl rfl rfl rfl ?_
    intro x h2
    cases x
    · (try simp only [qd, ne_eq] at h2)
      simp only [qz]
      refine rg_nil (ek_next (wk_cond_f rfl (wk_exit (ek_then_exit (ek_then_exit (ek_block_exit (ek_next (wk_seq (wk_seq ?_)))))))))
      refine wk_region [0] rfl Kx ?_
      simp only [qy]
      refine rg_assign ?_
      simp only [qz]
      refine rg_nil (ek_next (wk_block ?_))
      refine wk_unroll 4 ?_
      refine wk_seq (wk_seq ?_)
      refine wk_region [0, 0] rfl Kx ?_
      simp only [qy]
      refine rg_move ?_
      simp only [qz]
      refine rf_lss (b := true) rfl rfl rfl rfl (by decide) ?_
      simp only [qz]
      refine rg_nil (ek_next (wk_cond_t rfl (wk_skip (ek_next (wk_seq (wk_block ?_))))))
      refine wk_draws_m (hz1 := (List.Sublist.append_left (List.Sublist.append_left (sc _ (sc _ (sk _ sn))) _) _)) [(0, 0), (1, 0), (2, 0), (3, 0), (4, 0), (5, 0), (6, 0), (7, 0), (8, 0), (10, 3), (9, 1), (11, 0), (12, 2)] 12 Kx Kx (fun c d v a w h => by cases d <;> exact h) ?_
      simp only [List.map_cons, List.map_nil, List.getD_cons_zero, List.getD_cons_succ]
      refine rg_move ?_
      simp only [qz]
      refine rg_move ?_
      simp only [qz]
      refine rf_field (n := 7) (j := 0) rfl rfl rfl Try.underlying70 rfl Kx rfl ?_
      simp only [qz]
      refine rf_indexA (n := 0) (sz := 2) (j := 0) rfl rfl rfl rfl Try.underlying68 Kx (by decide) rfl ?_
      simp only [qz]
      refine rf_loadR (n := 2) rfl rfl rfl Try.underlying67 rfl Kx (fun w hw => Kn.hd0 (Kn.tl (Kn.tl (Kn.tlU (Kn.tlU hw))))) rfl rfl ?_
      simp only [qz]
      refine rg_move ?_
      simp only [qz]
      refine rf_field (n := 7) (j := 0) rfl rfl rfl Try.underlying70 rfl Kx rfl ?_
      simp only [qz]
      refine rf_indexA (n := 0) (sz := 2) (j := 0) rfl rfl rfl rfl Try.underlying68 Kx (by decide) rfl ?_
      simp only [qz]
      refine rf_loadR (n := 2) rfl rfl rfl Try.underlying67 rfl Kx (fun w hw => Kn.hd0 (Kn.tl (Kn.tlU (Kn.tlU hw)))) rfl rfl ?_
      simp only [qz]
      refine rf_field (n := 7) (j := 0) rfl rfl rfl Try.underlying70 rfl Kx rfl ?_
      simp only [qz]
      obtain ⟨la, lb, lc, ld⟩ := fit_big hfit0
      obtain ⟨ma, mb, mc, md⟩ := fit_big hfit1
      apply (rg_made (T := fun v u => ∃ s, v = bgV (z.a + z2.a) s ∧ SU u s (z.a + z2.a).natAbs)) Rx Kx
      case hargs => exact Ax
      case h => exact fun w hw => badd_any z.a z2.a _ _ la ma w (hsk0.a.at hw ((List.sublist_append_left _ _).trans (List.sublist_append_right _ _))) (hsk1.a.at hw (List.sublist_append_left _ _))
      case hz => exact (fun _ h => by cases h; exact (List.Sublist.append_left (List.Sublist.append_left (sc _ (sc _ (sc _ sn))) _) _))
      rintro _ u4 ⟨s4, rfl, hS4⟩
      obtain ⟨⟨sa4, sc4, rfl⟩, -⟩ := id hS4
      simp only [qz]
      refine rf_indexA (n := 0) (sz := 2) (j := 0) rfl rfl rfl rfl Try.underlying68 Kx (by decide) rfl ?_
      simp only [qz]
      refine rf_storeRM (n := 2) rfl rfl Kx rfl rfl (UpdR.app _ (UpdR.app _ (UpdR.app _ (UpdR.there _ (UpdR.there _ (UpdR.here _ _ _ Nl)))))) ((List.Sublist.append_left (List.Sublist.append_left (sc _ (sc _ (sk _ sn))) _) _).trans (List.sublist_append_right _ _)) ?_
      simp only [qz, Nat.reduceAdd]
      refine rg_nil (ek_block (ek_next ?_))
      refine wk_region [0, 0, 0] rfl Kx ?_
      simp only [qy]
      refine rg_move ?_
      simp only [qz]
      refine rf_add (r := 1) rfl rfl rfl rfl (by decide) ?_
      simp only [qz]
      refine rg_assign ?_
      simp only [qz]
      refine rg_nil (ek_again (wk_seq (wk_seq ?_)))
      refine wk_region [0, 0] rfl Kx ?_
      simp only [qy]
      refine rg_move ?_
      simp only [qz]
      refine rf_lss (b := true) rfl rfl rfl rfl (by decide) ?_
      simp only [qz]
      refine rg_nil (ek_next (wk_cond_t rfl (wk_skip (ek_next (wk_seq (wk_block ?_))))))
      refine wk_draws_m (hz1 := (List.Sublist.append_left (List.Sublist.append_left (List.Sublist.append_left (sc _ (sc _ (sk _ sn))) _) _) _)) [(0, 0), (1, 0), (2, 0), (3, 0), (4, 0), (5, 0), (6, 0), (7, 0), (8, 0), (10, 3), (9, 1), (11, 0), (12, 2)] 12 Kx Kx (fun c d v a w h => by cases d <;> exact h) ?_
      simp only [List.map_cons, List.map_nil, List.getD_cons_zero, List.getD_cons_succ]
      refine rg_move ?_
      simp only [qz]
      refine rg_move ?_
      simp only [qz]
      refine rf_field (n := 7) (j := 0) rfl rfl rfl Try.underlying70 rfl Kx rfl ?_
      simp only [qz]
      refine rf_indexA (n := 1) (sz := 2) (j := 2) rfl rfl rfl rfl Try.underlying68 Kx (by decide) rfl ?_
      simp only [qz]
      refine rf_loadR (n := 2) rfl rfl rfl Try.underlying67 rfl Kx (fun w hw => Kn.hd0 (Kn.tl (Kn.tl (Kn.tlU (Kn.tlU (Kn.tlU hw)))))) rfl rfl ?_
      simp only [qz]
      refine rg_move ?_
      simp only [qz]
      refine rf_field (n := 7) (j := 0) rfl rfl rfl Try.underlying70 rfl Kx rfl ?_
      simp only [qz]
      refine rf_indexA (n := 1) (sz := 2) (j := 2) rfl rfl rfl rfl Try.underlying68 Kx (by decide) rfl ?_
      simp only [qz]
      refine rf_loadR (n := 2) rfl rfl rfl Try.underlying67 rfl Kx (fun w hw => Kn.hd0 (Kn.tl (Kn.tlU (Kn.tlU (Kn.tlU hw))))) rfl rfl ?_
      simp only [qz]
      refine rf_field (n := 7) (j := 0) rfl rfl rfl Try.underlying70 rfl Kx rfl ?_
      simp only [qz]
      apply (rg_made (T := fun v u => ∃ s, v = bgV (z.b + z2.b) s ∧ SU u s (z.b + z2.b).natAbs)) Rx Kx
      case hargs => exact Ax
      case h => exact fun w hw => badd_any z.b z2.b _ _ lb mb w (hsk0.b.at hw (((List.sublist_append_left _ _).trans (List.sublist_append_right _ _)).trans (List.sublist_append_right _ _))) (hsk1.b.at hw ((List.sublist_append_left _ _).trans (List.sublist_append_right _ _)))
      case hz => exact (fun _ h => by cases h; exact (List.Sublist.append_left (List.Sublist.append_left (List.Sublist.append_left (sc _ (sc _ (sc _ sn))) _) _) _))
      rintro _ u5 ⟨s5, rfl, hS5⟩
      obtain ⟨⟨sa5, sc5, rfl⟩, -⟩ := id hS5
      simp only [qz]
      refine rf_indexA (n := 1) (sz := 2) (j := 2) rfl rfl rfl rfl Try.underlying68 Kx (by decide) rfl ?_
      simp only [qz]
      refine rf_storeRM (n := 2) rfl rfl Kx rfl rfl (UpdR.app _ (UpdR.app _ (UpdR.app _ (UpdR.app _ (UpdR.there _ (UpdR.there _ (UpdR.here _ _ _ Nl))))))) ((List.Sublist.append_left (List.Sublist.append_left (List.Sublist.append_left (sc _ (sc _ (sk _ sn))) _) _) _).trans (List.sublist_append_right _ _)) ?_
      simp only [qz, Nat.reduceAdd]
      refine rg_nil (ek_block (ek_next ?_))
      refine wk_region [0, 0, 0] rfl Kx ?_
      simp only [qy]
      refine rg_move ?_
      simp only [qz]
      refine rf_add (r := 2) rfl rfl rfl rfl (by decide) ?_
      simp only [qz]
      refine rg_assign ?_
      simp only [qz]
      refine rg_nil (ek_again (wk_seq (wk_seq ?_)))
      refine wk_region [0, 0] rfl Kx ?_
      simp only [qy]
      refine rg_move ?_
      simp only [qz]
      refine rf_lss (b := true) rfl rfl rfl rfl (by decide) ?_
      simp only [qz]
      refine rg_nil (ek_next (wk_cond_t rfl (wk_skip (ek_next (wk_seq (wk_block ?_))))))
      refine wk_draws_m (hz1 := (List.Sublist.append_left (List.Sublist.append_left (List.Sublist.append_left (List.Sublist.append_left (sc _ (sc _ (sk _ sn))) _) _) _) _)) [(0, 0), (1, 0), (2, 0), (3, 0), (4, 0), (5, 0), (6, 0), (7, 0), (8, 0), (10, 3), (9, 1), (11, 0), (12, 2)] 12 Kx Kx (fun c d v a w h => by cases d <;> exact h) ?_
      simp only [List.map_cons, List.map_nil, List.getD_cons_zero, List.getD_cons_succ]
      refine rg_move ?_
      simp only [qz]
      refine rg_move ?_
      simp only [qz]
      refine rf_field (n := 7) (j := 0) rfl rfl rfl Try.underlying70 rfl Kx rfl ?_
      simp only [qz]
      refine rf_indexA (n := 2) (sz := 2) (j := 4) rfl rfl rfl rfl Try.underlying68 Kx (by decide) rfl ?_
      simp only [qz]
      refine rf_loadR (n := 2) rfl rfl rfl Try.underlying67 rfl Kx (fun w hw => Kn.hd0 (Kn.tl (Kn.tl (Kn.tlU (Kn.tlU (Kn.tlU (Kn.tlU hw))))))) rfl rfl ?_
      simp only [qz]
      refine rg_move ?_
      simp only [qz]
      refine rf_field (n := 7) (j := 0) rfl rfl rfl Try.underlying70 rfl Kx rfl ?_
      simp only [qz]
      refine rf_indexA (n := 2) (sz := 2) (j := 4) rfl rfl rfl rfl Try.underlying68 Kx (by decide) rfl ?_
      simp only [qz]
      refine rf_loadR (n := 2) rfl rfl rfl Try.underlying67 rfl Kx (fun w hw => Kn.hd0 (Kn.tl (Kn.tlU (Kn.tlU (Kn.tlU (Kn.tlU hw)))))) rfl rfl ?_
      simp only [qz]
      refine rf_field (n := 7) (j := 0) rfl rfl rfl Try.underlying70 rfl Kx rfl ?_
      simp only [qz]
      apply (rg_made (T := fun v u => ∃ s, v = bgV (z.c + z2.c) s ∧ SU u s (z.c + z2.c).natAbs)) Rx Kx
      case hargs => exact Ax
      case h => exact fun w hw => badd_any z.c z2.c _ _ lc mc w (hsk0.c.at hw ((((List.sublist_append_left _ _).trans (List.sublist_append_right _ _)).trans (List.sublist_append_right _ _)).trans (List.sublist_append_right _ _))) (hsk1.c.at hw (((List.sublist_append_left _ _).trans (List.sublist_append_right _ _)).trans (List.sublist_append_right _ _)))
      case hz => exact (fun _ h => by cases h; exact (List.Sublist.append_left (List.Sublist.append_left (List.Sublist.append_left (List.Sublist.append_left (sc _ (sc _ (sc _ sn))) _) _) _) _))
      rintro _ u6 ⟨s6, rfl, hS6⟩
      obtain ⟨⟨sa6, sc6, rfl⟩, -⟩ := id hS6
      simp only [qz]
      refine rf_indexA (n := 2) (sz := 2) (j := 4) rfl rfl rfl rfl Try.underlying68 Kx (by decide) rfl ?_
      simp only [qz]
      refine rf_storeRM (n := 2) rfl rfl Kx rfl rfl (UpdR.app _ (UpdR.app _ (UpdR.app _ (UpdR.app _ (UpdR.app _ (UpdR.there _ (UpdR.there _ (UpdR.here _ _ _ Nl)))))))) ((List.Sublist.append_left (List.Sublist.append_left (List.Sublist.append_left (List.Sublist.append_left (sc _ (sc _ (sk _ sn))) _) _) _) _).trans (List.sublist_append_right _ _)) ?_
      simp only [qz, Nat.reduceAdd]
      refine rg_nil (ek_block (ek_next ?_))
      refine wk_region [0, 0, 0] rfl Kx ?_
      simp only [qy]
      refine rg_move ?_
      simp only [qz]
      refine rf_add (r := 3) rfl rfl rfl rfl (by decide) ?_
      simp only [qz]
      refine rg_assign ?_
      simp only [qz]
      refine rg_nil (ek_again (wk_seq (wk_seq ?_)))
      refine wk_region [0, 0] rfl Kx ?_
      simp only [qy]
      refine rg_move ?_
      simp only [qz]
      refine rf_lss (b := true) rfl rfl rfl rfl (by decide) ?_
      simp only [qz]
      refine rg_nil (ek_next (wk_cond_t rfl (wk_skip (ek_next (wk_seq (wk_block ?_))))))
      refine wk_draws_m (hz1 := (List.Sublist.append_left (List.Sublist.append_left (List.Sublist.append_left (List.Sublist.append_left (List.Sublist.append_left (sc _ (sc _ (sk _ sn))) _) _) _) _) _)) [(0, 0), (1, 0), (2, 0), (3, 0), (4, 0), (5, 0), (6, 0), (7, 0), (8, 0), (10, 3), (9, 1), (11, 0), (12, 2)] 12 Kx Kx (fun c d v a w h => by cases d <;> exact h) ?_
      simp only [List.map_cons, List.map_nil, List.getD_cons_zero, List.getD_cons_succ]
      refine rg_move ?_
      simp only [qz]
      refine rg_move ?_
      simp only [qz]
      refine rf_field (n := 7) (j := 0) rfl rfl rfl Try.underlying70 rfl Kx rfl ?_
      simp only [qz]
      refine rf_indexA (n := 3) (sz := 2) (j := 6) rfl rfl rfl rfl Try.underlying68 Kx (by decide) rfl ?_
      simp only [qz]
      refine rf_loadR (n := 2) rfl rfl rfl Try.underlying67 rfl Kx (fun w hw => Kn.hd0 (Kn.tl (Kn.tl (Kn.tlU (Kn.tlU (Kn.tlU (Kn.tlU (Kn.tlU hw)))))))) rfl rfl ?_
      simp only [qz]
      refine rg_move ?_
      simp only [qz]
      refine rf_field (n := 7) (j := 0) rfl rfl rfl Try.underlying70 rfl Kx rfl ?_
      simp only [qz]
      refine rf_indexA (n := 3) (sz := 2) (j := 6) rfl rfl rfl rfl Try.underlying68 Kx (by decide) rfl ?_
      simp only [qz]
      refine rf_loadR (n := 2) rfl rfl rfl Try.underlying67 rfl Kx (fun w hw => Kn.hd0 (Kn.tl (Kn.tlU (Kn.tlU (Kn.tlU (Kn.tlU (Kn.tlU hw))))))) rfl rfl ?_
      simp only [qz]
      refine rf_field (n := 7) (j := 0) rfl rfl rfl Try.underlying70 rfl Kx rfl ?_
      simp only [qz]
      apply (rg_made (T := fun v u => ∃ s, v = bgV (z.d + z2.d) s ∧ SU u s (z.d + z2.d).natAbs)) Rx Kx
      case hargs => exact Ax
      case h => exact fun w hw => badd_any z.d z2.d _ _ ld md w (hsk0.d.at hw (((((List.sublist_append_left _ _).trans (List.sublist_append_right _ _)).trans (List.sublist_append_right _ _)).trans (List.sublist_append_right _ _)).trans (List.sublist_append_right _ _))) (hsk1.d.at hw ((((List.sublist_append_left _ _).trans (List.sublist_append_right _ _)).trans (List.sublist_append_right _ _)).trans (List.sublist_append_right _ _)))
      case hz => exact (fun _ h => by cases h; exact (List.Sublist.append_left (List.Sublist.append_left (List.Sublist.append_left (List.Sublist.append_left (List.Sublist.append_left (sc _ (sc _ (sc _ sn))) _) _) _) _) _))
      rintro _ u7 ⟨s7, rfl, hS7⟩
      obtain ⟨⟨sa7, sc7, rfl⟩, -⟩ := id hS7
      simp only [qz]
      refine rf_indexA (n := 3) (sz := 2) (j := 6) rfl rfl rfl rfl Try.underlying68 Kx (by decide) rfl ?_
      simp only [qz]
      refine rf_storeRM (n := 2) rfl rfl Kx rfl rfl (UpdR.app _ (UpdR.app _ (UpdR.app _ (UpdR.app _ (UpdR.app _ (UpdR.app _ (UpdR.there _ (UpdR.there _ (UpdR.here _ _ _ Nl))))))))) ((List.Sublist.append_left (List.Sublist.append_left (List.Sublist.append_left (List.Sublist.append_left (List.Sublist.append_left (sc _ (sc _ (sk _ sn))) _) _) _) _) _).trans (List.sublist_append_right _ _)) ?_
      simp only [qz, Nat.reduceAdd]
      refine rg_nil (ek_block (ek_next ?_))
      refine wk_region [0, 0, 0] rfl Kx ?_
      simp only [qy]
      refine rg_move ?_
      simp only [qz]
      refine rf_add (r := 4) rfl rfl rfl rfl (by decide) ?_
      simp only [qz]
      refine rg_assign ?_
      simp only [qz]
      refine rg_nil (ek_again (wk_seq (wk_seq ?_)))
      refine wk_region [0, 0] rfl Kx ?_
      simp only [qy]
      refine rg_move ?_
      simp only [qz]
      refine rf_lss (b := false) rfl rfl rfl rfl (by decide) ?_
      simp only [qz]
      refine rg_nil (ek_next (wk_cond_f rfl (wk_exit (ek_then_exit (ek_then_exit (ek_block_exit (ek_next (wk_seq ?_))))))))
      refine wk_region [0, 1] rfl Kx ?_
      simp only [qy]
      refine rf_loadR (n := 9) rfl rfl rfl Try.underlying70 rfl Kx (fun w hw => Kn.hd0 (Kn.tl (Kn.tl (Kn.tlU (Kn.tlU (Kn.tlU (Kn.tlU (Kn.tlU (Kn.tlU hw))))))))) rfl rfl ?_
      simp only [qz]
      refine rf_storeR (n := 9) rfl rfl Kx rfl rfl (UpdR.app _ (UpdR.app _ (UpdR.app _ (UpdR.app _ (UpdR.app _ (UpdR.app _ (UpdR.here _ _ _ Nl))))))) Nz ?_
      simp only [qz, Nat.reduceAdd]
      refine rg_nil (ek_next (wk_ret ?_))
      refine ek_ret (fun w hw => ⟨rfl, _, run_results1 rfl rfl (Kn.hd0 (Kn.tlU (Kn.tlU (Kn.tlU (Kn.tlU (Kn.tlU (Kn.tlU hw))))))) Try.underlying70 rfl Kx, ?_⟩)
      (try simp only [qz])
      have e : x.addR y = ⟨z.a + z2.a, z.b + z2.b, z.c + z2.c, z.d + z2.d, z.k⟩ := addR_up hz0.out hz1.out Ox Ox Ox
      show RetW _ (x.addR y) _ _
      rw [e]
      exact ⟨_, (u7 ++ (u6 ++ (u5 ++ u4))), rfl, ⟨_, _, _, _, rfl, ⟨(hS4.mono ((((List.Sublist.refl _).trans (List.sublist_append_right _ _)).trans (List.sublist_append_right _ _)).trans (List.sublist_append_right _ _))), (hS5.mono (((List.sublist_append_left _ _).trans (List.sublist_append_right _ _)).trans (List.sublist_append_right _ _))), (hS6.mono ((List.sublist_append_left _ _).trans (List.sublist_append_right _ _))), (hS7.mono (List.sublist_append_left _ _))⟩⟩, hw.made (List.Sublist.append_left (List.Sublist.append_left (List.Sublist.append_left (List.sublist_append_left _ _) _) _) _)⟩
    (try simp only [qd, ne_eq] at h2)
    simp only [qz]
    refine rg_nil (ek_next (wk_cond_t rfl (wk_skip (ek_next (wk_block ?_)))))
    refine wk_draws_m (hz1 := (List.Sublist.append_left (List.Sublist.append_left (sc _ (sk _ (sc _ sn))) _) _)) [(0, 0), (1, 0), (3, 0), (4, 0), (5, 3), (2, 1), (6, 0), (7, 2), (8, 0), (9, 1)] 7 Kx Kx (fun c d v a w h => by cases d <;> exact h) ?_
    simp only [List.map_cons, List.map_nil, List.getD_cons_zero, List.getD_cons_succ]
    refine rf_field (n := 7) (j := 0) rfl rfl rfl Try.underlying70 rfl Kx rfl ?_
    simp only [qz]
    refine rf_loadR (n := 8) rfl rfl rfl Try.underlying68 rfl Kx (fun w hw => Kn.hd0 (Kn.tl (Kn.tlU (Kn.tlU hw)))) rfl rfl ?_
    simp only [qz]
    refine rf_field (n := 0) (j := 8) rfl rfl rfl Try.underlying70 rfl Kx rfl ?_
    simp only [qz]
    refine rf_load rfl rfl rfl Try.underlying3 rfl (fun w hw => (Kn.hd0 (Kn.tl (Kn.tlU (Kn.tlU hw)))).at rfl) ?_
    simp only [qz]
    refine rf_add rfl rfl rfl rfl (wrap_ok Ox Ox) ?_
    simp only [qz]
    apply (rg_made (T := fun v u => ∃ s0 s1 s2 s3, v = arV (z2.tr) s0 s1 s2 s3 ∧ SU4 u (z2.tr) s0 s1 s2 s3)) Rx Kx
    case hargs => exact Ax
    case h => exact fun w hw => timesR_any z2 _ _ _ _ hfit1 w (hsk1.at hw (List.sublist_append_left _ _))
    case hz => exact (fun _ h => by cases h; exact (List.Sublist.append_left (List.Sublist.append_left (sc _ (sc _ (sc _ sn))) _) _))
    rintro _ u8 ⟨t0, t1, t2, t3, rfl, hS8⟩
    obtain ⟨⟨ta8_0, tc8_0, rfl⟩, -⟩ := id hS8.a
    obtain ⟨⟨ta8_1, tc8_1, rfl⟩, -⟩ := id hS8.b
    obtain ⟨⟨ta8_2, tc8_2, rfl⟩, -⟩ := id hS8.c
    obtain ⟨⟨ta8_3, tc8_3, rfl⟩, -⟩ := id hS8.d
    simp only [qz]
    refine rf_field (n := 7) (j := 0) rfl rfl rfl Try.underlying70 rfl Kx rfl ?_
    simp only [qz]
    refine rf_storeRM (n := 8) rfl rfl Kx rfl rfl (UpdR.app _ (UpdR.app _ (UpdR.app _ (UpdR.there _ (UpdR.here _ _ _ Nl))))) ((List.Sublist.append_left (List.Sublist.append_left (sc _ (sk _ (sc _ sn))) _) _).trans (List.sublist_append_right _ _)) ?_
    simp only [qz, Nat.reduceAdd]
    refine rf_field (n := 0) (j := 8) rfl rfl rfl Try.underlying70 rfl Kx rfl ?_
    simp only [qz]
    refine rf_store rfl rfl Kx rfl rfl (UpdR.app _ (UpdR.app _ (UpdR.app _ (UpdR.there _ (UpdR.here _ _ _ Nl))))) (fun _ h => by cases h; exact ((List.Sublist.append_left (List.Sublist.append_left (sc _ (sk _ (sc _ sn))) _) _).trans (List.sublist_append_right _ _))) ?_
    simp only [qz]
    refine rg_nil (ek_block ?_)
    have hup : Nm.up (i + 1) y = z2.tr := by rw [Nm.up_succ1, hz1.out]
    have hfn : z2.tr.Fit 9850501549098619803069760025035903451269934817616361666987073351061430442874302652853566563721228910201656997576704 := by rw [← hup]; exact up_fit_of hy Ox
    have hkt : z2.tr.k = z2.k + 1 := rfl
    refine ek_sub (List.Sublist.append_left ((List.Sublist.append_left (sc _ (sc _ (sc _ sn))) _).trans (List.sublist_append_right _ _)) _) ?_
    refine ek_roundF (20000 - (i + 1)) Ox Kx ?_
    exact ⟨i + 1, z2.tr, ta8_0, ta8_1, ta8_2, ta8_3, tc8_0, tc8_1, tc8_2, tc8_3, u8, by rfl, by rfl, hup, SK4.own hS8, hfn, Ox, Ox, Ox⟩
  (try simp only [qd, ne_eq] at h1)
  simp only [qz]
  refine rg_nil (ek_next (wk_cond_t rfl (wk_skip (ek_next (wk_block ?_)))))
  refine wk_draws_m (hz1 := (List.Sublist.append_left (sc _ (sc _ (sk _ sn))) _)) [(0, 0), (1, 0), (3, 0), (4, 0), (5, 3), (2, 1), (6, 0), (7, 2), (8, 0), (9, 1)] 7 Kx Kx (fun c d v a w h => by cases d <;> exact h) ?_
  simp only [List.map_cons, List.map_nil, List.getD_cons_zero, List.getD_cons_succ]
  refine rf_field (n := 7) (j := 0) rfl rfl rfl Try.underlying70 rfl Kx rfl ?_
  simp only [qz]
  refine rf_loadR (n := 8) rfl rfl rfl Try.underlying68 rfl Kx (fun w hw => Kn.hd0 (Kn.tl (Kn.tl (Kn.tlU hw)))) rfl rfl ?_
  simp only [qz]
  refine rf_field (n := 0) (j := 8) rfl rfl rfl Try.underlying70 rfl Kx rfl ?_
  simp only [qz]
  refine rf_load rfl rfl rfl Try.underlying3 rfl (fun w hw => (Kn.hd0 (Kn.tl (Kn.tl (Kn.tlU hw)))).at rfl) ?_
  simp only [qz]
  refine rf_add rfl rfl rfl rfl (wrap_ok Ox Ox) ?_
  simp only [qz]
  apply (rg_made (T := fun v u => ∃ s0 s1 s2 s3, v = arV (z.tr) s0 s1 s2 s3 ∧ SU4 u (z.tr) s0 s1 s2 s3)) Rx Kx
  case hargs => exact Ax
  case h => exact fun w hw => timesR_any z _ _ _ _ hfit0 w (hsk0.at hw (List.sublist_append_left _ _))
  case hz => exact (fun _ h => by cases h; exact (List.Sublist.append_left (sc _ (sc _ (sc _ sn))) _))
  rintro _ u9 ⟨t0, t1, t2, t3, rfl, hS9⟩
  obtain ⟨⟨ta9_0, tc9_0, rfl⟩, -⟩ := id hS9.a
  obtain ⟨⟨ta9_1, tc9_1, rfl⟩, -⟩ := id hS9.b
  obtain ⟨⟨ta9_2, tc9_2, rfl⟩, -⟩ := id hS9.c
  obtain ⟨⟨ta9_3, tc9_3, rfl⟩, -⟩ := id hS9.d
  simp only [qz]
  refine rf_field (n := 7) (j := 0) rfl rfl rfl Try.underlying70 rfl Kx rfl ?_
  simp only [qz]
  refine rf_storeRM (n := 8) rfl rfl Kx rfl rfl (UpdR.app _ (UpdR.app _ (UpdR.there _ (UpdR.there _ (UpdR.here _ _ _ Nl))))) ((List.Sublist.append_left (sc _ (sc _ (sk _ sn))) _).trans (List.sublist_append_right _ _)) ?_
  simp only [qz, Nat.reduceAdd]
  refine rf_field (n := 0) (j := 8) rfl rfl rfl Try.underlying70 rfl Kx rfl ?_
  simp only [qz]
  refine rf_store rfl rfl Kx rfl rfl (UpdR.app _ (UpdR.app _ (UpdR.there _ (UpdR.there _ (UpdR.here _ _ _ Nl))))) (fun _ h => by cases h; exact ((List.Sublist.append_left (sc _ (sc _ (sk _ sn))) _).trans (List.sublist_append_right _ _))) ?_
  simp only [qz]
  refine rg_nil (ek_block ?_)
  have hup : Nm.up (j + 1) x = z.tr := by rw [Nm.up_succ1, hz0.out]
  have hfn : z.tr.Fit 9850501549098619803069760025035903451269934817616361666987073351061430442874302652853566563721228910201656997576704 := by rw [← hup]; exact up_fit_of hx Ox
  have hkt : z.tr.k = z.k + 1 := rfl
  refine ek_sub (List.Sublist.append_left ((sc _ (sc _ (sc _ sn))).trans (List.sublist_append_right _ _)) _) ?_
  refine ek_roundF (20000 - (j + 1)) Ox Kx ?_
  exact ⟨j + 1, z.tr, ta9_0, ta9_1, ta9_2, ta9_3, tc9_0, tc9_1, tc9_2, tc9_3, u9, by rfl, by rfl, hup, SK4.own hS9, hfn, Ox, Ox, Ox⟩

end Go.Proofs.Ytccbinnlnkpplaa
namespace Go.Proofs.Ytccbinnlnkpplaa
set_option linter.all false
open Go.RowKit

/-- The digits of number m. -/
abbrev slD (T : Nat → Int) (sa : Nat → Option Addr) (sc : Nat → Nat) (m : Nat) : Value := .slice (sa m) (digs (T m).natAbs).length (sc m)
def wdC (T : Nat → Int) (sa : Nat → Option Addr) (sc : Nat → Nat) (k : Int) : Array Value :=
  #[.bool (decide (T 0 < 0)), slD T sa sc 0, .bool (decide (T 1 < 0)), slD T sa sc 1, .bool (decide (T 2 < 0)), slD T sa sc 2, .bool (decide (T 3 < 0)), slD T sa sc 3, .int .i64 k]
theorem wd_row {w : World} {g t m : Nat} {T : Nat → Int} {sa : Nat → Option Addr} {sc : Nat → Nat} {k : Int} (h : Hd w g t (wdC T sa sc k)) (hm : m < 4) : w.rangeAt g (0 + m * 2) [.bool (decide (T m < 0)), slD T sa sc m] := by
  have := cells_range h (0 + m * 2) 2
  have e : ((wdC T sa sc k).toList.drop (0 + m * 2)).take 2 = [.bool (decide (T m < 0)), slD T sa sc m] := by
    rcases lt4 hm with rfl | rfl | rfl | rfl <;> rfl
  rwa [e] at this
theorem wd_all {w : World} {g t : Nat} {T : Nat → Int} {sa : Nat → Option Addr} {sc : Nat → Nat} {k : Int} (h : Hd w g t (wdC T sa sc k)) :
    w.rangeAt g 0 [.bool (decide (T 0 < 0)), slD T sa sc 0, .bool (decide (T 1 < 0)), slD T sa sc 1, .bool (decide (T 2 < 0)), slD T sa sc 2, .bool (decide (T 3 < 0)), slD T sa sc 3, .int .i64 k] := cells_range h 0 9
theorem wd_set {m : Nat} {T : Nat → Int} {sa : Nat → Option Addr} {sc : Nat → Nat} {k : Int} {t : Int} {pa : Option Addr} {pc : Nat} (hm : m < 4) :
    setMany (wdC T sa sc k) (0 + m * 2) [.bool (decide (t < 0)), .slice pa (digs t.natAbs).length pc] = wdC (upd T m t) (upd sa m pa) (upd sc m pc) k := by
  rcases lt4 hm with rfl | rfl | rfl | rfl <;> rfl
theorem wd_set' {m : Nat} {T : Nat → Int} {sa : Nat → Option Addr} {sc : Nat → Nat} {k : Int} {t : Int} {pa : Option Addr} {pc : Nat} (hm : m < 4) :
    ((wdC T sa sc k).setIfInBounds (0 + m * 2) (.bool (decide (t < 0)))).setIfInBounds (0 + m * 2 + 1) (.slice pa (digs t.natAbs).length pc) = wdC (upd T m t) (upd sa m pa) (upd sc m pc) k := wd_set hm
theorem wd_size {T : Nat → Int} {sa : Nat → Option Addr} {sc : Nat → Nat} {k : Int} : (wdC T sa sc k).size = 9 := rfl
theorem wd_zero (k : Int) : (#[.bool false, .slice none 0 0, .bool false, .slice none 0 0, .bool false, .slice none 0 0, .bool false, .slice none 0 0, .int .i64 k] : Array Value) = wdC (fun _ => 0) (fun _ => none) (fun _ => 0) k := by
  unfold wdC
  simp only [slD, Int.natAbs_zero, digs_zero]
  rfl
theorem wd_wdV (z : Nm) (a0 a1 a2 a3 : Option Addr) (c0 c1 c2 c3 : Nat) : wdV z (.slice a0 (digs z.a.natAbs).length c0) (.slice a1 (digs z.b.natAbs).length c1) (.slice a2 (digs z.c.natAbs).length c2) (.slice a3 (digs z.d.natAbs).length c3) =
    .agg (wdC (sel4 z.a z.b z.c z.d) (sel4 a0 a1 a2 a3) (sel4 c0 c1 c2 c3) z.k) := rfl

/-- A call that hands back an amplitude of any size. -/
def RetT (w : World) (T : Nat → Int) (k : Int) (e : Ending) (w' : World) : Prop :=
  ∃ v u, e = .returned v ∧ (∃ sa sc, v = .agg (wdC T sa sc k) ∧ ∀ m, m < 4 → SU u (slD T sa sc m) (T m).natAbs) ∧ Made w u w'
theorem su_upd {u u' : List Blk} {T : Nat → Int} {sa : Nat → Option Addr} {sc : Nat → Nat} {j : Nat} {t : Int} {pa : Option Addr} {pc : Nat} (h : ∀ m, m < 4 → SU u (slD T sa sc m) (T m).natAbs) (h' : SU u' (.slice pa (digs t.natAbs).length pc) t.natAbs) :
    ∀ m, m < 4 → SU (u' ++ u) (slD (upd T j t) (upd sa j pa) (upd sc j pc) m) (upd T j t m).natAbs := by
  intro m hm
  by_cases e : m = j
  · subst e
    unfold slD
    rw [upd_same, upd_same, upd_same]
    exact h'.mono (List.sublist_append_left _ _)
  · unfold slD
    rw [upd_other T t e, upd_other sa pa e, upd_other sc pc e]
    exact (h m hm).mono (List.sublist_append_right _ _)
end Go.Proofs.Ytccbinnlnkpplaa
namespace Go.Proofs.Ytccbinnlnkpplaa
set_option linter.all false
open Go.RowKit

/-- The first n products of rows i and j, brought to the exponent K. -/
def rowS (xs : List Nm) (N : Nat) (K : Int) (i j : Nat) : Nat → Nat → Int
  | 0 => fun _ => 0
  | n + 1 => fun m => rowS xs N K i j n m + acc (acc (sel4 1 0 0 0) (sel4 ((nm xs (i * N + n)).to K).a ((nm xs (i * N + n)).to K).b ((nm xs (i * N + n)).to K).c ((nm xs (i * N + n)).to K).d) 16)
      (sel4 ((nm xs (j * N + n)).to K).a (-((nm xs (j * N + n)).to K).d) (-((nm xs (j * N + n)).to K).c) (-((nm xs (j * N + n)).to K).b)) 16 m
def wantS (K : Int) (i j : Nat) : Nat → Int := if i = j then upd (fun _ => 0) 0 (2 ^ K.toNat) else fun _ => 0
theorem sm_over {T T' : Nat → Int} : setMany (smC T) 0 (smC T').toList = smC T' := by kernel_rfl
theorem pow40 {k : Nat} (h : k ≤ 40) : 1 ≤ (2 : Int) ^ k ∧ (2 : Int) ^ k ≤ 1099511627776 := by
  have h1 := Nat.pow_le_pow_right (n := 2) (by omega) h
  have h2 := Nat.one_le_two_pow (n := k)
  have e : ((2 ^ k : Nat) : Int) = (2 : Int) ^ k := by simp
  have e2 : (2 : Nat) ^ 40 = 1099511627776 := by decide
  omega
theorem entry_fit {xs : List Nm} {N : Nat} {K : Int} (hok : allOk xs = true) (hlen : xs.length = N * N) (hN : N ≤ 6) {i k : Nat} (hi : i < N) (hk : k < N) (hK : K ≤ 40) (hKz : ∀ z ∈ xs, z.k ≤ K) :
    (nm xs (i * N + k)).Fit 1000000000 ∧ 0 ≤ (nm xs (i * N + k)).k ∧ (nm xs (i * N + k)).k ≤ K ∧ ((nm xs (i * N + k)).to K).Fit 1048576000000000 := by
  have hx := ix_small hi hN
  have hlt : i * N + k < xs.length := by omega
  have h := ok_at hok hlt
  have hm := hKz _ (NmE.at_mem hlt)
  refine ⟨h.fit, h.k0, hm, ?_⟩
  unfold Nm.to
  exact Nm.up40_fit h.fit (by have := h.k0; omega)
set_option maxRecDepth 100000 in
set_option maxHeartbeats 2000000 in
theorem unitary_walk (N : Nat) (K : Int) (xs : List Nm) (a : Option Addr) (c : Nat) (hN1 : 1 ≤ N) (hN : N ≤ 6) (hlen : Hid (xs.length = N * N)) (hl36 : xs.length ≤ 36) (hok : allOk xs = true) (hv : Hid (validB N xs = true)) (hK : Hid (expo xs = K)) (hK0 : 0 ≤ K) (hK40 : K ≤ 40) (hKz : ∀ z ∈ xs, z.k ≤ K) (w : World) (hA : AS w a (nms xs)) : Calls Try.prog 48 #[.agg #[.int .i64 N, .slice a xs.length c]] w fun e w' => ∃ b, e = .returned (.tuple #[.bool b, .int .i64 0]) ∧ (b = true ↔ ∀ i j, i < N → j < N → smEq (rowS xs N K i j N) (wantS K i j) = true) ∧ Below w.heap.size w w' := by
  have hl : xs.length ≤ 1000000 := by omega
  go_enter Try.func48, Try.ntmps48
  refine wk_start ?_
  refine wk_seq ?_
  refine wk_region [1, 0, 0] rfl (by kernel_rfl) ?_
  simp only [qy]
  refine rg_new (cs := ?_) (ty := ?_) (by rfl) (fun w => ?_) (fun _ h => by cases h) (fun g1 => ?_); rotate_left 2
  focus (go_simp; rfl)
  simp only [qz]
  refine rg_assign ?_
  simp only [qz]
  refine rg_assign ?_
  simp only [qz]
  refine rg_nil (ek_next (wk_seq (wk_seq ?_)))
  refine wk_region [0, 1, 0] rfl (by kernel_rfl) ?_
  simp only [qy]
  refine rf_loadR (n := 2) rfl rfl rfl Try.underlying38 rfl (by kernel_rfl) (fun w hw => Kn.hd0 hw) rfl rfl ?_
  simp only [qz]
  apply rg_pure (by rfl) (by kernel_rfl)
  case hargs => (simp only [qm, qs, Act.eval]; exact rfl)
  case h => exact fun w hw => by have := mvalid_any N xs a c hl w (hA.kn0 hw); rw [hv.out] at this; exact this
  case hz => exact (fun _ h => by cases h)
  simp only [qz]
  refine rf_not rfl rfl rfl ?_
  simp only [qz]
  refine rg_nil (ek_next (wk_cond_f rfl (wk_skip (ek_next ?_))))
  refine wk_cutF [4, 5, 16, 17, 18, 19, 20] (fun f s => ∃ (gt : Nat), f 4 = .pointer (some ⟨gt, 0, none⟩) ∧ f 5 = .int .i64 K ∧ s = ((gt, .cells #[.int .i64 N, .slice a xs.length c] 93) :: ((g1, .cells #[.int .i64 N, .slice a xs.length c] 38) :: []))) ?_ ?_
  · refine wk_rt _ (by kernel_rfl) (sc _ sn) ?_
    refine rt_soft (i := 0) rfl (by kernel_rfl) (fun c d v a w h => by cases d <;> exact h) (sc _ sn) ?_
    refine rf_loadR (n := 2) rfl rfl rfl Try.underlying38 rfl (by kernel_rfl) (fun w hw => Kn.hd0 hw) rfl rfl ?_
    simp only [qz]
    refine rg_nil ?_
    refine ek_rt (sc _ sn) ?_
    refine rt_soft (i := 1) rfl (by kernel_rfl) (fun c d v a w h => by cases d <;> exact h) (sc _ sn) ?_
    refine rf_build (cs := fun a => #[cellAt (a.eval (.tmp 16)) 0, cellAt (a.eval (.tmp 16)) 1]) rfl rfl (by kernel_rfl) ?_
    simp only [qz]
    refine rg_nil ?_
    refine ek_rt (sc _ sn) ?_
    refine rt_soft (i := 2) rfl (by kernel_rfl) (fun c d v a w h => by cases d <;> exact h) (sc _ sn) ?_
    refine rf_field (n := 0) (j := 1) rfl rfl rfl Try.underlying38 rfl (by kernel_rfl) rfl ?_
    simp only [qz]
    refine rg_nil ?_
    refine ek_rt (sc _ sn) ?_
    refine rt_soft (i := 3) rfl (by kernel_rfl) (fun c d v a w h => by cases d <;> exact h) (sc _ sn) ?_
    refine rf_load rfl rfl rfl Try.underlying36 rfl (fun w hw => (Kn.hd0 hw).at rfl) ?_
    simp only [qz]
    refine rg_nil ?_
    refine ek_rt (sc _ sn) ?_
    refine rt_hard2 (i := 4) (j := 5) (by kernel_rfl) rfl rfl ?_ ?_
    · apply rg_pure (by rfl) (by kernel_rfl)
      case hargs => (simp only [qm, qs, Act.eval]; exact rfl)
      case h => exact fun w hw => by have := exponent_any xs a c hl w (hA.kn0 hw); rw [hK.out] at this; exact this
      case hz => exact (fun _ h => by cases h; exact (sc _ sn))
      simp only [qz]
      refine rg_nil ?_
      refine ek_rt (sc _ sn) ?_
      refine rt_hard1 (i := 5) (by kernel_rfl) rfl ?_
      refine rg_new (cs := ?_) (ty := ?_) (by rfl) (fun w => ?_) (fun _ h => by cases h; exact (sc _ sn)) (fun g2 => ?_); rotate_left 2
      focus (go_simp; rfl)
      simp only [qz]
      refine rg_nil ?_
      refine ek_rt (sk _ (sc _ sn)) ?_
      refine rt_hard1 (i := 6) (by kernel_rfl) rfl ?_
      refine rf_storeR (n := 2) rfl rfl (by kernel_rfl) rfl rfl (UpdR.here _ _ _ (Nat.le_of_ble_eq_true rfl)) (fun _ h => by cases h; exact (sk _ (sc _ sn))) ?_
      simp only [qz, Nat.reduceAdd]
      refine rg_nil ?_
      refine ek_rt (sk _ (sc _ sn)) ?_
      refine rt_soft (i := 7) rfl (by kernel_rfl) (fun c d v a w h => by cases d <;> exact h) (sk _ (sc _ sn)) ?_
      refine rg_assign ?_
      simp only [qz]
      refine rg_nil ?_
      refine ek_rt (sk _ (sc _ sn)) ?_
      refine rt_nil (by kernel_rfl) ?_
      refine ek_midF (by kernel_rfl) ?_
      exact ⟨g2, rfl, rfl, by rfl⟩
    refine rg_new (cs := ?_) (ty := ?_) (by rfl) (fun w => ?_) (fun _ h => by cases h; exact (sc _ sn)) (fun g3 => ?_); rotate_left 2
    focus (go_simp; rfl)
    simp only [qz]
    refine rg_nil ?_
    refine ek_rt (sk _ (sc _ sn)) ?_
    refine rt_hard1 (i := 4) (by kernel_rfl) rfl ?_
    apply rg_pure (by rfl) (by kernel_rfl)
    case hargs => (simp only [qm, qs, Act.eval]; exact rfl)
    case h => exact fun w hw => by have := exponent_any xs a c hl w (hA.kn0 hw); rw [hK.out] at this; exact this
    case hz => exact (fun _ h => by cases h; exact (sk _ (sc _ sn)))
    simp only [qz]
    refine rg_nil ?_
    refine ek_rt (sk _ (sc _ sn)) ?_
    refine rt_hard1 (i := 6) (by kernel_rfl) rfl ?_
    refine rf_storeR (n := 2) rfl rfl (by kernel_rfl) rfl rfl (UpdR.here _ _ _ (Nat.le_of_ble_eq_true rfl)) (fun _ h => by cases h; exact (sk _ (sc _ sn))) ?_
    simp only [qz, Nat.reduceAdd]
    refine rg_nil ?_
    refine ek_rt (sk _ (sc _ sn)) ?_
    refine rt_soft (i := 7) rfl (by kernel_rfl) (fun c d v a w h => by cases d <;> exact h) (sk _ (sc _ sn)) ?_
    refine rg_assign ?_
    simp only [qz]
    refine rg_nil ?_
    refine ek_rt (sk _ (sc _ sn)) ?_
    refine rt_nil (by kernel_rfl) ?_
    refine ek_midF (by kernel_rfl) ?_
    exact ⟨g3, rfl, rfl, by rfl⟩
  rintro f1 s ⟨gt, hs1_4, hs1_5, rfl⟩
  simp only [Act.putF, List.foldl_cons, List.foldl_nil, hs1_4, hs1_5, Act.put, Act.eval, q1, q2, q3, q4, q5, q6, q7, q8, q9, q10, q11, q12, q13, q14, q15, q16, q17, q18, Nat.reduceAdd, Bool.not_true, Bool.not_false]
  clear hs1_4 hs1_5
  refine wk_seq (wk_seq ?_)
  refine wk_region [0, 0, 0] rfl (by kernel_rfl) ?_
  simp only [qy]
  refine rf_field (n := 0) (j := 0) rfl rfl rfl Try.underlying38 rfl (by kernel_rfl) rfl ?_
  simp only [qz]
  refine rf_load rfl rfl rfl Try.underlying3 rfl (fun w hw => (Kn.hd0 (Kn.tl hw)).at rfl) ?_
  simp only [qz]
  refine rg_move ?_
  simp only [qz]
  refine rg_nil (ek_next (wk_block ?_))
  refine wk_loopF [2, 3, 6, 7, 8, 9, 10, 11, 12, 23, 24, 25, 26, 27, 28, 29, 30, 31, 32, 33, 34, 35, 36, 37, 38, 39, 40, 41, 42, 43, 44, 45, 46, 47, 48, 49, 50, 51, 52, 53, 54, 55, 56, 57, 58, 59, 60, 61, 62, 63, 64, 65, 66, 67, 68, 69, 70, 71, 72, 73, 74, 75, 76, 77, 78] (fun mz f s => ∃ (i : Nat), f 23 = .int .i64 i ∧ s = ((gt, .cells #[.int .i64 N, .slice a xs.length c] 93) :: ((g1, .cells #[.int .i64 N, .slice a xs.length c] 38) :: [])) ∧ mz = N - i ∧ i ≤ N ∧ (∀ i2, i2 < i → ∀ j2, j2 < N → smEq (rowS xs N K i2 j2 N) (wantS K i2 j2) = true)) ((fun (i : Nat) => N - i) (0)) ?_ (by kernel_rfl) ?_
  · exact ⟨0, rfl, rfl, rfl, by omega, fun _ h => by omega⟩
  rintro mz f2 s ⟨i, hs2_23, rfl, hn, hd1, hd2⟩
  simp only [Act.putF, List.foldl_cons, List.foldl_nil, hs2_23, Act.put, Act.eval, q1, q2, q3, q4, q5, q6, q7, q8, q9, q10, q11, q12, q13, q14, q15, q16, q17, q18, Nat.reduceAdd, Bool.not_true, Bool.not_false]
  clear hs2_23
  refine wk_seq ?_
  refine wk_region [0] rfl (by kernel_rfl) ?_
  simp only [qy]
  refine rfb_lss rfl rfl rfl rfl ?_
  intro x h1
  cases x
  · (try simp only [qd, ne_eq] at h1)
    simp only [qz]
    refine rg_nil (ek_next (wk_seq (wk_cond_f rfl (wk_exit (ek_then_exit (ek_then_exit (ek_block_exit (ek_next (wk_seq ?_)))))))))
    refine wk_region [0, 0] rfl (by kernel_rfl) ?_
    simp only [qy]
    refine rg_assign ?_
    simp only [qz]
    refine rg_assign ?_
    simp only [qz]
    refine rg_nil (ek_next (wk_ret ?_))
    refine ek_ret (fun w hw => ⟨rfl, _, res_tt _ _ rfl, ?_⟩)
    (try simp only [qz])
    exact ⟨true, rfl, ⟨fun _ i2 j2 hi hj => hd2 i2 (by omega) j2 hj, fun _ => rfl⟩, hw.below⟩
  (try simp only [qd, ne_eq] at h1)
  simp only [qz]
  refine rg_nil (ek_next (wk_seq (wk_cond_t rfl (wk_skip (ek_next (wk_seq (wk_block (wk_seq ?_))))))))
  refine wk_region [0, 0] rfl (by kernel_rfl) ?_
  simp only [qy]
  refine rg_move ?_
  simp only [qz]
  refine rg_assign ?_
  simp only [qz]
  refine rg_nil (ek_next (wk_seq ?_))
  refine wk_region [0, 0, 0] rfl (by kernel_rfl) ?_
  simp only [qy]
  refine rf_field (n := 0) (j := 0) rfl rfl rfl Try.underlying38 rfl (by kernel_rfl) rfl ?_
  simp only [qz]
  refine rf_load rfl rfl rfl Try.underlying3 rfl (fun w hw => (Kn.hd0 (Kn.tl hw)).at rfl) ?_
  simp only [qz]
  refine rg_move ?_
  simp only [qz]
  refine rg_nil (ek_next (wk_block ?_))
  refine wk_loopF [2, 3, 7, 8, 9, 10, 11, 12, 28, 29, 30, 31, 32, 33, 34, 35, 36, 37, 38, 39, 40, 41, 42, 43, 44, 45, 46, 47, 48, 49, 50, 51, 52, 53, 54, 55, 56, 57, 58, 59, 60, 61, 62, 63, 64, 65, 66, 67, 68, 69, 70, 71, 72, 73, 74, 75, 76, 77] (fun mz f s => ∃ (j : Nat), f 28 = .int .i64 j ∧ s = ((gt, .cells #[.int .i64 N, .slice a xs.length c] 93) :: ((g1, .cells #[.int .i64 N, .slice a xs.length c] 38) :: [])) ∧ mz = N - j ∧ j ≤ N ∧ (∀ j2, j2 < j → smEq (rowS xs N K i j2 N) (wantS K i j2) = true)) ((fun (j : Nat) => N - j) (0)) ?_ (by kernel_rfl) ?_
  · exact ⟨0, rfl, rfl, rfl, by omega, fun _ h => by omega⟩
  rintro mz f3 s ⟨j, hs3_28, rfl, hn, he1, he2⟩
  simp only [Act.putF, List.foldl_cons, List.foldl_nil, hs3_28, Act.put, Act.eval, q1, q2, q3, q4, q5, q6, q7, q8, q9, q10, q11, q12, q13, q14, q15, q16, q17, q18, Nat.reduceAdd, Bool.not_true, Bool.not_false]
  clear hs3_28
  refine wk_seq ?_
  refine wk_region [0] rfl (by kernel_rfl) ?_
  simp only [qy]
  refine rfb_lss rfl rfl rfl rfl ?_
  intro x h2
  cases x
  · (try simp only [qd, ne_eq] at h2)
    simp only [qz]
    refine rg_nil (ek_next (wk_seq (wk_cond_f rfl (wk_exit (ek_then_exit (ek_then_exit (ek_block_exit (ek_block (ek_next ?_)))))))))
    refine wk_region [0, 0] rfl (by kernel_rfl) ?_
    simp only [qy]
    refine rf_add rfl rfl rfl rfl (wrap_ok (by omega) (by omega)) ?_
    simp only [qz]
    refine rg_move ?_
    simp only [qz]
    refine rg_nil ?_
    obtain rfl : N = j := by omega
    refine ek_roundF (N - (i + 1)) (by omega) (by kernel_rfl) ?_
    exact ⟨i + 1, rfl, by rfl, by rfl, (by omega), (fun i2 hi2 j2 hj2 => by rcases (by omega : i2 < i ∨ i2 = i) with h | rfl; exact hd2 i2 h j2 hj2; exact he2 j2 hj2)⟩
  (try simp only [qd, ne_eq] at h2)
  simp only [qz]
  refine rg_nil (ek_next (wk_seq (wk_cond_t rfl (wk_skip (ek_next (wk_seq (wk_block (wk_seq ?_))))))))
  refine wk_region [0, 0] rfl (by kernel_rfl) ?_
  simp only [qy]
  refine rg_move ?_
  simp only [qz]
  refine rg_assign ?_
  simp only [qz]
  refine rg_nil (ek_next (wk_seq ?_))
  refine wk_region [1, 1] rfl (by kernel_rfl) ?_
  simp only [qy]
  refine rg_new (cs := ?_) (ty := ?_) (by rfl) (fun w => ?_) (fun _ h => by cases h) (fun g4 => ?_); rotate_left 2
  focus (go_simp; rfl)
  simp only [qz]
  refine rg_new (cs := ?_) (ty := ?_) (by rfl) (fun w => ?_) (fun _ h => by cases h) (fun g5 => ?_); rotate_left 2
  focus (go_simp; rfl)
  simp only [qz]
  refine rg_nil (ek_next (wk_seq (wk_seq ?_)))
  rw [sm_zero]
  refine wk_region [0, 0, 0] rfl (by kernel_rfl) ?_
  simp only [qy]
  refine rf_field (n := 0) (j := 0) rfl rfl rfl Try.underlying38 rfl (by kernel_rfl) rfl ?_
  simp only [qz]
  refine rf_load rfl rfl rfl Try.underlying3 rfl (fun w hw => (Kn.hd0 (Kn.tl (Kn.tl (Kn.tl hw)))).at rfl) ?_
  simp only [qz]
  refine rg_move ?_
  simp only [qz]
  refine rg_nil (ek_next (wk_block ?_))
  refine wk_loopF [10, 11, 12, 33, 34, 35, 36, 37, 38, 39, 40, 41, 42, 43, 44, 45, 46, 47, 48, 49, 50, 51, 52, 53, 54, 55, 56, 57, 58, 59, 60, 61, 62, 63, 64, 65, 66] (fun mz f s => ∃ (n : Nat), f 33 = .int .i64 n ∧ s = ((g5, .cells (smC fun _ => 0) 110) :: ((g4, .cells (smC (rowS xs N K i j n)) 110) :: ((gt, .cells #[.int .i64 N, .slice a xs.length c] 93) :: ((g1, .cells #[.int .i64 N, .slice a xs.length c] 38) :: [])))) ∧ mz = N - n ∧ n ≤ N) ((fun (n : Nat) => N - n) (0)) ?_ (by kernel_rfl) ?_
  · exact ⟨0, rfl, rfl, rfl, by omega⟩
  rintro mz f4 s ⟨n, hs4_33, rfl, hn, hf1⟩
  simp only [Act.putF, List.foldl_cons, List.foldl_nil, hs4_33, Act.put, Act.eval, q1, q2, q3, q4, q5, q6, q7, q8, q9, q10, q11, q12, q13, q14, q15, q16, q17, q18, Nat.reduceAdd, Bool.not_true, Bool.not_false]
  clear hs4_33
  refine wk_seq ?_
  refine wk_region [0] rfl (by kernel_rfl) ?_
  simp only [qy]
  refine rfb_lss rfl rfl rfl rfl ?_
  intro x h3
  cases x
  · (try simp only [qd, ne_eq] at h3)
    simp only [qz]
    refine rg_nil (ek_next (wk_seq (wk_cond_f rfl (wk_exit (ek_then_exit (ek_then_exit (ek_block_exit (ek_next (wk_seq (wk_seq ?_))))))))))
    obtain rfl : N = n := by omega
    refine wk_region [0, 0, 0] rfl (by kernel_rfl) ?_
    simp only [qy]
    refine rg_move ?_
    simp only [qz]
    refine rg_move ?_
    simp only [qz]
    refine rfb_eql rfl rfl rfl rfl ?_
    intro x h4
    cases x
    · (try simp only [qd, ne_eq] at h4)
      simp only [qz]
      refine rg_nil (ek_next (wk_cond_f rfl (wk_skip (ek_next (wk_seq ?_)))))
      refine wk_region [0, 0, 0] rfl (by kernel_rfl) ?_
      simp only [qy]
      refine rf_loadC (n := 24) (vs := (smC (rowS xs N K i j N)).toList) rfl rfl rfl Try.underlying110 rfl (by kernel_rfl) rfl (fun w hw => sm_all (Kn.hd0 (Kn.tl hw))) ?_
      rw [show (smC (rowS xs N K i j N)).toList.toArray = smC (rowS xs N K i j N) by simp]
      simp only [qz]
      refine rf_loadC (n := 24) (vs := (smC (fun _ => 0)).toList) rfl rfl rfl Try.underlying110 rfl (by kernel_rfl) rfl (fun w hw => sm_all (Kn.hd0 hw)) ?_
      rw [show (smC (fun _ => 0)).toList.toArray = smC (fun _ => 0) by simp]
      simp only [qz]
      refine rfb_neS (rowS xs N K i j N) (fun _ => 0) rfl rfl rfl rfl ?_
      intro x h5
      cases x
      · (try simp only [qd, ne_eq] at h5)
        simp only [qz]
        have hgood : smEq (rowS xs N K i j N) (wantS K i j) = true := by (unfold wantS; rw [if_neg (by omega)]; simpa using h5)
        refine rg_nil (ek_next (wk_cond_f rfl (wk_skip (ek_block (ek_next ?_)))))
        refine wk_region [0, 0] rfl (by kernel_rfl) ?_
        simp only [qy]
        refine rf_add rfl rfl rfl rfl (wrap_ok (by omega) (by omega)) ?_
        simp only [qz]
        refine rg_move ?_
        simp only [qz]
        refine rg_nil ?_
        refine ek_sub (sk _ (sk _ (sc _ (sc _ sn)))) ?_
        refine ek_roundF (N - (j + 1)) (by omega) (by kernel_rfl) ?_
        exact ⟨j + 1, rfl, by rfl, by rfl, (by omega), (fun j2 hj2 => by rcases (by omega : j2 < j ∨ j2 = j) with h | rfl; exact he2 j2 h; exact hgood)⟩
      (try simp only [qd, ne_eq] at h5)
      simp only [qz]
      have hgood : smEq (rowS xs N K i j N) (wantS K i j) = false := by (unfold wantS; rw [if_neg (by omega)]; simpa using h5)
      refine rg_nil (ek_next (wk_cond_t rfl (wk_seq ?_)))
      refine wk_region [0, 0] rfl (by kernel_rfl) ?_
      simp only [qy]
      refine rg_assign ?_
      simp only [qz]
      refine rg_assign ?_
      simp only [qz]
      refine rg_nil (ek_next (wk_ret (ek_block_ret (ek_then_ret (ek_then_ret (ek_block_ret (ek_block_ret (ek_then_ret (ek_then_ret (ek_block_ret (ek_then_ret ?_)))))))))))
      refine ek_ret (fun w hw => ⟨rfl, _, res_tt _ _ rfl, ?_⟩)
      (try simp only [qz])
      exact ⟨false, rfl, ⟨fun h => (by cases h), fun h => by rw [h i j (by omega) (by omega)] at hgood; cases hgood⟩, hw.below⟩
    (try simp only [qd, ne_eq] at h4)
    simp only [qz]
    refine rg_nil (ek_next (wk_cond_t rfl ?_))
    have hpw := pow40 (k := K.toNat) (by omega)
    refine wk_region [0, 0, 1, 0, 1] rfl (by kernel_rfl) ?_
    simp only [qy]
    refine rg_move ?_
    simp only [qz]
    refine rf_shlV (c := K.toNat) (q := 2 ^ K.toNat) rfl rfl rfl rfl (by omega) (by show K.toNat ≤ 64; omega) rfl (r := 2 ^ K.toNat) (by rw [Int.one_mul]; exact wrap_ok (by omega) (by omega)) ?_
    simp only [qz]
    apply rg_pure (by rfl) (by kernel_rfl)
    case hargs => (simp only [qm, qs, Act.eval]; exact rfl)
    case h => exact fun w hw => w6whole_any (2 ^ K.toNat) (by omega) (by omega) w
    case hz => exact (fun _ h => by cases h)
    simp only [qz]
    refine rf_indexA (n := 0) (sz := 6) (j := 0) rfl rfl rfl rfl Try.underlying110 (by kernel_rfl) (by decide) rfl ?_
    simp only [qz]
    refine rf_storeR (n := 6) (vs := w6L (W6.of (2 ^ K.toNat))) rfl rfl (by kernel_rfl) rfl rfl (UpdR.here _ _ _ (Nat.le_of_ble_eq_true rfl)) (fun _ h => by cases h) ?_
    rw [show setMany (smC fun _ => 0) 0 (w6L (W6.of (2 ^ K.toNat))) = smC (upd (fun _ => 0) 0 (2 ^ K.toNat)) from sm_set (m := 0) (by decide)]
    simp only [qz, Nat.reduceAdd]
    refine rg_nil (ek_next (wk_seq ?_))
    refine wk_region [0, 0, 0] rfl (by kernel_rfl) ?_
    simp only [qy]
    refine rf_loadC (n := 24) (vs := (smC (rowS xs N K i j N)).toList) rfl rfl rfl Try.underlying110 rfl (by kernel_rfl) rfl (fun w hw => sm_all (Kn.hd0 (Kn.tl hw))) ?_
    rw [show (smC (rowS xs N K i j N)).toList.toArray = smC (rowS xs N K i j N) by simp]
    simp only [qz]
    refine rf_loadC (n := 24) (vs := (smC (upd (fun _ => 0) 0 (2 ^ K.toNat))).toList) rfl rfl rfl Try.underlying110 rfl (by kernel_rfl) rfl (fun w hw => sm_all (Kn.hd0 hw)) ?_
    rw [show (smC (upd (fun _ => 0) 0 (2 ^ K.toNat))).toList.toArray = smC (upd (fun _ => 0) 0 (2 ^ K.toNat)) by simp]
    simp only [qz]
    refine rfb_neS (rowS xs N K i j N) (upd (fun _ => 0) 0 (2 ^ K.toNat)) rfl rfl rfl rfl ?_
    intro x h6
    cases x
    · (try simp only [qd, ne_eq] at h6)
      simp only [qz]
      have hgood : smEq (rowS xs N K i j N) (wantS K i j) = true := by (unfold wantS; rw [if_pos (by omega)]; simpa using h6)
      refine rg_nil (ek_next (wk_cond_f rfl (wk_skip (ek_block (ek_next ?_)))))
      refine wk_region [0, 0] rfl (by kernel_rfl) ?_
      simp only [qy]
      refine rf_add rfl rfl rfl rfl (wrap_ok (by omega) (by omega)) ?_
      simp only [qz]
      refine rg_move ?_
      simp only [qz]
      refine rg_nil ?_
      refine ek_sub (sk _ (sk _ (sc _ (sc _ sn)))) ?_
      refine ek_roundF (N - (j + 1)) (by omega) (by kernel_rfl) ?_
      exact ⟨j + 1, rfl, by rfl, by rfl, (by omega), (fun j2 hj2 => by rcases (by omega : j2 < j ∨ j2 = j) with h | rfl; exact he2 j2 h; exact hgood)⟩
    (try simp only [qd, ne_eq] at h6)
    simp only [qz]
    have hgood : smEq (rowS xs N K i j N) (wantS K i j) = false := by (unfold wantS; rw [if_pos (by omega)]; simpa using h6)
    refine rg_nil (ek_next (wk_cond_t rfl (wk_seq ?_)))
    refine wk_region [0, 0] rfl (by kernel_rfl) ?_
    simp only [qy]
    refine rg_assign ?_
    simp only [qz]
    refine rg_assign ?_
    simp only [qz]
    refine rg_nil (ek_next (wk_ret (ek_block_ret (ek_then_ret (ek_then_ret (ek_block_ret (ek_block_ret (ek_then_ret (ek_then_ret (ek_block_ret (ek_then_ret ?_)))))))))))
    refine ek_ret (fun w hw => ⟨rfl, _, res_tt _ _ rfl, ?_⟩)
    (try simp only [qz])
    exact ⟨false, rfl, ⟨fun h => (by cases h), fun h => by rw [h i j (by omega) (by omega)] at hgood; cases hgood⟩, hw.below⟩
  (try simp only [qd, ne_eq] at h3)
  simp only [qz]
  refine rg_nil (ek_next (wk_seq (wk_cond_t rfl (wk_skip (ek_next (wk_seq (wk_block (wk_seq ?_))))))))
  refine wk_region [0, 0] rfl (by kernel_rfl) ?_
  simp only [qy]
  refine rg_move ?_
  simp only [qz]
  refine rg_assign ?_
  simp only [qz]
  refine rg_nil (ek_next (wk_seq ?_))
  have fj := entry_fit (xs := xs) (N := N) (K := K) hok hlen.out hN (i := j) (k := n) (by omega) (by omega) hK40 hKz
  obtain ⟨fa0, fa1, fb0, fb1, fc0, fc1, fd0, fd1⟩ := id fj.2.2.2
  have fi := entry_fit (xs := xs) (N := N) (K := K) hok hlen.out hN (i := i) (k := n) (by omega) (by omega) hK40 hKz
  obtain ⟨ga0, ga1, gb0, gb1, gc0, gc1, gd0, gd1⟩ := id fi.2.2.2
  refine wk_region [0, 0, 0, 1, 0, 1, 1, 1] rfl (by kernel_rfl) ?_
  simp only [qy]
  refine rf_loadR (n := 2) rfl rfl rfl Try.underlying93 rfl (by kernel_rfl) (fun w hw => Kn.hd0 (Kn.tl (Kn.tl hw))) rfl rfl ?_
  simp only [qz]
  refine rg_move ?_
  simp only [qz]
  refine rg_move ?_
  simp only [qz]
  apply rg_pure (by rfl) (by kernel_rfl)
  case hargs => (simp only [qm, qs, Act.eval]; exact rfl)
  case h => exact fun w hw => at_any N j n xs a c hlen.out hN (by omega) (by omega) w (hA.kn0 hw)
  case hz => exact (fun _ h => by cases h)
  simp only [qz]
  refine rg_move ?_
  simp only [qz]
  apply rg_pure (by rfl) (by kernel_rfl)
  case hargs => (simp only [qm, qs, Act.eval]; exact rfl)
  case h => exact fun w hw => scaled_any (nm xs (j * N + n)) K fj.1 fj.2.1 fj.2.2.1 hK40 w
  case hz => exact (fun _ h => by cases h)
  simp only [qz]
  refine rg_new (cs := ?_) (ty := ?_) (by rfl) (fun w => ?_) (fun _ h => by cases h) (fun g6 => ?_); rotate_left 2
  focus (go_simp; rfl)
  simp only [qz]
  refine rf_storeR (n := 4) rfl rfl (by kernel_rfl) rfl rfl (UpdR.here _ _ _ (Nat.le_of_ble_eq_true rfl)) (fun _ h => by cases h) ?_
  simp only [qz, Nat.reduceAdd]
  refine rg_nil (ek_next (wk_seq ?_))
  refine wk_region [0, 0, 0, 0, 0, 0, 0, 0, 0, 0, 0, 0, 1, 1] rfl (by kernel_rfl) ?_
  simp only [qy]
  refine rf_indexA (n := 0) (sz := 1) (j := 0) rfl rfl rfl rfl Try.underlying43 (by kernel_rfl) (by decide) rfl ?_
  simp only [qz]
  refine rf_load rfl rfl rfl Try.underlying3 rfl (fun w hw => (Kn.hd0 hw).at rfl) ?_
  simp only [qz]
  refine rf_indexA (n := 3) (sz := 1) (j := 3) rfl rfl rfl rfl Try.underlying43 (by kernel_rfl) (by decide) rfl ?_
  simp only [qz]
  refine rf_load rfl rfl rfl Try.underlying3 rfl (fun w hw => (Kn.hd0 hw).at rfl) ?_
  simp only [qz]
  refine rf_neg rfl rfl rfl (wrap_ok (by omega) (by omega)) ?_
  simp only [qz]
  refine rf_indexA (n := 2) (sz := 1) (j := 2) rfl rfl rfl rfl Try.underlying43 (by kernel_rfl) (by decide) rfl ?_
  simp only [qz]
  refine rf_load rfl rfl rfl Try.underlying3 rfl (fun w hw => (Kn.hd0 hw).at rfl) ?_
  simp only [qz]
  refine rf_neg rfl rfl rfl (wrap_ok (by omega) (by omega)) ?_
  simp only [qz]
  refine rf_indexA (n := 1) (sz := 1) (j := 1) rfl rfl rfl rfl Try.underlying43 (by kernel_rfl) (by decide) rfl ?_
  simp only [qz]
  refine rf_load rfl rfl rfl Try.underlying3 rfl (fun w hw => (Kn.hd0 hw).at rfl) ?_
  simp only [qz]
  refine rf_neg rfl rfl rfl (wrap_ok (by omega) (by omega)) ?_
  simp only [qz]
  refine rf_build (cs := fun a => #[a.eval (.tmp 43), a.eval (.tmp 46), a.eval (.tmp 49), a.eval (.tmp 52)]) rfl rfl (by kernel_rfl) ?_
  simp only [qz]
  refine rg_new (cs := ?_) (ty := ?_) (by rfl) (fun w => ?_) (fun _ h => by cases h) (fun g7 => ?_); rotate_left 2
  focus (go_simp; rfl)
  simp only [qz]
  refine rf_storeR (n := 4) rfl rfl (by kernel_rfl) rfl rfl (UpdR.here _ _ _ (Nat.le_of_ble_eq_true rfl)) (fun _ h => by cases h) ?_
  simp only [qz, Nat.reduceAdd]
  refine rg_nil (ek_next ?_)
  refine wk_draws_m (hz1 := (sc _ (sc _ (sc _ (sk _ (sc _ (sc _ sn))))))) [(0, 0), (2, 0), (3, 0), (4, 0), (6, 0), (9, 0), (1, 1), (5, 1), (7, 1), (8, 1), (10, 1), (11, 1), (12, 2)] 12 (by kernel_rfl) (by kernel_rfl) (fun c d v a w h => by cases d <;> exact h) ?_
  simp only [List.map_cons, List.map_nil, List.getD_cons_zero, List.getD_cons_succ]
  refine rf_loadC (n := 24) (vs := (smC (rowS xs N K i j n)).toList) rfl rfl rfl Try.underlying110 rfl (by kernel_rfl) rfl (fun w hw => sm_all (Kn.hd0 (Kn.tl (Kn.tl (Kn.tl hw))))) ?_
  rw [show (smC (rowS xs N K i j n)).toList.toArray = smC (rowS xs N K i j n) by simp]
  simp only [qz]
  refine rf_loadR (n := 2) rfl rfl rfl Try.underlying93 rfl (by kernel_rfl) (fun w hw => Kn.hd0 (Kn.tl (Kn.tl (Kn.tl (Kn.tl hw))))) rfl rfl ?_
  simp only [qz]
  refine rg_move ?_
  simp only [qz]
  refine rg_move ?_
  simp only [qz]
  refine rg_move ?_
  simp only [qz]
  refine rf_loadR (n := 4) rfl rfl rfl Try.underlying43 rfl (by kernel_rfl) (fun w hw => Kn.hd0 hw) rfl rfl ?_
  simp only [qz]
  apply rg_pure (by rfl) (by kernel_rfl)
  case hargs => (simp only [qm, qs, Act.eval]; exact rfl)
  case h => exact fun w hw => smone_any w
  case hz => exact (fun _ h => by cases h; exact (sc _ (sc _ (sc _ (sc _ (sc _ (sc _ sn)))))))
  simp only [qz]
  apply rg_pure (by rfl) (by kernel_rfl)
  case hargs => (simp only [qm, qs, Act.eval]; exact rfl)
  case h => exact fun w hw => at_any N i n xs a c hlen.out hN (by omega) (by omega) w (hA.kn0 hw)
  case hz => exact (fun _ h => by cases h; exact (sc _ (sc _ (sc _ (sc _ (sc _ (sc _ sn)))))))
  simp only [qz]
  apply rg_pure (by rfl) (by kernel_rfl)
  case hargs => (simp only [qm, qs, Act.eval]; exact rfl)
  case h => exact fun w hw => scaled_any (nm xs (i * N + n)) K fi.1 fi.2.1 fi.2.2.1 hK40 w
  case hz => exact (fun _ h => by cases h; exact (sc _ (sc _ (sc _ (sc _ (sc _ (sc _ sn)))))))
  simp only [qz]
  apply rg_pure (by rfl) (by kernel_rfl)
  case hargs => (simp only [qm, qs, Act.eval]; exact rfl)
  case h => exact fun w hw => smtimes_any (sel4 1 0 0 0) (sel4 ((nm xs (i * N + n)).to K).a ((nm xs (i * N + n)).to K).b ((nm xs (i * N + n)).to K).c ((nm xs (i * N + n)).to K).d) (sel_cases (by simp only [sel4]; omega) (by simp only [sel4]; omega) (by simp only [sel4]; omega) (by simp only [sel4]; omega)) w
  case hz => exact (fun _ h => by cases h; exact (sc _ (sc _ (sc _ (sc _ (sc _ (sc _ sn)))))))
  simp only [qz]
  apply rg_pure (by rfl) (by kernel_rfl)
  case hargs => (simp only [qm, qs, Act.eval]; exact rfl)
  case h => exact fun w hw => smtimes_any (acc (sel4 1 0 0 0) (sel4 ((nm xs (i * N + n)).to K).a ((nm xs (i * N + n)).to K).b ((nm xs (i * N + n)).to K).c ((nm xs (i * N + n)).to K).d) 16) (sel4 ((nm xs (j * N + n)).to K).a (-((nm xs (j * N + n)).to K).d) (-((nm xs (j * N + n)).to K).c) (-((nm xs (j * N + n)).to K).b)) (sel_cases (by simp only [sel4]; omega) (by simp only [sel4]; omega) (by simp only [sel4]; omega) (by simp only [sel4]; omega)) w
  case hz => exact (fun _ h => by cases h; exact (sc _ (sc _ (sc _ (sc _ (sc _ (sc _ sn)))))))
  simp only [qz]
  apply rg_pure (by rfl) (by kernel_rfl)
  case hargs => (simp only [qm, qs, Act.eval]; exact rfl)
  case h => exact fun w hw => smplus_any (rowS xs N K i j n) (acc (acc (sel4 1 0 0 0) (sel4 ((nm xs (i * N + n)).to K).a ((nm xs (i * N + n)).to K).b ((nm xs (i * N + n)).to K).c ((nm xs (i * N + n)).to K).d) 16) (sel4 ((nm xs (j * N + n)).to K).a (-((nm xs (j * N + n)).to K).d) (-((nm xs (j * N + n)).to K).c) (-((nm xs (j * N + n)).to K).b)) 16) w
  case hz => exact (fun _ h => by cases h; exact (sc _ (sc _ (sc _ (sc _ (sc _ (sc _ sn)))))))
  simp only [qz]
  refine rf_storeRM (n := 24) (vs := (smC (rowS xs N K i j (n + 1))).toList) rfl rfl (by kernel_rfl) rfl rfl (UpdR.there _ (UpdR.there _ (UpdR.there _ (UpdR.here _ _ _ (Nat.le_of_ble_eq_true rfl))))) (sc _ (sc _ (sc _ (sk _ (sc _ (sc _ sn)))))) ?_
  rw [sm_over]
  simp only [qz]
  refine rg_nil (ek_block (ek_next ?_))
  refine wk_region [0, 0] rfl (by kernel_rfl) ?_
  simp only [qy]
  refine rf_add rfl rfl rfl rfl (wrap_ok (by omega) (by omega)) ?_
  simp only [qz]
  refine rg_move ?_
  simp only [qz]
  refine rg_nil ?_
  refine ek_sub (sk _ (sk _ (sc _ (sc _ (sc _ (sc _ sn)))))) ?_
  refine ek_roundF (N - (n + 1)) (by omega) (by kernel_rfl) ?_
  exact ⟨n + 1, rfl, by rfl, by rfl, (by omega)⟩

end Go.Proofs.Ytccbinnlnkpplaa
namespace Go.Proofs.Ytccbinnlnkpplaa
set_option linter.all false
open Go.RowKit

def powF (N : Nat) (xs : List Nm) (i k : Nat) : NR := (nm xs (i * N + k)).power
/-- The matrix of a function of the elements. -/
def mapM (F : Nat → List Nm → Nat → Nat → NR) (n : Int) (xs : List Nm) : LR := if validB n xs then madeR n.toNat (F n.toNat xs) else .error 20
set_option maxRecDepth 100000 in
set_option maxHeartbeats 1000000 in
theorem pow1_any (xs : List Nm) (a : Option Addr) (c : Nat) (N : Nat) (hN : N ≤ 6) (hlx : Hid (xs.length = N * N)) (hox : allOk xs = true) (i k gx : Nat) (hi : i < N) (hk : k < N) (w : World) (hA : AS w a (nms xs)) (hX : Hd w gx 93 #[.int .i64 N, .slice a xs.length c]) : Calls Try.prog 96 #[.int .i64 (i : Int), .int .i64 (k : Int), .pointer (some ⟨gx, 0, none⟩)] w fun e w' => e = .returned (numV (powF N xs i k)) ∧ Below w.heap.size w w' := by
  go_enter Try.func96, Try.ntmps96
  refine wk_start ?_
  refine wk_seq ?_
  refine wk_region [1, 0] rfl Kx ?_
  simp only [qy]
  refine Rgn fun g1 => ?_
  simp only [qz]
  refine rg_assign ?_
  simp only [qz]
  refine rg_nil (ek_next (wk_seq ?_))
  refine wk_region [0, 0, 0, 1, 1, 0, 0, 1, 0] rfl Kx ?_
  simp only [qy]
  refine rf_loadC (n := 2) (vs := [.int .i64 N, .slice a xs.length c]) rfl rfl rfl Try.underlying93 rfl Kx rfl (fun w hw => cells_range (Kn.hdB hw hX (by simp)) 0 2) ?_
  simp only [qz]
  refine rg_move ?_
  simp only [qz]
  refine rg_move ?_
  simp only [qz]
  apply rg_pure Rx Kx
  case hargs => exact Ax
  case h => exact fun w hw => at_any N i k xs a c hlx.out hN hi hk w (hA.kn0 hw)
  case hz => exact Nz
  simp only [qz]
  apply rg_pure Rx Kx
  case hargs => exact Ax
  case h => exact fun w hw => amPower_ok (nm xs (i * N + k)) (elemOk hox hlx.out hi hk) w
  case hz => exact Nz
  simp only [qz]
  obtain ⟨v, e, hve⟩ := numV_ve2 (nm xs (i * N + k)).power
  rw [hve]
  replace hve := Lib.hid hve
  refine rf_extract rfl rfl rfl rfl ?_
  simp only [qz]
  refine rf_extract rfl rfl rfl rfl ?_
  simp only [qz]
  refine rf_storeR (n := 5) rfl rfl Kx rfl rfl (UpdR.here _ _ _ Nl) Nz ?_
  simp only [qz, Nat.reduceAdd]
  refine rg_assign ?_
  simp only [qz]
  refine rg_nil (ek_next (wk_ret ?_))
  refine ek_ret (fun w hw => ⟨rfl, _, run_results2 rfl rfl (Kn.hd0 hw) Try.underlying45 rfl Kx, ?_⟩)
  (try simp only [qz])
  exact ⟨(congrArg Ending.returned hve.out).symm, hw.below⟩

set_option maxRecDepth 100000 in
set_option maxHeartbeats 1000000 in
theorem mpowers_any (n : Int) (xs : List Nm) (a : Option Addr) (c : Nat) (hl : xs.length ≤ 1000000) (w : World) (hA : AS w a (nms xs)) : Calls Try.prog 49 #[.agg #[.int .i64 n, .slice a xs.length c]] w fun e w' => RetM w (rN n.toNat (mapM powF n xs)) (rL (mapM powF n xs)) (rC (mapM powF n xs)) e w' := by
  go_enter Try.func49, Try.ntmps49
  refine wk_start ?_
  refine wk_seq ?_
  refine wk_region [1, 1, 0] rfl Kx ?_
  simp only [qy]
  refine Rgn fun g1 => ?_
  simp only [qz]
  refine Rgn fun g2 => ?_
  simp only [qz]
  refine rg_assign ?_
  simp only [qz]
  refine rg_nil (ek_next (wk_seq (wk_seq ?_)))
  refine wk_region [0, 1, 0] rfl Kx ?_
  simp only [qy]
  refine rf_loadR (n := 2) rfl rfl rfl Try.underlying38 rfl Kx (fun w hw => Kn.hd0 (Kn.tl hw)) rfl rfl ?_
  simp only [qz]
  apply rg_pureb Rx Kx
  case hargs => exact Ax
  case h => exact fun w hw => mvalid_any n xs a c hl w (hA.kn0 hw)
  case hz => exact Nz
  intro x h1
  cases x
  · (try simp only [qd, ne_eq] at h1)
    simp only [qz]
    refine rf_not rfl rfl rfl ?_
    simp only [qz]
    refine rg_nil (ek_next (wk_cond_t rfl (wk_seq ?_)))
    refine wk_region [0, 1, 0] rfl Kx ?_
    simp only [qy]
    refine rf_build (cs := fun a => #[.int .i64 0, .slice none 0 0]) rfl rfl Kx ?_
    simp only [qz]
    refine rf_storeR (n := 2) rfl rfl Kx rfl rfl (UpdR.here _ _ _ Nl) Nz ?_
    simp only [qz, Nat.reduceAdd]
    refine rg_assign ?_
    simp only [qz]
    refine rg_nil (ek_next (wk_ret (ek_then_ret ?_)))
    refine ek_ret (fun w hw => ⟨rfl, _, run_results2 rfl rfl (Kn.hd0 hw) Try.underlying38 rfl Kx, ?_⟩)
    (try simp only [qz])
    exact retM_err (c := 20) (by unfold mapM; rw [h1]; rfl) hw.below
  (try simp only [qd, ne_eq] at h1)
  simp only [qz]
  have hv := h1
  obtain ⟨N, rfl, hN1, hN, hlx, hlx36, hox⟩ := validB_N' hv
  replace hlx := Lib.hid hlx
  have hcp : mapM powF (N : Int) xs = madeR N (powF N xs) := by (unfold mapM; rw [hv, if_pos rfl, Int.toNat_natCast])
  replace hcp := Lib.hid hcp
  refine rf_not rfl rfl rfl ?_
  simp only [qz]
  refine rg_nil (ek_next (wk_cond_f rfl (wk_skip (ek_next (wk_seq ?_)))))
  refine wk_region [0, 0, 1, 1] rfl Kx ?_
  simp only [qy]
  refine rf_loadR (n := 2) rfl rfl rfl Try.underlying38 rfl Kx (fun w hw => Kn.hd0 (Kn.tl hw)) rfl rfl ?_
  simp only [qz]
  refine rf_build (cs := fun a => #[cellAt (a.eval (.tmp 9)) 0, cellAt (a.eval (.tmp 9)) 1]) rfl rfl Kx ?_
  simp only [qz]
  refine Rgn fun g3 => ?_
  simp only [qz]
  refine rf_storeR (n := 2) rfl rfl Kx rfl rfl (UpdR.here _ _ _ Nl) Nz ?_
  simp only [qz, Nat.reduceAdd]
  refine rg_nil (ek_next (wk_seq ?_))
  refine wk_region [0, 0, 0, 1, 0, 0, 1, 0] rfl Kx ?_
  simp only [qy]
  refine rf_field (n := 0) (j := 0) rfl rfl rfl Try.underlying38 rfl Kx rfl ?_
  simp only [qz]
  refine rf_load rfl rfl rfl Try.underlying3 rfl (fun w hw => (Kn.hd0 (Kn.tl (Kn.tl hw))).at rfl) ?_
  simp only [qz]
  apply rg_soft
  case hy => (intro w hw; go_simp; (try go_bits); exact Yld.mk _ _)
  simp only [qz]
  apply rg_retM Rx Kx
  case hargs => exact Ax
  case h => exact fun w hw => made_any N hN (powF N xs) _ (fun i k c hi hk h => by have := mk_err h; omega) w ⟨_, _, _, rfl, by kernel_rfl, fun w' hb vs r ⟨i, k, hi, hk, hv, hr⟩ => by
      subst hv hr
      have h := pow1_any xs a c N hN hlx hox i k g3 hi hk w' ((hA.kn0 hw).below hb) ((Kn.hd0 hw).belowS hb)
      simpa using h⟩
  case hz => exact Nz
  intro va5 vc5 u5 hO5
  simp only [qz]
  refine rf_extract rfl rfl rfl rfl ?_
  simp only [qz]
  refine rf_extract rfl rfl rfl rfl ?_
  simp only [qz]
  refine rf_storeR (n := 2) rfl rfl Kx rfl rfl (UpdR.app _ (UpdR.there _ (UpdR.here _ _ _ Nl))) Nz ?_
  simp only [qz, Nat.reduceAdd]
  refine rg_assign ?_
  simp only [qz]
  refine rg_nil (ek_next (wk_ret ?_))
  refine ek_ret (fun w hw => ⟨rfl, _, run_results2 rfl rfl (Kn.hd0 (Kn.tl (Kn.tlU hw))) Try.underlying38 rfl Kx, ?_⟩)
  (try simp only [qz])
  exact ⟨.slice va5 _ vc5, u5, by rw [hcp.out]; rfl, by rw [hcp.out]; exact hO5, hw.made (List.sublist_append_left _ _)⟩

end Go.Proofs.Ytccbinnlnkpplaa
namespace Go.Proofs.Ytccbinnlnkpplaa
set_option linter.all false

/-- All that is said of the switch with the phase n. -/
structure Bar (n : Nat) (l p : List Nm) (z0 z1 : Nm) (K : Int) : Prop where
  mat : matS 2 (swI 1 n) (swI 1 n).length = .ok l
  len : l.length = 4
  val : validB 2 l = true
  ok : allOk l = true
  exp : expo l = K
  exb : decide (0 ≤ K ∧ K ≤ 40) = true
  exl : l.all (fun z => decide (z.k ≤ K)) = true
  un : (smEq (rowS l 2 K 0 0 2) (wantS K 0 0) && (smEq (rowS l 2 K 0 1 2) (wantS K 0 1) && (smEq (rowS l 2 K 1 0 2) (wantS K 1 0) && smEq (rowS l 2 K 1 1 2) (wantS K 1 1)))) = true
  pow : mapM powF 2 l = .ok p
  pln : p.length = 4
  at0 : nm p 0 = z0
  at1 : nm p 1 = z1
  ok0 : z0.okB = true
  ok1 : z1.okB = true
  bar : barR n = .ok z0
  sum : wnum (z0.addR z1) = (Nm.one, true)
  mir : barR ((8 - n : Nat) % 8 : Nat) = .ok z0
theorem bars (n : Nat) (hn : n ≤ 7) : ∃ l p z0 z1 K, Bar n l p z0 z1 K := by
  rcases (by omega : n = 0 ∨ n = 1 ∨ n = 2 ∨ n = 3 ∨ n = 4 ∨ n = 5 ∨ n = 6 ∨ n = 7) with rfl | rfl | rfl | rfl | rfl | rfl | rfl | rfl
  all_goals exact ⟨_, _, _, _, _, rfl, rfl, rfl, rfl, rfl, rfl, rfl, rfl, rfl, rfl, rfl, rfl, rfl, rfl, rfl, rfl, rfl⟩
theorem two_cases {n : Nat} (h : n < 2) : n = 0 ∨ n = 1 := by omega
theorem Bar.unit {n : Nat} {l p : List Nm} {z0 z1 : Nm} {K : Int} (h : Bar n l p z0 z1 K) : ∀ i j, i < 2 → j < 2 → smEq (rowS l 2 K i j 2) (wantS K i j) = true := by
  have hu := h.un
  simp only [Bool.and_eq_true] at hu
  obtain ⟨h1, h2, h3, h4⟩ := hu
  intro i j hi hj
  rcases two_cases hi with rfl | rfl <;> rcases two_cases hj with rfl | rfl
  · exact h1
  · exact h2
  · exact h3
  · exact h4
theorem Bar.le {n : Nat} {l p : List Nm} {z0 z1 : Nm} {K : Int} (h : Bar n l p z0 z1 K) : 0 ≤ K ∧ K ≤ 40 ∧ ∀ z ∈ l, z.k ≤ K := by
  have h1 := of_decide_eq_true h.exb
  refine ⟨h1.1, h1.2, fun z hz => ?_⟩
  exact of_decide_eq_true (List.all_eq_true.1 h.exl z hz)
theorem to_fitB {z : Nm} {m : Int} (h : z.Fit 1000000000) (h0 : z.k ≤ m) (h1 : m - z.k ≤ 40) : (z.to m).Fit 1048576000000000 := by
  unfold Nm.to
  exact Nm.up40_fit h (by omega)
end Go.Proofs.Ytccbinnlnkpplaa
namespace Go.Proofs.Ytccbinnlnkpplaa
set_option linter.all false
open Go.RowKit

theorem tr_len {z : Nm} (h : z.Fit 9850501549098619803069760025035903451269934817616361666987073351061430442874302652853566563721228910201656997576704) : (digs z.tr.a.natAbs).length ≤ 1000 ∧ (digs z.tr.b.natAbs).length ≤ 1000 ∧ (digs z.tr.c.natAbs).length ≤ 1000 ∧ (digs z.tr.d.natAbs).length ≤ 1000 := by
  obtain ⟨h1, h2, h3, h4, h5, h6, h7, h8⟩ := h
  simp only [Nm.tr]
  exact ⟨len_big Ox Ox, len_big Ox Ox, len_big Ox Ox, len_big Ox Ox⟩
set_option maxRecDepth 100000 in
set_option maxHeartbeats 2000000 in
theorem wnum_any (z : Nm) (s0 s1 s2 s3 : Value) (hz : z.Fit 9850501549098619803069760025035903451269934817616361666987073351061430442874302652853566563721228910201656997576704) (hk : 0 ≤ z.k) (hk1 : z.k ≤ 10000) (w : World) (hs : SA4 w z s0 s1 s2 s3) : Calls Try.prog 53 #[wdV z s0 s1 s2 s3] w fun e w' => e = .returned (.tuple #[nmV (wnum z).1, .bool (wnum z).2]) ∧ Below w.heap.size w w' := by
  obtain ⟨⟨a0, c0, rfl⟩, ⟨a1, c1, rfl⟩, ⟨a2, c2, rfl⟩, ⟨a3, c3, rfl⟩⟩ := (⟨hs.a.form, hs.b.form, hs.c.form, hs.d.form⟩ : _ ∧ _ ∧ _ ∧ _)
  go_enter Try.func53, Try.ntmps53
  refine wk_start ?_
  refine wk_seq ?_
  refine wk_region [1, 1, 0] rfl Kx ?_
  simp only [qy]
  refine Rgn fun g1 => ?_
  simp only [qz]
  refine Rgn fun g2 => ?_
  simp only [qz]
  refine rg_assign ?_
  simp only [qz]
  refine rg_nil (ek_next ?_)
  refine wk_cutF [4, 5, 10, 11, 12, 13, 14, 15, 16, 17, 18, 19, 20, 21, 22, 23, 24, 25, 26, 27, 28, 29, 30, 31, 32, 33, 34, 35, 36, 37, 38, 39, 40, 41, 42, 43, 44, 45, 46, 47, 48, 49, 50, 51] (fun f s => ∃ (y : Nm) (ta0 ta1 ta2 ta3 : Option Addr) (tc0 tc1 tc2 tc3 : Nat) (u : List Blk), s = (u ++ ((g2, .cells #[.int .i64 0, .int .i64 0, .int .i64 0, .int .i64 0, .int .i64 0] 45) :: ((g1, .cells #[.bool (decide (y.a < 0)), .slice ta0 (digs y.a.natAbs).length tc0, .bool (decide (y.b < 0)), .slice ta1 (digs y.b.natAbs).length tc1, .bool (decide (y.c < 0)), .slice ta2 (digs y.c.natAbs).length tc2, .bool (decide (y.d < 0)), .slice ta3 (digs y.d.natAbs).length tc3, .int .i64 y.k] 70) :: []))) ∧ Hid (y.nf = z.nf) ∧ y.nf = y ∧ SK4 w u y (.slice ta0 (digs y.a.natAbs).length tc0) (.slice ta1 (digs y.b.natAbs).length tc1) (.slice ta2 (digs y.c.natAbs).length tc2) (.slice ta3 (digs y.d.natAbs).length tc3) ∧ y.Fit 9850501549098619803069760025035903451269934817616361666987073351061430442874302652853566563721228910201656997576704) ?_ ?_
  · refine wk_block ?_
    refine wk_loopF [4, 5, 10, 11, 12, 13, 14, 15, 16, 17, 18, 19, 20, 21, 22, 23, 24, 25, 26, 27, 28, 29, 30, 31, 32, 33, 34, 35, 36, 37, 38, 39, 40, 41, 42, 43, 44, 45, 46, 47, 48, 49, 50, 51] (fun mz f s => ∃ (y : Nm) (ta0 ta1 ta2 ta3 : Option Addr) (tc0 tc1 tc2 tc3 : Nat) (u : List Blk), s = (u ++ ((g2, .cells #[.int .i64 0, .int .i64 0, .int .i64 0, .int .i64 0, .int .i64 0] 45) :: ((g1, .cells #[.bool (decide (y.a < 0)), .slice ta0 (digs y.a.natAbs).length tc0, .bool (decide (y.b < 0)), .slice ta1 (digs y.b.natAbs).length tc1, .bool (decide (y.c < 0)), .slice ta2 (digs y.c.natAbs).length tc2, .bool (decide (y.d < 0)), .slice ta3 (digs y.d.natAbs).length tc3, .int .i64 y.k] 70) :: []))) ∧ mz = y.k.toNat ∧ Hid (y.nf = z.nf) ∧ SK4 w u y (.slice ta0 (digs y.a.natAbs).length tc0) (.slice ta1 (digs y.b.natAbs).length tc1) (.slice ta2 (digs y.c.natAbs).length tc2) (.slice ta3 (digs y.d.natAbs).length tc3) ∧ y.Fit 9850501549098619803069760025035903451269934817616361666987073351061430442874302652853566563721228910201656997576704 ∧ 0 ≤ y.k ∧ y.k ≤ 10000) ((fun (y : Nm) (ta0 ta1 ta2 ta3 : Option Addr) (tc0 tc1 tc2 tc3 : Nat) (u : List Blk) => y.k.toNat) (z) (a0) (a1) (a2) (a3) (c0) (c1) (c2) (c3) ([])) ?_ Kx ?_
    · exact ⟨z, a0, a1, a2, a3, c0, c1, c2, c3, [], rfl, rfl, Lib.hid rfl, SK4.arg hs, hz, hk, hk1⟩
    rintro mz f1 s ⟨y, ta0, ta1, ta2, ta3, tc0, tc1, tc2, tc3, u, rfl, hn, hd1, hd2, hd3, hd4, hd5⟩
    simp only [Act.putF, List.foldl_cons, List.foldl_nil, Act.put, Act.eval, q1, q2, q3, q4, q5, q6, q7, q8, q9, q10, q11, q12, q13, q14, q15, q16, q17, q18, Nat.reduceAdd, Bool.not_true, Bool.not_false]
    have hnf := hd1
    have hsk := hd2
    have hfit := hd3
    clear hd1 hd2 hd3
    refine wk_seq (wk_seq ?_)
    refine wk_region [0, 0, 0, 0, 0, 0, 0, 0, 0, 0, 1, 1, 0, 0, 0, 0, 0, 0, 0, 0, 1, 1, 0] rfl Kx ?_
    simp only [qy]
    refine rf_field (n := 0) (j := 8) rfl rfl rfl Try.underlying70 rfl Kx rfl ?_
    simp only [qz]
    refine rf_load rfl rfl rfl Try.underlying3 rfl (fun w hw => (Kn.hd0 (Kn.tl (Kn.tlU hw))).at rfl) ?_
    simp only [qz]
    refine rfb_gtr rfl rfl rfl rfl ?_
    intro x h1
    cases x
    · (try simp only [qd, ne_eq] at h1)
      simp only [qz]
      refine rg_move ?_
      simp only [qz]
      refine rg_skip Rx ?_
      simp only [qz]
      refine rg_skip Rx ?_
      simp only [qz]
      refine rg_skip Rx ?_
      simp only [qz]
      refine rg_skip Rx ?_
      simp only [qz]
      refine rg_skip Rx ?_
      simp only [qz]
      refine rg_skip Rx ?_
      simp only [qz]
      refine rg_skip_h Rx Nz ?_
      simp only [qz]
      refine rg_skip_h Rx Nz ?_
      simp only [qz]
      refine rf_pick rfl rfl rfl ?_
      simp only [qz]
      refine rg_move ?_
      simp only [qz]
      refine rg_skip Rx ?_
      simp only [qz]
      refine rg_skip Rx ?_
      simp only [qz]
      refine rg_skip Rx ?_
      simp only [qz]
      refine rg_skip Rx ?_
      simp only [qz]
      refine rg_skip Rx ?_
      simp only [qz]
      refine rg_skip Rx ?_
      simp only [qz]
      refine rg_skip_h Rx Nz ?_
      simp only [qz]
      refine rg_skip_h Rx Nz ?_
      simp only [qz]
      refine rf_pick rfl rfl rfl ?_
      simp only [qz]
      refine rg_nil (ek_next (wk_cond_f rfl (wk_exit (ek_then_exit (ek_then_exit (ek_block_exit ?_))))))
      refine ek_midF Kx ?_
      exact ⟨y, ta0, ta1, ta2, ta3, tc0, tc1, tc2, tc3, u, by rfl, hnf, (nf_stop (fun hh => by have := hh.1; have := hh.2.1; have := hh.2.2; omega)), hsk, hfit⟩
    (try simp only [qd, ne_eq] at h1)
    simp only [qz]
    refine rg_move ?_
    simp only [qz]
    refine rf_field (n := 7) (j := 0) rfl rfl rfl Try.underlying70 rfl Kx rfl ?_
    simp only [qz]
    refine rf_indexA (n := 0) (sz := 2) (j := 0) rfl rfl rfl rfl Try.underlying68 Kx (by decide) rfl ?_
    simp only [qz]
    refine rf_loadR (n := 2) rfl rfl rfl Try.underlying67 rfl Kx (fun w hw => Kn.hd0 (Kn.tl (Kn.tlU hw))) rfl rfl ?_
    simp only [qz]
    refine rf_field (n := 7) (j := 0) rfl rfl rfl Try.underlying70 rfl Kx rfl ?_
    simp only [qz]
    refine rf_indexA (n := 2) (sz := 2) (j := 4) rfl rfl rfl rfl Try.underlying68 Kx (by decide) rfl ?_
    simp only [qz]
    refine rf_loadR (n := 2) rfl rfl rfl Try.underlying67 rfl Kx (fun w hw => Kn.hd0 (Kn.tl (Kn.tlU hw))) rfl rfl ?_
    simp only [qz]
    obtain ⟨la, lb, lc, ld⟩ := fit_big hfit
    obtain ⟨fa0, fa1, fb0, fb1, fc0, fc1, fd0, fd1⟩ := id hfit
    apply (rg_made (T := fun v u => ∃ s, v = bgV (y.a + y.c) s ∧ SU u s (y.a + y.c).natAbs)) Rx Kx
    case hargs => exact Ax
    case h => exact fun w hw => badd_any y.a y.c _ _ la lc w (hsk.a.at hw (List.sublist_append_left _ _)) (hsk.c.at hw (List.sublist_append_left _ _))
    case hz => exact Nz
    rintro _ u3 ⟨s3, rfl, hS3⟩
    obtain ⟨⟨sa3, sc3, rfl⟩, -⟩ := id hS3
    simp only [qz]
    apply rg_pureb Rx Kx
    case hargs => exact Ax
    case h => exact fun w hw => beven_any (y.a + y.c) _ (len_big Ox Ox) w (hS3.at hw (List.sublist_append_left _ _))
    case hz => exact Nz
    intro x h2
    cases x
    · (try simp only [qd, ne_eq] at h2)
      simp only [qz]
      refine rf_pick rfl rfl rfl ?_
      simp only [qz]
      refine rg_move ?_
      simp only [qz]
      refine rg_skip Rx ?_
      simp only [qz]
      refine rg_skip Rx ?_
      simp only [qz]
      refine rg_skip Rx ?_
      simp only [qz]
      refine rg_skip Rx ?_
      simp only [qz]
      refine rg_skip Rx ?_
      simp only [qz]
      refine rg_skip Rx ?_
      simp only [qz]
      refine rg_skip_h Rx Nz ?_
      simp only [qz]
      refine rg_skip_h Rx Nz ?_
      simp only [qz]
      refine rf_pick rfl rfl rfl ?_
      simp only [qz]
      refine rg_nil (ek_next (wk_cond_f rfl (wk_exit (ek_then_exit (ek_then_exit (ek_block_exit ?_))))))
      refine ek_sub ((List.Sublist.append_left (sc _ (sc _ sn)) _).trans (List.sublist_append_right _ _)) ?_
      refine ek_midF Kx ?_
      exact ⟨y, ta0, ta1, ta2, ta3, tc0, tc1, tc2, tc3, u, by rfl, hnf, (nf_stop (fun hh => by have := hh.1; have := hh.2.1; have := hh.2.2; omega)), hsk, hfit⟩
    (try simp only [qd, ne_eq] at h2)
    simp only [qz]
    refine rf_pick rfl rfl rfl ?_
    simp only [qz]
    refine rg_move ?_
    simp only [qz]
    refine rf_field (n := 7) (j := 0) rfl rfl rfl Try.underlying70 rfl Kx rfl ?_
    simp only [qz]
    refine rf_indexA (n := 1) (sz := 2) (j := 2) rfl rfl rfl rfl Try.underlying68 Kx (by decide) rfl ?_
    simp only [qz]
    refine rf_loadR (n := 2) rfl rfl rfl Try.underlying67 rfl Kx (fun w hw => Kn.hd0 (Kn.tl (Kn.tlU (Kn.tlU hw)))) rfl rfl ?_
    simp only [qz]
    refine rf_field (n := 7) (j := 0) rfl rfl rfl Try.underlying70 rfl Kx rfl ?_
    simp only [qz]
    refine rf_indexA (n := 3) (sz := 2) (j := 6) rfl rfl rfl rfl Try.underlying68 Kx (by decide) rfl ?_
    simp only [qz]
    refine rf_loadR (n := 2) rfl rfl rfl Try.underlying67 rfl Kx (fun w hw => Kn.hd0 (Kn.tl (Kn.tlU (Kn.tlU hw)))) rfl rfl ?_
    simp only [qz]
    apply (rg_made (T := fun v u => ∃ s, v = bgV (y.b + y.d) s ∧ SU u s (y.b + y.d).natAbs)) Rx Kx
    case hargs => exact Ax
    case h => exact fun w hw => badd_any y.b y.d _ _ lb ld w (hsk.b.at hw ((List.sublist_append_left _ _).trans (List.sublist_append_right _ _))) (hsk.d.at hw ((List.sublist_append_left _ _).trans (List.sublist_append_right _ _)))
    case hz => exact Nz
    rintro _ u4 ⟨s4, rfl, hS4⟩
    obtain ⟨⟨sa4, sc4, rfl⟩, -⟩ := id hS4
    simp only [qz]
    apply rg_pureb Rx Kx
    case hargs => exact Ax
    case h => exact fun w hw => beven_any (y.b + y.d) _ (len_big Ox Ox) w (hS4.at hw (List.sublist_append_left _ _))
    case hz => exact Nz
    intro x h3
    cases x
    · (try simp only [qd, ne_eq] at h3)
      simp only [qz]
      refine rf_pick rfl rfl rfl ?_
      simp only [qz]
      refine rg_nil (ek_next (wk_cond_f rfl (wk_exit (ek_then_exit (ek_then_exit (ek_block_exit ?_))))))
      refine ek_sub (((List.Sublist.append_left (sc _ (sc _ sn)) _).trans (List.sublist_append_right _ _)).trans (List.sublist_append_right _ _)) ?_
      refine ek_midF Kx ?_
      exact ⟨y, ta0, ta1, ta2, ta3, tc0, tc1, tc2, tc3, u, by rfl, hnf, (nf_stop (fun hh => by have := hh.1; have := hh.2.1; have := hh.2.2; omega)), hsk, hfit⟩
    (try simp only [qd, ne_eq] at h3)
    simp only [qz]
    refine rf_pick rfl rfl rfl ?_
    simp only [qz]
    refine rg_nil (ek_next (wk_cond_t rfl (wk_skip (ek_next (wk_block (wk_seq ?_))))))
    refine wk_region [0, 0, 1, 1, 1] rfl Kx ?_
    simp only [qy]
    refine rf_field (n := 7) (j := 0) rfl rfl rfl Try.underlying70 rfl Kx rfl ?_
    simp only [qz]
    refine rf_loadR (n := 8) rfl rfl rfl Try.underlying68 rfl Kx (fun w hw => Kn.hd0 (Kn.tl (Kn.tlU (Kn.tlU (Kn.tlU hw))))) rfl rfl ?_
    simp only [qz]
    apply (rg_made (T := fun v u => ∃ s0 s1 s2 s3, v = arV (y.tr) s0 s1 s2 s3 ∧ SU4 u (y.tr) s0 s1 s2 s3)) Rx Kx
    case hargs => exact Ax
    case h => exact fun w hw => timesR_any y _ _ _ _ hfit w (hsk.at hw (((List.sublist_append_left _ _).trans (List.sublist_append_right _ _)).trans (List.sublist_append_right _ _)))
    case hz => exact Nz
    rintro _ u5 ⟨t0, t1, t2, t3, rfl, hS5⟩
    obtain ⟨⟨ta5_0, tc5_0, rfl⟩, -⟩ := id hS5.a
    obtain ⟨⟨ta5_1, tc5_1, rfl⟩, -⟩ := id hS5.b
    obtain ⟨⟨ta5_2, tc5_2, rfl⟩, -⟩ := id hS5.c
    obtain ⟨⟨ta5_3, tc5_3, rfl⟩, -⟩ := id hS5.d
    simp only [qz]
    obtain ⟨ma, mb, mc, md⟩ := tr_len hfit
    refine Rgn fun g6 => ?_
    simp only [qz]
    refine rf_storeR (n := 8) rfl rfl Kx rfl rfl (UpdR.here _ _ _ Nl) Nz ?_
    simp only [qz, Nat.reduceAdd]
    refine rg_nil (ek_next (wk_seq (wk_seq ?_)))
    refine wk_region [0] rfl Kx ?_
    simp only [qy]
    refine rg_assign ?_
    simp only [qz]
    refine rg_nil (ek_next (wk_block ?_))
    refine wk_unroll 4 ?_
    refine wk_seq (wk_seq ?_)
    refine wk_region [0, 0] rfl Kx ?_
    simp only [qy]
    refine rg_move ?_
    simp only [qz]
    refine rf_lss (b := true) rfl rfl rfl rfl (by decide) ?_
    simp only [qz]
    refine rg_nil (ek_next (wk_cond_t rfl (wk_skip (ek_next (wk_seq (wk_block ?_))))))
    refine wk_region [0, 0, 0, 0, 1, 0, 1] rfl Kx ?_
    simp only [qy]
    refine rg_move ?_
    simp only [qz]
    refine rg_move ?_
    simp only [qz]
    refine rf_indexA (n := 0) (sz := 2) (j := 0) rfl rfl rfl rfl Try.underlying68 Kx (by decide) rfl ?_
    simp only [qz]
    refine rf_loadR (n := 2) rfl rfl rfl Try.underlying67 rfl Kx (fun w hw => Kn.hd0 hw) rfl rfl ?_
    simp only [qz]
    apply (rg_made (T := fun v u => ∃ s, v = bgV (y.tr.a / 2) s ∧ SU u s (y.tr.a / 2).natAbs)) Rx Kx
    case hargs => exact Ax
    case h => exact fun w hw => bhalf_any y.tr.a _ ma (by simp only [Nm.tr]; omega) w (hS5.a.at hw (List.Sublist.cons _ (List.sublist_append_left _ _)))
    case hz => exact Nz
    rintro _ u7 ⟨s7, rfl, hS7⟩
    obtain ⟨⟨sa7, sc7, rfl⟩, -⟩ := id hS7
    simp only [qz]
    refine rf_indexA (n := 0) (sz := 2) (j := 0) rfl rfl rfl rfl Try.underlying68 Kx (by decide) rfl ?_
    simp only [qz]
    refine rf_storeR (n := 2) rfl rfl Kx rfl rfl (UpdR.app _ (UpdR.here _ _ _ Nl)) Nz ?_
    simp only [qz, Nat.reduceAdd]
    refine rg_nil (ek_block (ek_next ?_))
    refine wk_region [0, 0, 0] rfl Kx ?_
    simp only [qy]
    refine rg_move ?_
    simp only [qz]
    refine rf_add (r := 1) rfl rfl rfl rfl (by decide) ?_
    simp only [qz]
    refine rg_assign ?_
    simp only [qz]
    refine rg_nil (ek_again (wk_seq (wk_seq ?_)))
    refine wk_region [0, 0] rfl Kx ?_
    simp only [qy]
    refine rg_move ?_
    simp only [qz]
    refine rf_lss (b := true) rfl rfl rfl rfl (by decide) ?_
    simp only [qz]
    refine rg_nil (ek_next (wk_cond_t rfl (wk_skip (ek_next (wk_seq (wk_block ?_))))))
    refine wk_region [0, 0, 0, 0, 1, 0, 1] rfl Kx ?_
    simp only [qy]
    refine rg_move ?_
    simp only [qz]
    refine rg_move ?_
    simp only [qz]
    refine rf_indexA (n := 1) (sz := 2) (j := 2) rfl rfl rfl rfl Try.underlying68 Kx (by decide) rfl ?_
    simp only [qz]
    refine rf_loadR (n := 2) rfl rfl rfl Try.underlying67 rfl Kx (fun w hw => Kn.hd0 (Kn.tlU hw)) rfl rfl ?_
    simp only [qz]
    apply (rg_made (T := fun v u => ∃ s, v = bgV (y.tr.b / 2) s ∧ SU u s (y.tr.b / 2).natAbs)) Rx Kx
    case hargs => exact Ax
    case h => exact fun w hw => bhalf_any y.tr.b _ mb (by simp only [Nm.tr]; omega) w (hS5.b.at hw ((List.Sublist.cons _ (List.sublist_append_left _ _)).trans (List.sublist_append_right _ _)))
    case hz => exact Nz
    rintro _ u8 ⟨s8, rfl, hS8⟩
    obtain ⟨⟨sa8, sc8, rfl⟩, -⟩ := id hS8
    simp only [qz]
    refine rf_indexA (n := 1) (sz := 2) (j := 2) rfl rfl rfl rfl Try.underlying68 Kx (by decide) rfl ?_
    simp only [qz]
    refine rf_storeR (n := 2) rfl rfl Kx rfl rfl (UpdR.app _ (UpdR.app _ (UpdR.here _ _ _ Nl))) Nz ?_
    simp only [qz, Nat.reduceAdd]
    refine rg_nil (ek_block (ek_next ?_))
    refine wk_region [0, 0, 0] rfl Kx ?_
    simp only [qy]
    refine rg_move ?_
    simp only [qz]
    refine rf_add (r := 2) rfl rfl rfl rfl (by decide) ?_
    simp only [qz]
    refine rg_assign ?_
    simp only [qz]
    refine rg_nil (ek_again (wk_seq (wk_seq ?_)))
    refine wk_region [0, 0] rfl Kx ?_
    simp only [qy]
    refine rg_move ?_
    simp only [qz]
    refine rf_lss (b := true) rfl rfl rfl rfl (by decide) ?_
    simp only [qz]
    refine rg_nil (ek_next (wk_cond_t rfl (wk_skip (ek_next (wk_seq (wk_block ?_))))))
    refine wk_region [0, 0, 0, 0, 1, 0, 1] rfl Kx ?_
    simp only [qy]
    refine rg_move ?_
    simp only [qz]
    refine rg_move ?_
    simp only [qz]
    refine rf_indexA (n := 2) (sz := 2) (j := 4) rfl rfl rfl rfl Try.underlying68 Kx (by decide) rfl ?_
    simp only [qz]
    refine rf_loadR (n := 2) rfl rfl rfl Try.underlying67 rfl Kx (fun w hw => Kn.hd0 (Kn.tlU (Kn.tlU hw))) rfl rfl ?_
    simp only [qz]
    apply (rg_made (T := fun v u => ∃ s, v = bgV (y.tr.c / 2) s ∧ SU u s (y.tr.c / 2).natAbs)) Rx Kx
    case hargs => exact Ax
    case h => exact fun w hw => bhalf_any y.tr.c _ mc (by simp only [Nm.tr]; omega) w (hS5.c.at hw (((List.Sublist.cons _ (List.sublist_append_left _ _)).trans (List.sublist_append_right _ _)).trans (List.sublist_append_right _ _)))
    case hz => exact Nz
    rintro _ u9 ⟨s9, rfl, hS9⟩
    obtain ⟨⟨sa9, sc9, rfl⟩, -⟩ := id hS9
    simp only [qz]
    refine rf_indexA (n := 2) (sz := 2) (j := 4) rfl rfl rfl rfl Try.underlying68 Kx (by decide) rfl ?_
    simp only [qz]
    refine rf_storeR (n := 2) rfl rfl Kx rfl rfl (UpdR.app _ (UpdR.app _ (UpdR.app _ (UpdR.here _ _ _ Nl)))) Nz ?_
    simp only [qz, Nat.reduceAdd]
    refine rg_nil (ek_block (ek_next ?_))
    refine wk_region [0, 0, 0] rfl Kx ?_
    simp only [qy]
    refine rg_move ?_
    simp only [qz]
    refine rf_add (r := 3) rfl rfl rfl rfl (by decide) ?_
    simp only [qz]
    refine rg_assign ?_
    simp only [qz]
    refine rg_nil (ek_again (wk_seq (wk_seq ?_)))
    refine wk_region [0, 0] rfl Kx ?_
    simp only [qy]
    refine rg_move ?_
    simp only [qz]
    refine rf_lss (b := true) rfl rfl rfl rfl (by decide) ?_
    simp only [qz]
    refine rg_nil (ek_next (wk_cond_t rfl (wk_skip (ek_next (wk_seq (wk_block ?_))))))
    refine wk_region [0, 0, 0, 0, 1, 0, 1] rfl Kx ?_
    simp only [qy]
    refine rg_move ?_
    simp only [qz]
    refine rg_move ?_
    simp only [qz]
    refine rf_indexA (n := 3) (sz := 2) (j := 6) rfl rfl rfl rfl Try.underlying68 Kx (by decide) rfl ?_
    simp only [qz]
    refine rf_loadR (n := 2) rfl rfl rfl Try.underlying67 rfl Kx (fun w hw => Kn.hd0 (Kn.tlU (Kn.tlU (Kn.tlU hw)))) rfl rfl ?_
    simp only [qz]
    apply (rg_made (T := fun v u => ∃ s, v = bgV (y.tr.d / 2) s ∧ SU u s (y.tr.d / 2).natAbs)) Rx Kx
    case hargs => exact Ax
    case h => exact fun w hw => bhalf_any y.tr.d _ md (by simp only [Nm.tr]; omega) w (hS5.d.at hw ((((List.Sublist.cons _ (List.sublist_append_left _ _)).trans (List.sublist_append_right _ _)).trans (List.sublist_append_right _ _)).trans (List.sublist_append_right _ _)))
    case hz => exact Nz
    rintro _ u10 ⟨s10, rfl, hS10⟩
    obtain ⟨⟨sa10, sc10, rfl⟩, -⟩ := id hS10
    simp only [qz]
    refine rf_indexA (n := 3) (sz := 2) (j := 6) rfl rfl rfl rfl Try.underlying68 Kx (by decide) rfl ?_
    simp only [qz]
    refine rf_storeR (n := 2) rfl rfl Kx rfl rfl (UpdR.app _ (UpdR.app _ (UpdR.app _ (UpdR.app _ (UpdR.here _ _ _ Nl))))) Nz ?_
    simp only [qz, Nat.reduceAdd]
    refine rg_nil (ek_block (ek_next ?_))
    refine wk_region [0, 0, 0] rfl Kx ?_
    simp only [qy]
    refine rg_move ?_
    simp only [qz]
    refine rf_add (r := 4) rfl rfl rfl rfl (by decide) ?_
    simp only [qz]
    refine rg_assign ?_
    simp only [qz]
    refine rg_nil (ek_again (wk_seq (wk_seq ?_)))
    refine wk_region [0, 0] rfl Kx ?_
    simp only [qy]
    refine rg_move ?_
    simp only [qz]
    refine rf_lss (b := false) rfl rfl rfl rfl (by decide) ?_
    simp only [qz]
    refine rg_nil (ek_next (wk_cond_f rfl (wk_exit (ek_then_exit (ek_then_exit (ek_block_exit (ek_next ?_)))))))
    refine wk_region [0, 0, 0, 0, 0, 1, 0, 1] rfl Kx ?_
    simp only [qy]
    refine rf_loadR (n := 8) rfl rfl rfl Try.underlying68 rfl Kx (fun w hw => Kn.hd0 (Kn.tlU (Kn.tlU (Kn.tlU (Kn.tlU hw))))) rfl rfl ?_
    simp only [qz]
    refine rf_field (n := 0) (j := 8) rfl rfl rfl Try.underlying70 rfl Kx rfl ?_
    simp only [qz]
    refine rf_load rfl rfl rfl Try.underlying3 rfl (fun w hw => (Kn.hd0 (Kn.tl (Kn.tlU (Kn.tlU (Kn.tlU (Kn.tlU (Kn.tl (Kn.tlU (Kn.tlU (Kn.tlU (Kn.tlU hw))))))))))).at rfl) ?_
    simp only [qz]
    refine rf_sub rfl rfl rfl rfl (wrap_ok Ox Ox) ?_
    simp only [qz]
    refine rf_field (n := 7) (j := 0) rfl rfl rfl Try.underlying70 rfl Kx rfl ?_
    simp only [qz]
    refine rf_storeR (n := 8) rfl rfl Kx rfl rfl (UpdR.app _ (UpdR.app _ (UpdR.app _ (UpdR.app _ (UpdR.there _ (UpdR.app _ (UpdR.app _ (UpdR.app _ (UpdR.app _ (UpdR.there _ (UpdR.here _ _ _ Nl))))))))))) Nz ?_
    simp only [qz, Nat.reduceAdd]
    refine rf_field (n := 0) (j := 8) rfl rfl rfl Try.underlying70 rfl Kx rfl ?_
    simp only [qz]
    refine rf_store rfl rfl Kx rfl rfl (UpdR.app _ (UpdR.app _ (UpdR.app _ (UpdR.app _ (UpdR.there _ (UpdR.app _ (UpdR.app _ (UpdR.app _ (UpdR.app _ (UpdR.there _ (UpdR.here _ _ _ Nl))))))))))) Nz ?_
    simp only [qz]
    refine rg_nil (ek_block ?_)
    refine ek_sub (List.Sublist.append_left (List.Sublist.append_left (List.Sublist.append_left (List.Sublist.append_left (sk _ (((((sc _ (sc _ sn)).trans (List.sublist_append_right _ _)).trans (List.sublist_append_right _ _)).trans (List.sublist_append_right _ _)).trans (List.sublist_append_right _ _))) _) _) _) _) ?_
    refine ek_roundF (y.step.k.toNat) ((by simp only [Nm.step]; omega)) Kx ?_
    exact ⟨y.step, sa7, sa8, sa9, sa10, sc7, sc8, sc9, sc10, (u10 ++ (u9 ++ (u8 ++ u7))), (by simp only [List.append_assoc]; rfl), by rfl, (Lib.hid ((nf_step Ox ⟨by omega, by omega⟩).symm.trans hnf.out)), ⟨(SK.own (hS7.mono ((((List.Sublist.refl _).trans (List.sublist_append_right _ _)).trans (List.sublist_append_right _ _)).trans (List.sublist_append_right _ _)))), (SK.own (hS8.mono (((List.sublist_append_left _ _).trans (List.sublist_append_right _ _)).trans (List.sublist_append_right _ _)))), (SK.own (hS9.mono ((List.sublist_append_left _ _).trans (List.sublist_append_right _ _)))), (SK.own (hS10.mono (List.sublist_append_left _ _)))⟩, (Nm.step_fit hfit), (by simp only [Nm.step]; omega), (by simp only [Nm.step]; omega)⟩
  rintro f1 s ⟨y, ta0, ta1, ta2, ta3, tc0, tc1, tc2, tc3, u, rfl, hnf, hst, hsk, hfit⟩
  simp only [Act.putF, List.foldl_cons, List.foldl_nil, Act.put, Act.eval, q1, q2, q3, q4, q5, q6, q7, q8, q9, q10, q11, q12, q13, q14, q15, q16, q17, q18, Nat.reduceAdd, Bool.not_true, Bool.not_false]
  have hyz : y = z.nf := hst.symm.trans hnf.out
  replace hyz := Lib.hid hyz
  clear hst hnf
  obtain ⟨la, lb, lc, ld⟩ := fit_big hfit
  refine wk_seq ?_
  refine wk_region [0, 0, 0, 1, 1] rfl Kx ?_
  simp only [qy]
  refine rf_field (n := 0) (j := 8) rfl rfl rfl Try.underlying70 rfl Kx rfl ?_
  simp only [qz]
  refine rf_load rfl rfl rfl Try.underlying3 rfl (fun w hw => (Kn.hd0 (Kn.tl (Kn.tlU hw))).at rfl) ?_
  simp only [qz]
  refine rf_build (cs := fun a => #[.int .i64 0, .int .i64 0, .int .i64 0, .int .i64 0, a.eval (.tmp 53)]) rfl rfl Kx ?_
  simp only [qz]
  refine Rgn fun g11 => ?_
  simp only [qz]
  refine rf_storeR (n := 5) rfl rfl Kx rfl rfl (UpdR.here _ _ _ Nl) Nz ?_
  simp only [qz, Nat.reduceAdd]
  refine rg_nil (ek_next (wk_seq (wk_seq ?_)))
  refine wk_region [0] rfl Kx ?_
  simp only [qy]
  refine rg_assign ?_
  simp only [qz]
  refine rg_nil (ek_next (wk_block ?_))
  refine wk_unroll 4 ?_
  refine wk_seq (wk_seq ?_)
  refine wk_region [0, 0] rfl Kx ?_
  simp only [qy]
  refine rg_move ?_
  simp only [qz]
  refine rf_lss (b := true) rfl rfl rfl rfl (by decide) ?_
  simp only [qz]
  refine rg_nil (ek_next (wk_cond_t rfl (wk_skip (ek_next (wk_seq (wk_block (wk_seq ?_)))))))
  refine wk_region [0, 0, 0, 0, 1, 0, 0, 0, 0, 0] rfl Kx ?_
  simp only [qy]
  refine rg_move ?_
  simp only [qz]
  refine rf_field (n := 7) (j := 0) rfl rfl rfl Try.underlying70 rfl Kx rfl ?_
  simp only [qz]
  refine rf_indexA (n := 0) (sz := 2) (j := 0) rfl rfl rfl rfl Try.underlying68 Kx (by decide) rfl ?_
  simp only [qz]
  refine rf_loadR (n := 2) rfl rfl rfl Try.underlying67 rfl Kx (fun w hw => Kn.hd0 (Kn.tl (Kn.tlU (Kn.tl hw)))) rfl rfl ?_
  simp only [qz]
  cases hq0 : smB y.a
  · apply rg_pure Rx Kx
    case hargs => exact Ax
    case h => exact fun w hw => by have := bsmall_any y.a _ la w (hsk.a.at hw (List.Sublist.cons _ (List.sublist_append_left _ _))); rw [hq0] at this; exact this
    case hz => exact Nz
    simp only [qz]
    refine rg_move ?_
    simp only [qz]
    refine rf_extract rfl rfl rfl rfl ?_
    simp only [qz]
    refine rf_extract rfl rfl rfl rfl ?_
    simp only [qz]
    refine rg_assign ?_
    simp only [qz]
    refine rg_assign ?_
    simp only [qz]
    refine rg_nil (ek_next (wk_seq (wk_seq ?_)))
    refine wk_region [0, 0] rfl Kx ?_
    simp only [qy]
    refine rg_move ?_
    simp only [qz]
    refine rf_not rfl rfl rfl ?_
    simp only [qz]
    refine rg_nil (ek_next (wk_cond_t rfl (wk_seq ?_)))
    refine wk_region [0, 1, 0] rfl Kx ?_
    simp only [qy]
    refine rf_build (cs := fun a => #[.int .i64 0, .int .i64 0, .int .i64 0, .int .i64 0, .int .i64 0]) rfl rfl Kx ?_
    simp only [qz]
    refine rf_storeR (n := 5) rfl rfl Kx rfl rfl (UpdR.there _ (UpdR.app _ (UpdR.here _ _ _ Nl))) Nz ?_
    simp only [qz, Nat.reduceAdd]
    refine rg_assign ?_
    simp only [qz]
    refine rg_nil (ek_next (wk_ret (ek_then_ret (ek_block_ret (ek_then_ret (ek_then_ret (ek_block_ret (ek_then_ret ?_))))))))
    refine ek_ret (fun w hw => ⟨rfl, _, run_results2 rfl rfl (Kn.hd0 (Kn.tlU (Kn.tl hw))) Try.underlying45 rfl Kx, ?_⟩)
    (try simp only [qz])
    exact ⟨by unfold wnum; rw [← hyz.out]; unfold numOk; simp [*, Nm.zero], hw.below⟩
  apply rg_pure Rx Kx
  case hargs => exact Ax
  case h => exact fun w hw => by have := bsmall_any y.a _ la w (hsk.a.at hw (List.Sublist.cons _ (List.sublist_append_left _ _))); rw [hq0] at this; exact this
  case hz => exact Nz
  simp only [qz]
  refine rg_move ?_
  simp only [qz]
  refine rf_extract rfl rfl rfl rfl ?_
  simp only [qz]
  refine rf_extract rfl rfl rfl rfl ?_
  simp only [qz]
  refine rg_assign ?_
  simp only [qz]
  refine rg_assign ?_
  simp only [qz]
  refine rg_nil (ek_next (wk_seq (wk_seq ?_)))
  refine wk_region [0, 0] rfl Kx ?_
  simp only [qy]
  refine rg_move ?_
  simp only [qz]
  refine rf_not rfl rfl rfl ?_
  simp only [qz]
  refine rg_nil (ek_next (wk_cond_f rfl (wk_skip (ek_next ?_))))
  refine wk_region [0, 0, 0, 0, 1] rfl Kx ?_
  simp only [qy]
  refine rg_move ?_
  simp only [qz]
  refine rg_move ?_
  simp only [qz]
  refine rf_field (n := 3) (j := 0) rfl rfl rfl Try.underlying45 rfl Kx rfl ?_
  simp only [qz]
  refine rf_indexA (n := 0) (sz := 1) (j := 0) rfl rfl rfl rfl Try.underlying43 Kx (by decide) rfl ?_
  simp only [qz]
  refine rf_store rfl rfl Kx rfl rfl (UpdR.here _ _ _ Nl) Nz ?_
  simp only [qz]
  refine rg_nil (ek_block (ek_next ?_))
  refine wk_region [0, 0, 0] rfl Kx ?_
  simp only [qy]
  refine rg_move ?_
  simp only [qz]
  refine rf_add (r := 1) rfl rfl rfl rfl (by decide) ?_
  simp only [qz]
  refine rg_assign ?_
  simp only [qz]
  refine rg_nil (ek_again (wk_seq (wk_seq ?_)))
  refine wk_region [0, 0] rfl Kx ?_
  simp only [qy]
  refine rg_move ?_
  simp only [qz]
  refine rf_lss (b := true) rfl rfl rfl rfl (by decide) ?_
  simp only [qz]
  refine rg_nil (ek_next (wk_cond_t rfl (wk_skip (ek_next (wk_seq (wk_block (wk_seq ?_)))))))
  refine wk_region [0, 0, 0, 0, 1, 0, 0, 0, 0, 0] rfl Kx ?_
  simp only [qy]
  refine rg_move ?_
  simp only [qz]
  refine rf_field (n := 7) (j := 0) rfl rfl rfl Try.underlying70 rfl Kx rfl ?_
  simp only [qz]
  refine rf_indexA (n := 1) (sz := 2) (j := 2) rfl rfl rfl rfl Try.underlying68 Kx (by decide) rfl ?_
  simp only [qz]
  refine rf_loadR (n := 2) rfl rfl rfl Try.underlying67 rfl Kx (fun w hw => Kn.hd0 (Kn.tl (Kn.tlU (Kn.tl hw)))) rfl rfl ?_
  simp only [qz]
  cases hq1 : smB y.b
  · apply rg_pure Rx Kx
    case hargs => exact Ax
    case h => exact fun w hw => by have := bsmall_any y.b _ lb w (hsk.b.at hw (List.Sublist.cons _ (List.sublist_append_left _ _))); rw [hq1] at this; exact this
    case hz => exact Nz
    simp only [qz]
    refine rg_move ?_
    simp only [qz]
    refine rf_extract rfl rfl rfl rfl ?_
    simp only [qz]
    refine rf_extract rfl rfl rfl rfl ?_
    simp only [qz]
    refine rg_assign ?_
    simp only [qz]
    refine rg_assign ?_
    simp only [qz]
    refine rg_nil (ek_next (wk_seq (wk_seq ?_)))
    refine wk_region [0, 0] rfl Kx ?_
    simp only [qy]
    refine rg_move ?_
    simp only [qz]
    refine rf_not rfl rfl rfl ?_
    simp only [qz]
    refine rg_nil (ek_next (wk_cond_t rfl (wk_seq ?_)))
    refine wk_region [0, 1, 0] rfl Kx ?_
    simp only [qy]
    refine rf_build (cs := fun a => #[.int .i64 0, .int .i64 0, .int .i64 0, .int .i64 0, .int .i64 0]) rfl rfl Kx ?_
    simp only [qz]
    refine rf_storeR (n := 5) rfl rfl Kx rfl rfl (UpdR.there _ (UpdR.app _ (UpdR.here _ _ _ Nl))) Nz ?_
    simp only [qz, Nat.reduceAdd]
    refine rg_assign ?_
    simp only [qz]
    refine rg_nil (ek_next (wk_ret (ek_then_ret (ek_block_ret (ek_then_ret (ek_then_ret (ek_block_ret (ek_then_ret ?_))))))))
    refine ek_ret (fun w hw => ⟨rfl, _, run_results2 rfl rfl (Kn.hd0 (Kn.tlU (Kn.tl hw))) Try.underlying45 rfl Kx, ?_⟩)
    (try simp only [qz])
    exact ⟨by unfold wnum; rw [← hyz.out]; unfold numOk; simp [*, Nm.zero], hw.below⟩
  apply rg_pure Rx Kx
  case hargs => exact Ax
  case h => exact fun w hw => by have := bsmall_any y.b _ lb w (hsk.b.at hw (List.Sublist.cons _ (List.sublist_append_left _ _))); rw [hq1] at this; exact this
  case hz => exact Nz
  simp only [qz]
  refine rg_move ?_
  simp only [qz]
  refine rf_extract rfl rfl rfl rfl ?_
  simp only [qz]
  refine rf_extract rfl rfl rfl rfl ?_
  simp only [qz]
  refine rg_assign ?_
  simp only [qz]
  refine rg_assign ?_
  simp only [qz]
  refine rg_nil (ek_next (wk_seq (wk_seq ?_)))
  refine wk_region [0, 0] rfl Kx ?_
  simp only [qy]
  refine rg_move ?_
  simp only [qz]
  refine rf_not rfl rfl rfl ?_
  simp only [qz]
  refine rg_nil (ek_next (wk_cond_f rfl (wk_skip (ek_next ?_))))
  refine wk_region [0, 0, 0, 0, 1] rfl Kx ?_
  simp only [qy]
  refine rg_move ?_
  simp only [qz]
  refine rg_move ?_
  simp only [qz]
  refine rf_field (n := 3) (j := 0) rfl rfl rfl Try.underlying45 rfl Kx rfl ?_
  simp only [qz]
  refine rf_indexA (n := 1) (sz := 1) (j := 1) rfl rfl rfl rfl Try.underlying43 Kx (by decide) rfl ?_
  simp only [qz]
  refine rf_store rfl rfl Kx rfl rfl (UpdR.here _ _ _ Nl) Nz ?_
  simp only [qz]
  refine rg_nil (ek_block (ek_next ?_))
  refine wk_region [0, 0, 0] rfl Kx ?_
  simp only [qy]
  refine rg_move ?_
  simp only [qz]
  refine rf_add (r := 2) rfl rfl rfl rfl (by decide) ?_
  simp only [qz]
  refine rg_assign ?_
  simp only [qz]
  refine rg_nil (ek_again (wk_seq (wk_seq ?_)))
  refine wk_region [0, 0] rfl Kx ?_
  simp only [qy]
  refine rg_move ?_
  simp only [qz]
  refine rf_lss (b := true) rfl rfl rfl rfl (by decide) ?_
  simp only [qz]
  refine rg_nil (ek_next (wk_cond_t rfl (wk_skip (ek_next (wk_seq (wk_block (wk_seq ?_)))))))
  refine wk_region [0, 0, 0, 0, 1, 0, 0, 0, 0, 0] rfl Kx ?_
  simp only [qy]
  refine rg_move ?_
  simp only [qz]
  refine rf_field (n := 7) (j := 0) rfl rfl rfl Try.underlying70 rfl Kx rfl ?_
  simp only [qz]
  refine rf_indexA (n := 2) (sz := 2) (j := 4) rfl rfl rfl rfl Try.underlying68 Kx (by decide) rfl ?_
  simp only [qz]
  refine rf_loadR (n := 2) rfl rfl rfl Try.underlying67 rfl Kx (fun w hw => Kn.hd0 (Kn.tl (Kn.tlU (Kn.tl hw)))) rfl rfl ?_
  simp only [qz]
  cases hq2 : smB y.c
  · apply rg_pure Rx Kx
    case hargs => exact Ax
    case h => exact fun w hw => by have := bsmall_any y.c _ lc w (hsk.c.at hw (List.Sublist.cons _ (List.sublist_append_left _ _))); rw [hq2] at this; exact this
    case hz => exact Nz
    simp only [qz]
    refine rg_move ?_
    simp only [qz]
    refine rf_extract rfl rfl rfl rfl ?_
    simp only [qz]
    refine rf_extract rfl rfl rfl rfl ?_
    simp only [qz]
    refine rg_assign ?_
    simp only [qz]
    refine rg_assign ?_
    simp only [qz]
    refine rg_nil (ek_next (wk_seq (wk_seq ?_)))
    refine wk_region [0, 0] rfl Kx ?_
    simp only [qy]
    refine rg_move ?_
    simp only [qz]
    refine rf_not rfl rfl rfl ?_
    simp only [qz]
    refine rg_nil (ek_next (wk_cond_t rfl (wk_seq ?_)))
    refine wk_region [0, 1, 0] rfl Kx ?_
    simp only [qy]
    refine rf_build (cs := fun a => #[.int .i64 0, .int .i64 0, .int .i64 0, .int .i64 0, .int .i64 0]) rfl rfl Kx ?_
    simp only [qz]
    refine rf_storeR (n := 5) rfl rfl Kx rfl rfl (UpdR.there _ (UpdR.app _ (UpdR.here _ _ _ Nl))) Nz ?_
    simp only [qz, Nat.reduceAdd]
    refine rg_assign ?_
    simp only [qz]
    refine rg_nil (ek_next (wk_ret (ek_then_ret (ek_block_ret (ek_then_ret (ek_then_ret (ek_block_ret (ek_then_ret ?_))))))))
    refine ek_ret (fun w hw => ⟨rfl, _, run_results2 rfl rfl (Kn.hd0 (Kn.tlU (Kn.tl hw))) Try.underlying45 rfl Kx, ?_⟩)
    (try simp only [qz])
    exact ⟨by unfold wnum; rw [← hyz.out]; unfold numOk; simp [*, Nm.zero], hw.below⟩
  apply rg_pure Rx Kx
  case hargs => exact Ax
  case h => exact fun w hw => by have := bsmall_any y.c _ lc w (hsk.c.at hw (List.Sublist.cons _ (List.sublist_append_left _ _))); rw [hq2] at this; exact this
  case hz => exact Nz
  simp only [qz]
  refine rg_move ?_
  simp only [qz]
  refine rf_extract rfl rfl rfl rfl ?_
  simp only [qz]
  refine rf_extract rfl rfl rfl rfl ?_
  simp only [qz]
  refine rg_assign ?_
  simp only [qz]
  refine rg_assign ?_
  simp only [qz]
  refine rg_nil (ek_next (wk_seq (wk_seq ?_)))
  refine wk_region [0, 0] rfl Kx ?_
  simp only [qy]
  refine rg_move ?_
  simp only [qz]
  refine rf_not rfl rfl rfl ?_
  simp only [qz]
  refine rg_nil (ek_next (wk_cond_f rfl (wk_skip (ek_next ?_))))
  refine wk_region [0, 0, 0, 0, 1] rfl Kx ?_
  simp only [qy]
  refine rg_move ?_
  simp only [qz]
  refine rg_move ?_
  simp only [qz]
  refine rf_field (n := 3) (j := 0) rfl rfl rfl Try.underlying45 rfl Kx rfl ?_
  simp only [qz]
  refine rf_indexA (n := 2) (sz := 1) (j := 2) rfl rfl rfl rfl Try.underlying43 Kx (by decide) rfl ?_
  simp only [qz]
  refine rf_store rfl rfl Kx rfl rfl (UpdR.here _ _ _ Nl) Nz ?_
  simp only [qz]
  refine rg_nil (ek_block (ek_next ?_))
  refine wk_region [0, 0, 0] rfl Kx ?_
  simp only [qy]
  refine rg_move ?_
  simp only [qz]
  refine rf_add (r := 3) rfl rfl rfl rfl (by decide) ?_
  simp only [qz]
  refine rg_assign ?_
  simp only [qz]
  refine rg_nil (ek_again (wk_seq (wk_seq ?_)))
  refine wk_region [0, 0] rfl Kx ?_
  simp only [qy]
  refine rg_move ?_
  simp only [qz]
  refine rf_lss (b := true) rfl rfl rfl rfl (by decide) ?_
  simp only [qz]
  refine rg_nil (ek_next (wk_cond_t rfl (wk_skip (ek_next (wk_seq (wk_block (wk_seq ?_)))))))
  refine wk_region [0, 0, 0, 0, 1, 0, 0, 0, 0, 0] rfl Kx ?_
  simp only [qy]
  refine rg_move ?_
  simp only [qz]
  refine rf_field (n := 7) (j := 0) rfl rfl rfl Try.underlying70 rfl Kx rfl ?_
  simp only [qz]
  refine rf_indexA (n := 3) (sz := 2) (j := 6) rfl rfl rfl rfl Try.underlying68 Kx (by decide) rfl ?_
  simp only [qz]
  refine rf_loadR (n := 2) rfl rfl rfl Try.underlying67 rfl Kx (fun w hw => Kn.hd0 (Kn.tl (Kn.tlU (Kn.tl hw)))) rfl rfl ?_
  simp only [qz]
  cases hq3 : smB y.d
  · apply rg_pure Rx Kx
    case hargs => exact Ax
    case h => exact fun w hw => by have := bsmall_any y.d _ ld w (hsk.d.at hw (List.Sublist.cons _ (List.sublist_append_left _ _))); rw [hq3] at this; exact this
    case hz => exact Nz
    simp only [qz]
    refine rg_move ?_
    simp only [qz]
    refine rf_extract rfl rfl rfl rfl ?_
    simp only [qz]
    refine rf_extract rfl rfl rfl rfl ?_
    simp only [qz]
    refine rg_assign ?_
    simp only [qz]
    refine rg_assign ?_
    simp only [qz]
    refine rg_nil (ek_next (wk_seq (wk_seq ?_)))
    refine wk_region [0, 0] rfl Kx ?_
    simp only [qy]
    refine rg_move ?_
    simp only [qz]
    refine rf_not rfl rfl rfl ?_
    simp only [qz]
    refine rg_nil (ek_next (wk_cond_t rfl (wk_seq ?_)))
    refine wk_region [0, 1, 0] rfl Kx ?_
    simp only [qy]
    refine rf_build (cs := fun a => #[.int .i64 0, .int .i64 0, .int .i64 0, .int .i64 0, .int .i64 0]) rfl rfl Kx ?_
    simp only [qz]
    refine rf_storeR (n := 5) rfl rfl Kx rfl rfl (UpdR.there _ (UpdR.app _ (UpdR.here _ _ _ Nl))) Nz ?_
    simp only [qz, Nat.reduceAdd]
    refine rg_assign ?_
    simp only [qz]
    refine rg_nil (ek_next (wk_ret (ek_then_ret (ek_block_ret (ek_then_ret (ek_then_ret (ek_block_ret (ek_then_ret ?_))))))))
    refine ek_ret (fun w hw => ⟨rfl, _, run_results2 rfl rfl (Kn.hd0 (Kn.tlU (Kn.tl hw))) Try.underlying45 rfl Kx, ?_⟩)
    (try simp only [qz])
    exact ⟨by unfold wnum; rw [← hyz.out]; unfold numOk; simp [*, Nm.zero], hw.below⟩
  apply rg_pure Rx Kx
  case hargs => exact Ax
  case h => exact fun w hw => by have := bsmall_any y.d _ ld w (hsk.d.at hw (List.Sublist.cons _ (List.sublist_append_left _ _))); rw [hq3] at this; exact this
  case hz => exact Nz
  simp only [qz]
  refine rg_move ?_
  simp only [qz]
  refine rf_extract rfl rfl rfl rfl ?_
  simp only [qz]
  refine rf_extract rfl rfl rfl rfl ?_
  simp only [qz]
  refine rg_assign ?_
  simp only [qz]
  refine rg_assign ?_
  simp only [qz]
  refine rg_nil (ek_next (wk_seq (wk_seq ?_)))
  refine wk_region [0, 0] rfl Kx ?_
  simp only [qy]
  refine rg_move ?_
  simp only [qz]
  refine rf_not rfl rfl rfl ?_
  simp only [qz]
  refine rg_nil (ek_next (wk_cond_f rfl (wk_skip (ek_next ?_))))
  refine wk_region [0, 0, 0, 0, 1] rfl Kx ?_
  simp only [qy]
  refine rg_move ?_
  simp only [qz]
  refine rg_move ?_
  simp only [qz]
  refine rf_field (n := 3) (j := 0) rfl rfl rfl Try.underlying45 rfl Kx rfl ?_
  simp only [qz]
  refine rf_indexA (n := 3) (sz := 1) (j := 3) rfl rfl rfl rfl Try.underlying43 Kx (by decide) rfl ?_
  simp only [qz]
  refine rf_store rfl rfl Kx rfl rfl (UpdR.here _ _ _ Nl) Nz ?_
  simp only [qz]
  refine rg_nil (ek_block (ek_next ?_))
  refine wk_region [0, 0, 0] rfl Kx ?_
  simp only [qy]
  refine rg_move ?_
  simp only [qz]
  refine rf_add (r := 4) rfl rfl rfl rfl (by decide) ?_
  simp only [qz]
  refine rg_assign ?_
  simp only [qz]
  refine rg_nil (ek_again (wk_seq (wk_seq ?_)))
  refine wk_region [0, 0] rfl Kx ?_
  simp only [qy]
  refine rg_move ?_
  simp only [qz]
  refine rf_lss (b := false) rfl rfl rfl rfl (by decide) ?_
  simp only [qz]
  refine rg_nil (ek_next (wk_cond_f rfl (wk_exit (ek_then_exit (ek_then_exit (ek_block_exit (ek_next (wk_seq ?_))))))))
  refine wk_draws_m (hz1 := (sc _ (List.Sublist.append_left (sk _ (sc _ sn)) _))) [(0, 0), (1, 3), (2, 3), (3, 3), (4, 2), (5, 0)] 4 Kx Kx (fun c d v a w h => by cases d <;> exact h) ?_
  simp only [List.map_cons, List.map_nil, List.getD_cons_zero, List.getD_cons_succ]
  refine rf_loadR (n := 5) rfl rfl rfl Try.underlying45 rfl Kx (fun w hw => Kn.hd0 hw) rfl rfl ?_
  simp only [qz]
  refine rf_field (n := 0) (j := 8) rfl rfl rfl Try.underlying70 rfl Kx rfl ?_
  simp only [qz]
  refine rf_load rfl rfl rfl Try.underlying3 rfl (fun w hw => (Kn.hd0 (Kn.tlU (Kn.tl hw))).at rfl) ?_
  simp only [qz]
  refine rf_leq rfl rfl rfl rfl rfl ?_
  simp only [qz]
  refine rf_storeRM (n := 5) rfl rfl Kx rfl rfl (UpdR.there _ (UpdR.app _ (UpdR.here _ _ _ Nl))) (sc _ (List.Sublist.append_left (sk _ (sc _ sn)) _)) ?_
  simp only [qz, Nat.reduceAdd]
  refine rg_assign ?_
  simp only [qz]
  refine rg_nil (ek_next (wk_ret ?_))
  refine ek_ret (fun w hw => ⟨rfl, _, run_results2 rfl rfl (Kn.hd0 (Kn.tlU (Kn.tl hw))) Try.underlying45 rfl Kx, ?_⟩)
  (try simp only [qz])
  exact ⟨by unfold wnum; rw [← hyz.out]; unfold numOk; simp [*, Nm.zero], hw.below⟩

end Go.Proofs.Ytccbinnlnkpplaa
namespace Go.Proofs.Ytccbinnlnkpplaa
set_option linter.all false
open Go.RowKit

theorem mbar_z {n : Nat} {z : Nm} (h : barR n = .ok z) (w : World) : Calls Try.prog 27 #[.int .i64 (n : Int)] w fun e w' => e = .returned (.tuple #[nmV z, .int .i64 0]) ∧ Below w.heap.size w w' := by
  have := mbar_any (n : Int) w
  rw [h] at this
  exact this
theorem msw_z {n : Nat} (h : n ≤ 7) (w : World) : Calls Try.prog 25 #[.int .i64 1, .int .i64 (n : Int)] w fun e w' => RetS w (swI 1 n) 0 e w' := by
  have := mswitch_any 1 (n : Int) w
  obtain ⟨e1, e2⟩ := sw_yes (at_ := 1) (n := (n : Int)) Ox
  rw [e1, e2] at this
  exact this
theorem mo_z {n : Nat} (h : n ≤ 7) {l p : List Nm} {z0 z1 : Nm} {K : Int} (hB : Bar n l p z0 z1 K) (a : Option Addr) (c : Nat) (w : World) (hA : AS w a (its (swI 1 n))) : Calls Try.prog 37 #[.int .i64 2, .slice a (swI 1 n).length c] w fun e w' => RetM w 2 l 0 e w' := by
  have := matrixOf_any 2 (swI 1 (n : Int)) a c w hA
  have hmo : matO 2 (swI 1 (n : Int)) = .ok l := by unfold matO; rw [if_pos (sw_item Ox)]; exact hB.mat
  rw [hmo] at this
  exact this
theorem un_z {n : Nat} {l p : List Nm} {z0 z1 : Nm} {K : Int} (hB : Bar n l p z0 z1 K) (a : Option Addr) (c : Nat) (w : World) (hA : AS w a (nms l)) : Calls Try.prog 48 #[.agg #[.int .i64 2, .slice a l.length c]] w fun e w' => e = .returned (.tuple #[.bool true, .int .i64 0]) ∧ Below w.heap.size w w' := by
  obtain ⟨k0, k1, k2⟩ := hB.le
  refine (unitary_walk 2 K l a c (by decide) (by decide) (Lib.hid hB.len) (by rw [hB.len]; decide) hB.ok (Lib.hid hB.val) (Lib.hid hB.exp) k0 k1 k2 w hA).mono fun e w' ⟨b, he, hb, hw⟩ => ⟨?_, hw⟩
  rw [he, hb.2 hB.unit]
theorem pw_z {n : Nat} {l p : List Nm} {z0 z1 : Nm} {K : Int} (hB : Bar n l p z0 z1 K) (a : Option Addr) (c : Nat) (w : World) (hA : AS w a (nms l)) : Calls Try.prog 49 #[.agg #[.int .i64 2, .slice a l.length c]] w fun e w' => RetM w 2 p 0 e w' := by
  have := mpowers_any 2 l a c (by rw [hB.len]; decide) w hA
  rw [hB.pow] at this
  exact this
theorem vn_z {z : Nm} (h : z.okB = true) (w : World) : Calls Try.prog 50 #[nmV z] w fun e w' => e = .returned (.bool true) ∧ Below w.heap.size w w' := by
  have := rValidNum_any z w
  rw [h] at this
  exact this
set_option maxRecDepth 100000 in
set_option maxHeartbeats 1000000 in
theorem rOneB_any  (w : World) : Calls Try.prog 54 #[] w fun e w' => e = .returned (.agg #[.int .i64 1, .int .i64 0, .int .i64 0, .int .i64 0, .int .i64 0]) ∧ Below w.heap.size w w' := by
  go_enter Try.func54, Try.ntmps54
  refine wk_start ?_
  refine wk_seq ?_
  refine wk_region [1] rfl Kx ?_
  simp only [qy]
  refine Rgn fun g1 => ?_
  simp only [qz]
  refine rg_nil (ek_next (wk_seq ?_))
  refine wk_region [0, 0, 1] rfl Kx ?_
  simp only [qy]
  refine rf_build (cs := fun a => #[a.eval (.const (.int .i64 1)), .int .i64 0, .int .i64 0, .int .i64 0]) rfl rfl Kx ?_
  simp only [qz]
  refine rf_build (cs := fun a => #[cellAt (a.eval (.tmp 1)) 0, cellAt (a.eval (.tmp 1)) 1, cellAt (a.eval (.tmp 1)) 2, cellAt (a.eval (.tmp 1)) 3, .int .i64 0]) rfl rfl Kx ?_
  simp only [qz]
  refine rf_storeR (n := 5) rfl rfl Kx rfl rfl (UpdR.here _ _ _ Nl) Nz ?_
  simp only [qz, Nat.reduceAdd]
  refine rg_nil (ek_next (wk_ret ?_))
  refine ek_ret (fun w hw => ⟨rfl, _, run_results1 rfl rfl (Kn.hd0 hw) Try.underlying45 rfl Kx, ?_⟩)
  (try simp only [qz])
  first | exact ⟨rfl, hw.below⟩ | exact ⟨trivial, hw.below⟩ | exact hw.below

set_option maxRecDepth 100000 in
set_option maxHeartbeats 1000000 in
theorem synthBars_any (m : Nat) (hm : m ≤ 255) (w : World) : Calls Try.prog 12 #[.int .u8 (m : Int)] w fun e w' => e = .returned (.bool true) ∧ Below w.heap.size w w' := by
  obtain ⟨k, hk⟩ : ∃ k, m % 8 = k := ⟨_, rfl⟩
  have hk7 : k ≤ 7 := by omega
  have hrem : ((m : Int)).tmod 8 = (k : Int) := by rw [← hk]; rfl
  obtain ⟨k2, hk2⟩ : ∃ j, (8 - k) % 8 = j := ⟨_, rfl⟩
  have hrem2 : (8 - (k : Int)).tmod 8 = (k2 : Int) := by rw [show (8 - (k : Int)) = ((8 - k : Nat) : Int) by omega, ← hk2]; rfl
  obtain ⟨l, p, z0, z1, K, hB⟩ := bars k hk7
  have hmir := hB.mir
  rw [hk2] at hmir
  have hll := hB.len
  have hpl := hB.pln
  have hz0 := okB_iff.1 hB.ok0
  have hz1 := okB_iff.1 hB.ok1
  replace hmir := Lib.hid hmir
  replace hrem := Lib.hid hrem
  replace hrem2 := Lib.hid hrem2
  go_enter Try.func12, Try.ntmps12
  refine wk_start ?_
  refine wk_seq ?_
  refine wk_region [0] rfl Kx ?_
  simp only [qy]
  refine rg_assign ?_
  simp only [qz]
  refine rg_nil (ek_next (wk_seq ?_))
  refine wk_region [0, 0, 0, 0] rfl Kx ?_
  simp only [qy]
  refine rg_move ?_
  simp only [qz]
  refine rf_rem (r := ((k : Int) : Int)) rfl rfl rfl rfl (by decide) hrem.out ?_
  simp only [qz]
  refine rf_conv rfl rfl rfl Try.underlying5 Try.underlying3 (wrap_ok Ox Ox) ?_
  simp only [qz]
  refine rg_assign ?_
  simp only [qz]
  refine rg_nil (ek_next (wk_seq ?_))
  refine wk_region [0, 1, 0, 0, 0, 1, 1, 0] rfl Kx ?_
  simp only [qy]
  refine rg_move ?_
  simp only [qz]
  apply rg_pure Rx Kx
  case hargs => exact Ax
  case h => exact fun w hw => mbar_z hB.bar w
  case hz => exact Nz
  simp only [qz]
  refine rg_move ?_
  simp only [qz]
  refine rf_extract rfl rfl rfl rfl ?_
  simp only [qz]
  refine rf_extract rfl rfl rfl rfl ?_
  simp only [qz]
  refine Rgn fun g1 => ?_
  simp only [qz]
  refine rf_storeR (n := 5) rfl rfl Kx rfl rfl (UpdR.here _ _ _ Nl) Nz ?_
  simp only [qz, Nat.reduceAdd]
  refine rg_assign ?_
  simp only [qz]
  refine rg_nil (ek_next (wk_seq ?_))
  refine wk_region [0, 0, 0, 1, 0, 0, 0, 1, 1, 0] rfl Kx ?_
  simp only [qy]
  refine rg_move ?_
  simp only [qz]
  refine rf_sub rfl rfl rfl rfl (wrap_ok Ox Ox) ?_
  simp only [qz]
  refine rf_rem (r := ((k2 : Int) : Int)) rfl rfl rfl rfl (by decide) hrem2.out ?_
  simp only [qz]
  apply rg_pure Rx Kx
  case hargs => exact Ax
  case h => exact fun w hw => mbar_z hmir.out w
  case hz => exact Nz
  simp only [qz]
  refine rg_move ?_
  simp only [qz]
  refine rf_extract rfl rfl rfl rfl ?_
  simp only [qz]
  refine rf_extract rfl rfl rfl rfl ?_
  simp only [qz]
  refine Rgn fun g2 => ?_
  simp only [qz]
  refine rf_storeR (n := 5) rfl rfl Kx rfl rfl (UpdR.here _ _ _ Nl) Nz ?_
  simp only [qz, Nat.reduceAdd]
  refine rg_assign ?_
  simp only [qz]
  refine rg_nil (ek_next (wk_seq ?_))
  refine wk_region [0, 1, 0, 0, 0, 0, 0] rfl Kx ?_
  simp only [qy]
  refine rg_move ?_
  simp only [qz]
  apply (rg_retS (L := swI 1 k) (cc := 0)) Rx Kx
  case hargs => exact Ax
  case h => exact fun w hw => msw_z hk7 w
  case hz => exact Nz
  intro va3 vc3 u3 hO3
  simp only [qz]
  refine rg_move ?_
  simp only [qz]
  refine rf_extract rfl rfl rfl rfl ?_
  simp only [qz]
  refine rf_extract rfl rfl rfl rfl ?_
  simp only [qz]
  refine rg_assign ?_
  simp only [qz]
  refine rg_assign ?_
  simp only [qz]
  refine rg_nil (ek_next (wk_seq (wk_seq ?_)))
  refine wk_region [0, 0, 0, 0, 0, 0, 0, 0, 0, 0, 0, 0, 0, 0, 0] rfl Kx ?_
  simp only [qy]
  refine rg_move ?_
  simp only [qz]
  refine rf_neq (b := false) rfl rfl rfl rfl (by decide) ?_
  simp only [qz]
  refine rg_move ?_
  simp only [qz]
  apply rg_soft_g
  case hg => rfl
  case hy => (intro w hw; go_simp; (try go_bits); exact Yld.mk _ _)
  simp only [qz]
  refine rf_neq (b := false) rfl rfl rfl rfl (by decide) ?_
  simp only [qz]
  refine rf_pick rfl rfl rfl ?_
  simp only [qz]
  refine rg_move ?_
  simp only [qz]
  apply rg_soft_g
  case hg => rfl
  case hy => (intro w hw; go_simp; (try go_bits); exact Yld.mk _ _)
  simp only [qz]
  refine rf_neq (b := false) rfl rfl rfl rfl (by decide) ?_
  simp only [qz]
  refine rf_pick rfl rfl rfl ?_
  simp only [qz]
  refine rg_move ?_
  simp only [qz]
  refine rf_loadR (n := 5) rfl rfl rfl Try.underlying45 rfl Kx (fun w hw => Kn.hd0 (Kn.tl (Kn.tlU hw))) rfl rfl ?_
  simp only [qz]
  refine rf_loadR (n := 5) rfl rfl rfl Try.underlying45 rfl Kx (fun w hw => Kn.hd0 (Kn.tlU hw)) rfl rfl ?_
  simp only [qz]
  refine rfb_neN z0 z0 rfl rfl rfl rfl ?_
  intro x h1
  cases x
  · (try simp only [qd, ne_eq] at h1)
    simp only [qz]
    refine rf_pick rfl rfl rfl ?_
    simp only [qz]
    refine rg_nil (ek_next (wk_cond_f rfl (wk_skip (ek_next (wk_seq ?_)))))
    refine wk_region [0, 1, 0, 0, 0, 1, 1, 0] rfl Kx ?_
    simp only [qy]
    refine rg_move ?_
    simp only [qz]
    apply (rg_retM (n := 2) (zs := l) (c := 0)) Rx Kx
    case hargs => exact Ax
    case h => exact fun w hw => mo_z hk7 hB va3 vc3 w (hO3.asT (hw.perm (List.Perm.refl _)))
    case hz => exact Nz
    intro va4 vc4 u4 hO4
    simp only [qz]
    refine rg_move ?_
    simp only [qz]
    refine rf_extract rfl rfl rfl rfl ?_
    simp only [qz]
    refine rf_extract rfl rfl rfl rfl ?_
    simp only [qz]
    refine Rgn fun g5 => ?_
    simp only [qz]
    refine rf_storeR (n := 2) rfl rfl Kx rfl rfl (UpdR.here _ _ _ Nl) Nz ?_
    simp only [qz, Nat.reduceAdd]
    refine rg_assign ?_
    simp only [qz]
    refine rg_nil (ek_next (wk_seq ?_))
    refine wk_region [0, 1, 0, 0, 0, 0, 0] rfl Kx ?_
    simp only [qy]
    refine rf_loadR (n := 2) rfl rfl rfl Try.underlying38 rfl Kx (fun w hw => Kn.hd0 hw) rfl rfl ?_
    simp only [qz]
    apply rg_pure Rx Kx
    case hargs => exact Ax
    case h => exact fun w hw => un_z hB va4 vc4 w (hO4.asM (hw.perm (perm_atU (l := [_]) (u := u4) (List.Perm.refl _))))
    case hz => exact Nz
    simp only [qz]
    refine rg_move ?_
    simp only [qz]
    refine rf_extract rfl rfl rfl rfl ?_
    simp only [qz]
    refine rf_extract rfl rfl rfl rfl ?_
    simp only [qz]
    refine rg_assign ?_
    simp only [qz]
    refine rg_assign ?_
    simp only [qz]
    refine rg_nil (ek_next (wk_seq ?_))
    refine wk_region [0, 1, 0, 0, 0, 1, 1, 0] rfl Kx ?_
    simp only [qy]
    refine rf_loadR (n := 2) rfl rfl rfl Try.underlying38 rfl Kx (fun w hw => Kn.hd0 hw) rfl rfl ?_
    simp only [qz]
    apply (rg_retM (n := 2) (zs := p) (c := 0)) Rx Kx
    case hargs => exact Ax
    case h => exact fun w hw => pw_z hB va4 vc4 w (hO4.asM (hw.perm (perm_atU (l := [_]) (u := u4) (List.Perm.refl _))))
    case hz => exact Nz
    intro va6 vc6 u6 hO6
    simp only [qz]
    refine rg_move ?_
    simp only [qz]
    refine rf_extract rfl rfl rfl rfl ?_
    simp only [qz]
    refine rf_extract rfl rfl rfl rfl ?_
    simp only [qz]
    refine Rgn fun g7 => ?_
    simp only [qz]
    refine rf_storeR (n := 2) rfl rfl Kx rfl rfl (UpdR.here _ _ _ Nl) Nz ?_
    simp only [qz, Nat.reduceAdd]
    refine rg_assign ?_
    simp only [qz]
    refine rg_nil (ek_next (wk_seq (wk_seq ?_)))
    obtain ⟨go, capo, resto, hu, hvo, -, -, -⟩ := hO6.openM (by rw [hpl]; decide)
    subst hu
    cases hvo
    simp only [List.cons_append, List.nil_append]
    refine wk_draws _ _ [(0, 0), (1, 0), (2, 0), (3, 0), (4, 0), (5, 0), (6, 0), (7, 0), (8, 0), (9, 0), (10, 0), (11, 0), (12, 0), (13, 0), (14, 0), (15, 0), (16, 0), (17, 0), (18, 0), (19, 0), (20, 0), (21, 0), (22, 0), (23, 0), (24, 0), (25, 0), (26, 0), (27, 0), (28, 0), (29, 0), (30, 0), (31, 0), (32, 0), (33, 1), (34, 0), (35, 0)] [] Kx Kx (fun c d v a w h => by cases d <;> exact h) ((sc _ (sc _ (sc _ (List.Sublist.append_left (List.Sublist.append_left (sc _ (sc _ sn)) _) _))))) (fun e => by first | exact absurd e (by decide) | rfl) ?_
    simp only [List.map_cons, List.map_nil, List.getD_cons_zero, List.getD_cons_succ]
    refine rg_move ?_
    simp only [qz]
    refine rf_neq (b := false) rfl rfl rfl rfl (by decide) ?_
    simp only [qz]
    refine rg_move ?_
    simp only [qz]
    apply rg_soft_g
    case hg => rfl
    case hy => (intro w hw; go_simp; (try go_bits); exact Yld.mk _ _)
    simp only [qz]
    refine rf_neq (b := false) rfl rfl rfl rfl (by decide) ?_
    simp only [qz]
    refine rf_pick rfl rfl rfl ?_
    simp only [qz]
    refine rg_move ?_
    simp only [qz]
    apply rg_soft_g
    case hg => rfl
    case hy => (intro w hw; go_simp; (try go_bits); exact Yld.mk _ _)
    simp only [qz]
    refine rf_neq (b := false) rfl rfl rfl rfl (by decide) ?_
    simp only [qz]
    refine rf_pick rfl rfl rfl ?_
    simp only [qz]
    refine rg_move ?_
    simp only [qz]
    apply rg_soft_g
    case hg => rfl
    case hy => (intro w hw; go_simp; (try go_bits); exact Yld.mk _ _)
    simp only [qz]
    refine rf_not rfl rfl rfl ?_
    simp only [qz]
    refine rf_pick rfl rfl rfl ?_
    simp only [qz]
    refine rg_move ?_
    simp only [qz]
    refine rf_field (n := 0) (j := 1) rfl rfl rfl Try.underlying38 rfl Kx rfl ?_
    simp only [qz]
    refine rf_load rfl rfl rfl Try.underlying36 rfl (fun w hw => (Kn.hd0 hw).at rfl) ?_
    simp only [qz]
    refine rf_len rfl rfl rfl Try.underlying36 ?_
    simp only [qz]
    refine rfb_neq rfl rfl rfl rfl ?_
    intro x h2
    obtain rfl : x = false := by (refine h2.symm.trans ?_; exact decide_eq_false Ox)
    clear h2
    simp only [qz]
    refine rf_pick rfl rfl rfl ?_
    simp only [qz]
    refine rg_move ?_
    simp only [qz]
    refine rf_field (n := 0) (j := 1) rfl rfl rfl Try.underlying38 rfl Kx rfl ?_
    simp only [qz]
    refine rf_load rfl rfl rfl Try.underlying36 rfl (fun w hw => (Kn.hd0 hw).at rfl) ?_
    simp only [qz]
    refine rf_indexS (n := 0) (sz := 5) (j := 0 + 0 * 5) rfl rfl rfl rfl Try.underlying36 Kx Rx (by rw [hpl]; decide) rfl ?_
    simp only [qz]
    refine rf_loadC (n := 5) (vs := nmC z0) rfl rfl rfl Try.underlying45 rfl Kx rfl (fun w hw => by have h := fl_range (E := NmE) (Kn.hd0 (Kn.tl hw)) (k := 0) (by rw [hpl]; decide); rw [show NmE.at p 0 = z0 from hB.at0] at h; exact h) ?_
    simp only [qz]
    refine rf_loadR (n := 5) rfl rfl rfl Try.underlying45 rfl Kx (fun w hw => Kn.hd0 (Kn.tl (Kn.tlU (Kn.tlU (Kn.tl (Kn.tl (Kn.tl hw))))))) rfl rfl ?_
    simp only [qz]
    refine rfb_neN z0 z0 rfl rfl rfl rfl ?_
    intro x h3
    cases x
    · (try simp only [qd, ne_eq] at h3)
      simp only [qz]
      refine rf_pick rfl rfl rfl ?_
      simp only [qz]
      refine rg_move ?_
      simp only [qz]
      refine rf_field (n := 0) (j := 1) rfl rfl rfl Try.underlying38 rfl Kx rfl ?_
      simp only [qz]
      refine rf_load rfl rfl rfl Try.underlying36 rfl (fun w hw => (Kn.hd0 hw).at rfl) ?_
      simp only [qz]
      refine rf_indexS (n := 1) (sz := 5) (j := 0 + 1 * 5) rfl rfl rfl rfl Try.underlying36 Kx Rx (by rw [hpl]; decide) rfl ?_
      simp only [qz]
      refine rf_loadC (n := 5) (vs := nmC z1) rfl rfl rfl Try.underlying45 rfl Kx rfl (fun w hw => by have h := fl_range (E := NmE) (Kn.hd0 (Kn.tl hw)) (k := 1) (by rw [hpl]; decide); rw [show NmE.at p 1 = z1 from hB.at1] at h; exact h) ?_
      simp only [qz]
      apply rg_pure Rx Kx
      case hargs => exact Ax
      case h => exact fun w hw => vn_z hB.ok1 w
      case hz => exact (fun _ h => by cases h; exact (sc _ (sc _ (sc _ (List.Sublist.append_left (List.Sublist.append_left (sc _ (sc _ sn)) _) _)))))
      simp only [qz]
      refine rf_not rfl rfl rfl ?_
      simp only [qz]
      refine rf_pick rfl rfl rfl ?_
      simp only [qz]
      refine rg_nil (ek_next (wk_cond_f rfl (wk_skip (ek_next (wk_seq ?_)))))
      refine wk_rt _ Kx (sc _ (sc _ (sc _ (List.Sublist.append_left (List.Sublist.append_left (sc _ (sc _ sn)) _) _)))) ?_
      refine rt_soft (i := 0) rfl Kx (fun c d v a w h => by cases d <;> exact h) (sc _ (sc _ (sc _ (List.Sublist.append_left (List.Sublist.append_left (sc _ (sc _ sn)) _) _)))) ?_
      refine rf_field (n := 0) (j := 1) rfl rfl rfl Try.underlying38 rfl Kx rfl ?_
      simp only [qz]
      refine rg_nil ?_
      refine ek_rt (sc _ (sc _ (sc _ (List.Sublist.append_left (List.Sublist.append_left (sc _ (sc _ sn)) _) _)))) ?_
      refine rt_soft (i := 1) rfl Kx (fun c d v a w h => by cases d <;> exact h) (sc _ (sc _ (sc _ (List.Sublist.append_left (List.Sublist.append_left (sc _ (sc _ sn)) _) _)))) ?_
      refine rf_load rfl rfl rfl Try.underlying36 rfl (fun w hw => (Kn.hd0 hw).at rfl) ?_
      simp only [qz]
      refine rg_nil ?_
      refine ek_rt (sc _ (sc _ (sc _ (List.Sublist.append_left (List.Sublist.append_left (sc _ (sc _ sn)) _) _)))) ?_
      refine rt_soft (i := 2) rfl Kx (fun c d v a w h => by cases d <;> exact h) (sc _ (sc _ (sc _ (List.Sublist.append_left (List.Sublist.append_left (sc _ (sc _ sn)) _) _)))) ?_
      refine rf_indexS (n := 0) (sz := 5) (j := 0 + 0 * 5) rfl rfl rfl rfl Try.underlying36 Kx Rx (by rw [hpl]; decide) rfl ?_
      simp only [qz]
      refine rg_nil ?_
      refine ek_rt (sc _ (sc _ (sc _ (List.Sublist.append_left (List.Sublist.append_left (sc _ (sc _ sn)) _) _)))) ?_
      refine rt_soft (i := 3) rfl Kx (fun c d v a w h => by cases d <;> exact h) (sc _ (sc _ (sc _ (List.Sublist.append_left (List.Sublist.append_left (sc _ (sc _ sn)) _) _)))) ?_
      refine rf_loadC (n := 5) (vs := nmC z0) rfl rfl rfl Try.underlying45 rfl Kx rfl (fun w hw => by have h := fl_range (E := NmE) (Kn.hd0 (Kn.tl hw)) (k := 0) (by rw [hpl]; decide); rw [show NmE.at p 0 = z0 from hB.at0] at h; exact h) ?_
      simp only [qz]
      refine rg_nil ?_
      refine ek_rt (sc _ (sc _ (sc _ (List.Sublist.append_left (List.Sublist.append_left (sc _ (sc _ sn)) _) _)))) ?_
      refine rt_soft (i := 5) rfl Kx (fun c d v a w h => by cases d <;> exact h) (sc _ (sc _ (sc _ (List.Sublist.append_left (List.Sublist.append_left (sc _ (sc _ sn)) _) _)))) ?_
      refine rf_field (n := 0) (j := 1) rfl rfl rfl Try.underlying38 rfl Kx rfl ?_
      simp only [qz]
      refine rg_nil ?_
      refine ek_rt (sc _ (sc _ (sc _ (List.Sublist.append_left (List.Sublist.append_left (sc _ (sc _ sn)) _) _)))) ?_
      refine rt_soft (i := 6) rfl Kx (fun c d v a w h => by cases d <;> exact h) (sc _ (sc _ (sc _ (List.Sublist.append_left (List.Sublist.append_left (sc _ (sc _ sn)) _) _)))) ?_
      refine rf_load rfl rfl rfl Try.underlying36 rfl (fun w hw => (Kn.hd0 hw).at rfl) ?_
      simp only [qz]
      refine rg_nil ?_
      refine ek_rt (sc _ (sc _ (sc _ (List.Sublist.append_left (List.Sublist.append_left (sc _ (sc _ sn)) _) _)))) ?_
      refine rt_soft (i := 7) rfl Kx (fun c d v a w h => by cases d <;> exact h) (sc _ (sc _ (sc _ (List.Sublist.append_left (List.Sublist.append_left (sc _ (sc _ sn)) _) _)))) ?_
      refine rf_indexS (n := 1) (sz := 5) (j := 0 + 1 * 5) rfl rfl rfl rfl Try.underlying36 Kx Rx (by rw [hpl]; decide) rfl ?_
      simp only [qz]
      refine rg_nil ?_
      refine ek_rt (sc _ (sc _ (sc _ (List.Sublist.append_left (List.Sublist.append_left (sc _ (sc _ sn)) _) _)))) ?_
      refine rt_soft (i := 8) rfl Kx (fun c d v a w h => by cases d <;> exact h) (sc _ (sc _ (sc _ (List.Sublist.append_left (List.Sublist.append_left (sc _ (sc _ sn)) _) _)))) ?_
      refine rf_loadC (n := 5) (vs := nmC z1) rfl rfl rfl Try.underlying45 rfl Kx rfl (fun w hw => by have h := fl_range (E := NmE) (Kn.hd0 (Kn.tl hw)) (k := 1) (by rw [hpl]; decide); rw [show NmE.at p 1 = z1 from hB.at1] at h; exact h) ?_
      simp only [qz]
      refine rg_nil ?_
      refine ek_rt (sc _ (sc _ (sc _ (List.Sublist.append_left (List.Sublist.append_left (sc _ (sc _ sn)) _) _)))) ?_
      refine rt_hard2 (i := 4) (j := 15) Kx rfl rfl ?_ ?_
      · apply (rg_made (T := fun v u => ∃ s0 s1 s2 s3, v = wdV (z0) s0 s1 s2 s3 ∧ SU4 u (z0) s0 s1 s2 s3)) Rx Kx
        case hargs => exact Ax
        case h => exact fun w hw => wideOf_any z0 (Nm.fit_mono hz0.fit (by decide)) w
        case hz => exact (fun _ h => by cases h; exact (sc _ (sc _ (sc _ (List.Sublist.append_left (List.Sublist.append_left (sc _ (sc _ sn)) _) _)))))
        rintro _ u8 ⟨t0, t1, t2, t3, rfl, hS8⟩
        obtain ⟨⟨ta8_0, tc8_0, rfl⟩, -⟩ := id hS8.a
        obtain ⟨⟨ta8_1, tc8_1, rfl⟩, -⟩ := id hS8.b
        obtain ⟨⟨ta8_2, tc8_2, rfl⟩, -⟩ := id hS8.c
        obtain ⟨⟨ta8_3, tc8_3, rfl⟩, -⟩ := id hS8.d
        simp only [qz]
        refine rg_nil ?_
        refine ek_rt ((sc _ (sc _ (sc _ (List.Sublist.append_left (List.Sublist.append_left (sc _ (sc _ sn)) _) _)))).trans (List.sublist_append_right _ _)) ?_
        refine rt_hard2 (i := 9) (j := 15) Kx rfl rfl ?_ ?_
        · apply (rg_made (T := fun v u => ∃ s0 s1 s2 s3, v = wdV (z1) s0 s1 s2 s3 ∧ SU4 u (z1) s0 s1 s2 s3)) Rx Kx
          case hargs => exact Ax
          case h => exact fun w hw => wideOf_any z1 (Nm.fit_mono hz1.fit (by decide)) w
          case hz => exact (fun _ h => by cases h; exact ((sc _ (sc _ (sc _ (List.Sublist.append_left (List.Sublist.append_left (sc _ (sc _ sn)) _) _)))).trans (List.sublist_append_right _ _)))
          rintro _ u9 ⟨t0, t1, t2, t3, rfl, hS9⟩
          obtain ⟨⟨ta9_0, tc9_0, rfl⟩, -⟩ := id hS9.a
          obtain ⟨⟨ta9_1, tc9_1, rfl⟩, -⟩ := id hS9.b
          obtain ⟨⟨ta9_2, tc9_2, rfl⟩, -⟩ := id hS9.c
          obtain ⟨⟨ta9_3, tc9_3, rfl⟩, -⟩ := id hS9.d
          simp only [qz]
          refine rg_nil ?_
          refine ek_rt (((sc _ (sc _ (sc _ (List.Sublist.append_left (List.Sublist.append_left (sc _ (sc _ sn)) _) _)))).trans (List.sublist_append_right _ _)).trans (List.sublist_append_right _ _)) ?_
          refine rt_hard2 (i := 10) (j := 15) Kx rfl rfl ?_ ?_
          · apply (rg_made (T := fun v u => ∃ s0 s1 s2 s3, v = wdV (z0.addR z1) s0 s1 s2 s3 ∧ SU4 u (z0.addR z1) s0 s1 s2 s3)) Rx Kx
            case hargs => exact Ax
            case h => exact fun w hw => wplus_any z0 z1 _ _ _ _ _ _ _ _ (Nm.fit_mono (to_fitB hz0.fit Ox (by have := hz0.k0; have := hz1.k0; have := hz0.k1; have := hz1.k1; omega)) (by decide)) (Nm.fit_mono (to_fitB hz1.fit Ox (by have := hz0.k0; have := hz1.k0; have := hz0.k1; have := hz1.k1; omega)) (by decide)) hz0.k0 (by have := hz0.k1; omega) hz1.k0 (by have := hz1.k1; omega) w (hS8.at hw ((List.sublist_append_left _ _).trans (List.sublist_append_right _ _))) (hS9.at hw (List.sublist_append_left _ _))
            case hz => exact (fun _ h => by cases h; exact (((sc _ (sc _ (sc _ (List.Sublist.append_left (List.Sublist.append_left (sc _ (sc _ sn)) _) _)))).trans (List.sublist_append_right _ _)).trans (List.sublist_append_right _ _)))
            rintro _ u10 ⟨t0, t1, t2, t3, rfl, hS10⟩
            obtain ⟨⟨ta10_0, tc10_0, rfl⟩, -⟩ := id hS10.a
            obtain ⟨⟨ta10_1, tc10_1, rfl⟩, -⟩ := id hS10.b
            obtain ⟨⟨ta10_2, tc10_2, rfl⟩, -⟩ := id hS10.c
            obtain ⟨⟨ta10_3, tc10_3, rfl⟩, -⟩ := id hS10.d
            simp only [qz]
            refine rg_nil ?_
            refine ek_rt ((((sc _ (sc _ (sc _ (List.Sublist.append_left (List.Sublist.append_left (sc _ (sc _ sn)) _) _)))).trans (List.sublist_append_right _ _)).trans (List.sublist_append_right _ _)).trans (List.sublist_append_right _ _)) ?_
            refine rt_hard2 (i := 11) (j := 15) Kx rfl rfl ?_ ?_
            · apply rg_pure Rx Kx
              case hargs => exact Ax
              case h => exact fun w hw => by have := wnum_any (z0.addR z1) _ _ _ _ (Nm.fit_mono (addR_fit hz0 hz1) (by decide)) (addR_k hz0.k0) (by have := hz0.k1; have := hz1.k1; show max z0.k z1.k ≤ 10000; omega) w (hS10.at hw (List.sublist_append_left _ _)); rw [hB.sum] at this; exact this
              case hz => exact (fun _ h => by cases h; exact ((((sc _ (sc _ (sc _ (List.Sublist.append_left (List.Sublist.append_left (sc _ (sc _ sn)) _) _)))).trans (List.sublist_append_right _ _)).trans (List.sublist_append_right _ _)).trans (List.sublist_append_right _ _)))
              simp only [qz]
              refine rg_nil ?_
              refine ek_rt ((((sc _ (sc _ (sc _ (List.Sublist.append_left (List.Sublist.append_left (sc _ (sc _ sn)) _) _)))).trans (List.sublist_append_right _ _)).trans (List.sublist_append_right _ _)).trans (List.sublist_append_right _ _)) ?_
              refine rt_soft (i := 12) rfl Kx (fun c d v a w h => by cases d <;> exact h) ((((sc _ (sc _ (sc _ (List.Sublist.append_left (List.Sublist.append_left (sc _ (sc _ sn)) _) _)))).trans (List.sublist_append_right _ _)).trans (List.sublist_append_right _ _)).trans (List.sublist_append_right _ _)) ?_
              refine rg_move ?_
              simp only [qz]
              refine rg_nil ?_
              refine ek_rt ((((sc _ (sc _ (sc _ (List.Sublist.append_left (List.Sublist.append_left (sc _ (sc _ sn)) _) _)))).trans (List.sublist_append_right _ _)).trans (List.sublist_append_right _ _)).trans (List.sublist_append_right _ _)) ?_
              refine rt_soft (i := 13) rfl Kx (fun c d v a w h => by cases d <;> exact h) ((((sc _ (sc _ (sc _ (List.Sublist.append_left (List.Sublist.append_left (sc _ (sc _ sn)) _) _)))).trans (List.sublist_append_right _ _)).trans (List.sublist_append_right _ _)).trans (List.sublist_append_right _ _)) ?_
              refine rf_extract rfl rfl rfl rfl ?_
              simp only [qz]
              refine rg_nil ?_
              refine ek_rt ((((sc _ (sc _ (sc _ (List.Sublist.append_left (List.Sublist.append_left (sc _ (sc _ sn)) _) _)))).trans (List.sublist_append_right _ _)).trans (List.sublist_append_right _ _)).trans (List.sublist_append_right _ _)) ?_
              refine rt_soft (i := 14) rfl Kx (fun c d v a w h => by cases d <;> exact h) ((((sc _ (sc _ (sc _ (List.Sublist.append_left (List.Sublist.append_left (sc _ (sc _ sn)) _) _)))).trans (List.sublist_append_right _ _)).trans (List.sublist_append_right _ _)).trans (List.sublist_append_right _ _)) ?_
              refine rf_extract rfl rfl rfl rfl ?_
              simp only [qz]
              refine rg_nil ?_
              refine ek_rt ((((sc _ (sc _ (sc _ (List.Sublist.append_left (List.Sublist.append_left (sc _ (sc _ sn)) _) _)))).trans (List.sublist_append_right _ _)).trans (List.sublist_append_right _ _)).trans (List.sublist_append_right _ _)) ?_
              refine rt_hard1 (i := 15) Kx rfl ?_
              refine rg_new (cs := ?_) (ty := ?_) Rx (fun w => ?_) (fun _ h => by cases h; exact ((((sc _ (sc _ (sc _ (List.Sublist.append_left (List.Sublist.append_left (sc _ (sc _ sn)) _) _)))).trans (List.sublist_append_right _ _)).trans (List.sublist_append_right _ _)).trans (List.sublist_append_right _ _))) (fun g11 => ?_); rotate_left 2
              focus (go_simp; rfl)
              simp only [qz]
              refine rg_nil ?_
              refine ek_rt (sk _ ((((sc _ (sc _ (sc _ (List.Sublist.append_left (List.Sublist.append_left (sc _ (sc _ sn)) _) _)))).trans (List.sublist_append_right _ _)).trans (List.sublist_append_right _ _)).trans (List.sublist_append_right _ _))) ?_
              refine rt_hard1 (i := 16) Kx rfl ?_
              refine rf_storeR (n := 5) rfl rfl Kx rfl rfl (UpdR.here _ _ _ Nl) (fun _ h => by cases h; exact (sk _ ((((sc _ (sc _ (sc _ (List.Sublist.append_left (List.Sublist.append_left (sc _ (sc _ sn)) _) _)))).trans (List.sublist_append_right _ _)).trans (List.sublist_append_right _ _)).trans (List.sublist_append_right _ _)))) ?_
              simp only [qz, Nat.reduceAdd]
              refine rg_nil ?_
              refine ek_rt (sk _ ((((sc _ (sc _ (sc _ (List.Sublist.append_left (List.Sublist.append_left (sc _ (sc _ sn)) _) _)))).trans (List.sublist_append_right _ _)).trans (List.sublist_append_right _ _)).trans (List.sublist_append_right _ _))) ?_
              refine rt_soft (i := 17) rfl Kx (fun c d v a w h => by cases d <;> exact h) (sk _ ((((sc _ (sc _ (sc _ (List.Sublist.append_left (List.Sublist.append_left (sc _ (sc _ sn)) _) _)))).trans (List.sublist_append_right _ _)).trans (List.sublist_append_right _ _)).trans (List.sublist_append_right _ _))) ?_
              refine rg_assign ?_
              simp only [qz]
              refine rg_nil ?_
              refine ek_rt (sk _ ((((sc _ (sc _ (sc _ (List.Sublist.append_left (List.Sublist.append_left (sc _ (sc _ sn)) _) _)))).trans (List.sublist_append_right _ _)).trans (List.sublist_append_right _ _)).trans (List.sublist_append_right _ _))) ?_
              refine rt_nil Kx ?_
              refine ek_next (wk_seq ?_)
              refine wk_draws _ _ [(0, 0), (1, 0), (2, 0), (3, 1), (4, 0), (5, 0), (6, 0), (7, 1), (8, 0), (9, 0)] [] Kx Kx (fun c d v a w h => by cases d <;> exact h) ((sc _ (List.Sublist.append_left (List.Sublist.append_left (List.Sublist.append_left (sc _ (sc _ (sc _ (List.Sublist.append_left (List.Sublist.append_left (sc _ (sc _ sn)) _) _)))) _) _) _))) (fun e => by first | exact absurd e (by decide) | rfl) ?_
              simp only [List.map_cons, List.map_nil, List.getD_cons_zero, List.getD_cons_succ]
              refine rg_move ?_
              simp only [qz]
              refine rg_move ?_
              simp only [qz]
              refine rf_loadR (n := 5) rfl rfl rfl Try.underlying45 rfl Kx (fun w hw => Kn.hd0 hw) rfl rfl ?_
              simp only [qz]
              apply rg_pure Rx Kx
              case hargs => exact Ax
              case h => exact fun w hw => rOneB_any w
              case hz => exact (fun _ h => by cases h; exact (sc _ (List.Sublist.append_left (List.Sublist.append_left (List.Sublist.append_left (sc _ (sc _ (sc _ (List.Sublist.append_left (List.Sublist.append_left (sc _ (sc _ sn)) _) _)))) _) _) _)))
              simp only [qz]
              refine rfb_eqN Nm.one Nm.one rfl rfl rfl rfl ?_
              intro x h4
              cases x
              · (try simp only [qd, ne_eq] at h4)
                simp only [qz]
                exact absurd trivial h4
              (try simp only [qd, ne_eq] at h4)
              simp only [qz]
              refine rf_pick rfl rfl rfl ?_
              simp only [qz]
              refine rg_move ?_
              simp only [qz]
              apply rg_pure Rx Kx
              case hargs => exact Ax
              case h => exact fun w hw => sane_any w
              case hz => exact (fun _ h => by cases h; exact (sc _ (List.Sublist.append_left (List.Sublist.append_left (List.Sublist.append_left (sc _ (sc _ (sc _ (List.Sublist.append_left (List.Sublist.append_left (sc _ (sc _ sn)) _) _)))) _) _) _)))
              simp only [qz]
              refine rf_pick rfl rfl rfl ?_
              simp only [qz]
              refine rg_assign ?_
              simp only [qz]
              refine rg_nil (ek_next (wk_ret ?_))
              refine ek_ret (fun w hw => ⟨rfl, _, res_t _ rfl, ?_⟩)
              (try simp only [qz])
              first | exact ⟨rfl, hw.below⟩ | exact ⟨trivial, hw.below⟩ | exact hw.below
            refine rg_new (cs := ?_) (ty := ?_) Rx (fun w => ?_) (fun _ h => by cases h; exact ((((sc _ (sc _ (sc _ (List.Sublist.append_left (List.Sublist.append_left (sc _ (sc _ sn)) _) _)))).trans (List.sublist_append_right _ _)).trans (List.sublist_append_right _ _)).trans (List.sublist_append_right _ _))) (fun g12 => ?_); rotate_left 2
            focus (go_simp; rfl)
            simp only [qz]
            refine rg_nil ?_
            refine ek_rt (sk _ ((((sc _ (sc _ (sc _ (List.Sublist.append_left (List.Sublist.append_left (sc _ (sc _ sn)) _) _)))).trans (List.sublist_append_right _ _)).trans (List.sublist_append_right _ _)).trans (List.sublist_append_right _ _))) ?_
            refine rt_hard1 (i := 11) Kx rfl ?_
            apply rg_pure Rx Kx
            case hargs => exact Ax
            case h => exact fun w hw => by have := wnum_any (z0.addR z1) _ _ _ _ (Nm.fit_mono (addR_fit hz0 hz1) (by decide)) (addR_k hz0.k0) (by have := hz0.k1; have := hz1.k1; show max z0.k z1.k ≤ 10000; omega) w (hS10.at hw (List.Sublist.cons _ (List.sublist_append_left _ _))); rw [hB.sum] at this; exact this
            case hz => exact (fun _ h => by cases h; exact (sk _ ((((sc _ (sc _ (sc _ (List.Sublist.append_left (List.Sublist.append_left (sc _ (sc _ sn)) _) _)))).trans (List.sublist_append_right _ _)).trans (List.sublist_append_right _ _)).trans (List.sublist_append_right _ _))))
            simp only [qz]
            refine rg_nil ?_
            refine ek_rt (sk _ ((((sc _ (sc _ (sc _ (List.Sublist.append_left (List.Sublist.append_left (sc _ (sc _ sn)) _) _)))).trans (List.sublist_append_right _ _)).trans (List.sublist_append_right _ _)).trans (List.sublist_append_right _ _))) ?_
            refine rt_soft (i := 12) rfl Kx (fun c d v a w h => by cases d <;> exact h) (sk _ ((((sc _ (sc _ (sc _ (List.Sublist.append_left (List.Sublist.append_left (sc _ (sc _ sn)) _) _)))).trans (List.sublist_append_right _ _)).trans (List.sublist_append_right _ _)).trans (List.sublist_append_right _ _))) ?_
            refine rg_move ?_
            simp only [qz]
            refine rg_nil ?_
            refine ek_rt (sk _ ((((sc _ (sc _ (sc _ (List.Sublist.append_left (List.Sublist.append_left (sc _ (sc _ sn)) _) _)))).trans (List.sublist_append_right _ _)).trans (List.sublist_append_right _ _)).trans (List.sublist_append_right _ _))) ?_
            refine rt_soft (i := 13) rfl Kx (fun c d v a w h => by cases d <;> exact h) (sk _ ((((sc _ (sc _ (sc _ (List.Sublist.append_left (List.Sublist.append_left (sc _ (sc _ sn)) _) _)))).trans (List.sublist_append_right _ _)).trans (List.sublist_append_right _ _)).trans (List.sublist_append_right _ _))) ?_
            refine rf_extract rfl rfl rfl rfl ?_
            simp only [qz]
            refine rg_nil ?_
            refine ek_rt (sk _ ((((sc _ (sc _ (sc _ (List.Sublist.append_left (List.Sublist.append_left (sc _ (sc _ sn)) _) _)))).trans (List.sublist_append_right _ _)).trans (List.sublist_append_right _ _)).trans (List.sublist_append_right _ _))) ?_
            refine rt_soft (i := 14) rfl Kx (fun c d v a w h => by cases d <;> exact h) (sk _ ((((sc _ (sc _ (sc _ (List.Sublist.append_left (List.Sublist.append_left (sc _ (sc _ sn)) _) _)))).trans (List.sublist_append_right _ _)).trans (List.sublist_append_right _ _)).trans (List.sublist_append_right _ _))) ?_
            refine rf_extract rfl rfl rfl rfl ?_
            simp only [qz]
            refine rg_nil ?_
            refine ek_rt (sk _ ((((sc _ (sc _ (sc _ (List.Sublist.append_left (List.Sublist.append_left (sc _ (sc _ sn)) _) _)))).trans (List.sublist_append_right _ _)).trans (List.sublist_append_right _ _)).trans (List.sublist_append_right _ _))) ?_
            refine rt_hard1 (i := 16) Kx rfl ?_
            refine rf_storeR (n := 5) rfl rfl Kx rfl rfl (UpdR.here _ _ _ Nl) (fun _ h => by cases h; exact (sk _ ((((sc _ (sc _ (sc _ (List.Sublist.append_left (List.Sublist.append_left (sc _ (sc _ sn)) _) _)))).trans (List.sublist_append_right _ _)).trans (List.sublist_append_right _ _)).trans (List.sublist_append_right _ _)))) ?_
            simp only [qz, Nat.reduceAdd]
            refine rg_nil ?_
            refine ek_rt (sk _ ((((sc _ (sc _ (sc _ (List.Sublist.append_left (List.Sublist.append_left (sc _ (sc _ sn)) _) _)))).trans (List.sublist_append_right _ _)).trans (List.sublist_append_right _ _)).trans (List.sublist_append_right _ _))) ?_
            refine rt_soft (i := 17) rfl Kx (fun c d v a w h => by cases d <;> exact h) (sk _ ((((sc _ (sc _ (sc _ (List.Sublist.append_left (List.Sublist.append_left (sc _ (sc _ sn)) _) _)))).trans (List.sublist_append_right _ _)).trans (List.sublist_append_right _ _)).trans (List.sublist_append_right _ _))) ?_
            refine rg_assign ?_
            simp only [qz]
            refine rg_nil ?_
            refine ek_rt (sk _ ((((sc _ (sc _ (sc _ (List.Sublist.append_left (List.Sublist.append_left (sc _ (sc _ sn)) _) _)))).trans (List.sublist_append_right _ _)).trans (List.sublist_append_right _ _)).trans (List.sublist_append_right _ _))) ?_
            refine rt_nil Kx ?_
            refine ek_next (wk_seq ?_)
            refine wk_draws _ _ [(0, 0), (1, 0), (2, 0), (3, 1), (4, 0), (5, 0), (6, 0), (7, 1), (8, 0), (9, 0)] [] Kx Kx (fun c d v a w h => by cases d <;> exact h) ((sc _ (List.Sublist.append_left (List.Sublist.append_left (List.Sublist.append_left (sc _ (sc _ (sc _ (List.Sublist.append_left (List.Sublist.append_left (sc _ (sc _ sn)) _) _)))) _) _) _))) (fun e => by first | exact absurd e (by decide) | rfl) ?_
            simp only [List.map_cons, List.map_nil, List.getD_cons_zero, List.getD_cons_succ]
            refine rg_move ?_
            simp only [qz]
            refine rg_move ?_
            simp only [qz]
            refine rf_loadR (n := 5) rfl rfl rfl Try.underlying45 rfl Kx (fun w hw => Kn.hd0 hw) rfl rfl ?_
            simp only [qz]
            apply rg_pure Rx Kx
            case hargs => exact Ax
            case h => exact fun w hw => rOneB_any w
            case hz => exact (fun _ h => by cases h; exact (sc _ (List.Sublist.append_left (List.Sublist.append_left (List.Sublist.append_left (sc _ (sc _ (sc _ (List.Sublist.append_left (List.Sublist.append_left (sc _ (sc _ sn)) _) _)))) _) _) _)))
            simp only [qz]
            refine rfb_eqN Nm.one Nm.one rfl rfl rfl rfl ?_
            intro x h5
            cases x
            · (try simp only [qd, ne_eq] at h5)
              simp only [qz]
              exact absurd trivial h5
            (try simp only [qd, ne_eq] at h5)
            simp only [qz]
            refine rf_pick rfl rfl rfl ?_
            simp only [qz]
            refine rg_move ?_
            simp only [qz]
            apply rg_pure Rx Kx
            case hargs => exact Ax
            case h => exact fun w hw => sane_any w
            case hz => exact (fun _ h => by cases h; exact (sc _ (List.Sublist.append_left (List.Sublist.append_left (List.Sublist.append_left (sc _ (sc _ (sc _ (List.Sublist.append_left (List.Sublist.append_left (sc _ (sc _ sn)) _) _)))) _) _) _)))
            simp only [qz]
            refine rf_pick rfl rfl rfl ?_
            simp only [qz]
            refine rg_assign ?_
            simp only [qz]
            refine rg_nil (ek_next (wk_ret ?_))
            refine ek_ret (fun w hw => ⟨rfl, _, res_t _ rfl, ?_⟩)
            (try simp only [qz])
            first | exact ⟨rfl, hw.below⟩ | exact ⟨trivial, hw.below⟩ | exact hw.below
          refine rg_new (cs := ?_) (ty := ?_) Rx (fun w => ?_) (fun _ h => by cases h; exact (((sc _ (sc _ (sc _ (List.Sublist.append_left (List.Sublist.append_left (sc _ (sc _ sn)) _) _)))).trans (List.sublist_append_right _ _)).trans (List.sublist_append_right _ _))) (fun g13 => ?_); rotate_left 2
          focus (go_simp; rfl)
          simp only [qz]
          refine rg_nil ?_
          refine ek_rt (sk _ (((sc _ (sc _ (sc _ (List.Sublist.append_left (List.Sublist.append_left (sc _ (sc _ sn)) _) _)))).trans (List.sublist_append_right _ _)).trans (List.sublist_append_right _ _))) ?_
          refine rt_hard1 (i := 10) Kx rfl ?_
          apply (rg_made (T := fun v u => ∃ s0 s1 s2 s3, v = wdV (z0.addR z1) s0 s1 s2 s3 ∧ SU4 u (z0.addR z1) s0 s1 s2 s3)) Rx Kx
          case hargs => exact Ax
          case h => exact fun w hw => wplus_any z0 z1 _ _ _ _ _ _ _ _ (Nm.fit_mono (to_fitB hz0.fit Ox (by have := hz0.k0; have := hz1.k0; have := hz0.k1; have := hz1.k1; omega)) (by decide)) (Nm.fit_mono (to_fitB hz1.fit Ox (by have := hz0.k0; have := hz1.k0; have := hz0.k1; have := hz1.k1; omega)) (by decide)) hz0.k0 (by have := hz0.k1; omega) hz1.k0 (by have := hz1.k1; omega) w (hS8.at hw (List.Sublist.cons _ ((List.sublist_append_left _ _).trans (List.sublist_append_right _ _)))) (hS9.at hw (List.Sublist.cons _ (List.sublist_append_left _ _)))
          case hz => exact (fun _ h => by cases h; exact (sk _ (((sc _ (sc _ (sc _ (List.Sublist.append_left (List.Sublist.append_left (sc _ (sc _ sn)) _) _)))).trans (List.sublist_append_right _ _)).trans (List.sublist_append_right _ _))))
          rintro _ u14 ⟨t0, t1, t2, t3, rfl, hS14⟩
          obtain ⟨⟨ta14_0, tc14_0, rfl⟩, -⟩ := id hS14.a
          obtain ⟨⟨ta14_1, tc14_1, rfl⟩, -⟩ := id hS14.b
          obtain ⟨⟨ta14_2, tc14_2, rfl⟩, -⟩ := id hS14.c
          obtain ⟨⟨ta14_3, tc14_3, rfl⟩, -⟩ := id hS14.d
          simp only [qz]
          refine rg_nil ?_
          refine ek_rt ((sk _ (((sc _ (sc _ (sc _ (List.Sublist.append_left (List.Sublist.append_left (sc _ (sc _ sn)) _) _)))).trans (List.sublist_append_right _ _)).trans (List.sublist_append_right _ _))).trans (List.sublist_append_right _ _)) ?_
          refine rt_hard1 (i := 11) Kx rfl ?_
          apply rg_pure Rx Kx
          case hargs => exact Ax
          case h => exact fun w hw => by have := wnum_any (z0.addR z1) _ _ _ _ (Nm.fit_mono (addR_fit hz0 hz1) (by decide)) (addR_k hz0.k0) (by have := hz0.k1; have := hz1.k1; show max z0.k z1.k ≤ 10000; omega) w (hS14.at hw (List.sublist_append_left _ _)); rw [hB.sum] at this; exact this
          case hz => exact (fun _ h => by cases h; exact ((sk _ (((sc _ (sc _ (sc _ (List.Sublist.append_left (List.Sublist.append_left (sc _ (sc _ sn)) _) _)))).trans (List.sublist_append_right _ _)).trans (List.sublist_append_right _ _))).trans (List.sublist_append_right _ _)))
          simp only [qz]
          refine rg_nil ?_
          refine ek_rt ((sk _ (((sc _ (sc _ (sc _ (List.Sublist.append_left (List.Sublist.append_left (sc _ (sc _ sn)) _) _)))).trans (List.sublist_append_right _ _)).trans (List.sublist_append_right _ _))).trans (List.sublist_append_right _ _)) ?_
          refine rt_soft (i := 12) rfl Kx (fun c d v a w h => by cases d <;> exact h) ((sk _ (((sc _ (sc _ (sc _ (List.Sublist.append_left (List.Sublist.append_left (sc _ (sc _ sn)) _) _)))).trans (List.sublist_append_right _ _)).trans (List.sublist_append_right _ _))).trans (List.sublist_append_right _ _)) ?_
          refine rg_move ?_
          simp only [qz]
          refine rg_nil ?_
          refine ek_rt ((sk _ (((sc _ (sc _ (sc _ (List.Sublist.append_left (List.Sublist.append_left (sc _ (sc _ sn)) _) _)))).trans (List.sublist_append_right _ _)).trans (List.sublist_append_right _ _))).trans (List.sublist_append_right _ _)) ?_
          refine rt_soft (i := 13) rfl Kx (fun c d v a w h => by cases d <;> exact h) ((sk _ (((sc _ (sc _ (sc _ (List.Sublist.append_left (List.Sublist.append_left (sc _ (sc _ sn)) _) _)))).trans (List.sublist_append_right _ _)).trans (List.sublist_append_right _ _))).trans (List.sublist_append_right _ _)) ?_
          refine rf_extract rfl rfl rfl rfl ?_
          simp only [qz]
          refine rg_nil ?_
          refine ek_rt ((sk _ (((sc _ (sc _ (sc _ (List.Sublist.append_left (List.Sublist.append_left (sc _ (sc _ sn)) _) _)))).trans (List.sublist_append_right _ _)).trans (List.sublist_append_right _ _))).trans (List.sublist_append_right _ _)) ?_
          refine rt_soft (i := 14) rfl Kx (fun c d v a w h => by cases d <;> exact h) ((sk _ (((sc _ (sc _ (sc _ (List.Sublist.append_left (List.Sublist.append_left (sc _ (sc _ sn)) _) _)))).trans (List.sublist_append_right _ _)).trans (List.sublist_append_right _ _))).trans (List.sublist_append_right _ _)) ?_
          refine rf_extract rfl rfl rfl rfl ?_
          simp only [qz]
          refine rg_nil ?_
          refine ek_rt ((sk _ (((sc _ (sc _ (sc _ (List.Sublist.append_left (List.Sublist.append_left (sc _ (sc _ sn)) _) _)))).trans (List.sublist_append_right _ _)).trans (List.sublist_append_right _ _))).trans (List.sublist_append_right _ _)) ?_
          refine rt_hard1 (i := 16) Kx rfl ?_
          refine rf_storeR (n := 5) rfl rfl Kx rfl rfl (UpdR.app _ (UpdR.here _ _ _ Nl)) (fun _ h => by cases h; exact ((sk _ (((sc _ (sc _ (sc _ (List.Sublist.append_left (List.Sublist.append_left (sc _ (sc _ sn)) _) _)))).trans (List.sublist_append_right _ _)).trans (List.sublist_append_right _ _))).trans (List.sublist_append_right _ _))) ?_
          simp only [qz, Nat.reduceAdd]
          refine rg_nil ?_
          refine ek_rt ((sk _ (((sc _ (sc _ (sc _ (List.Sublist.append_left (List.Sublist.append_left (sc _ (sc _ sn)) _) _)))).trans (List.sublist_append_right _ _)).trans (List.sublist_append_right _ _))).trans (List.sublist_append_right _ _)) ?_
          refine rt_soft (i := 17) rfl Kx (fun c d v a w h => by cases d <;> exact h) ((sk _ (((sc _ (sc _ (sc _ (List.Sublist.append_left (List.Sublist.append_left (sc _ (sc _ sn)) _) _)))).trans (List.sublist_append_right _ _)).trans (List.sublist_append_right _ _))).trans (List.sublist_append_right _ _)) ?_
          refine rg_assign ?_
          simp only [qz]
          refine rg_nil ?_
          refine ek_rt ((sk _ (((sc _ (sc _ (sc _ (List.Sublist.append_left (List.Sublist.append_left (sc _ (sc _ sn)) _) _)))).trans (List.sublist_append_right _ _)).trans (List.sublist_append_right _ _))).trans (List.sublist_append_right _ _)) ?_
          refine rt_nil Kx ?_
          refine ek_next (wk_seq ?_)
          refine wk_draws _ _ [(0, 0), (1, 0), (2, 0), (3, 1), (4, 0), (5, 0), (6, 0), (7, 1), (8, 0), (9, 0)] [] Kx Kx (fun c d v a w h => by cases d <;> exact h) ((List.Sublist.append_left (sc _ (List.Sublist.append_left (List.Sublist.append_left (sc _ (sc _ (sc _ (List.Sublist.append_left (List.Sublist.append_left (sc _ (sc _ sn)) _) _)))) _) _)) _)) (fun e => by first | exact absurd e (by decide) | rfl) ?_
          simp only [List.map_cons, List.map_nil, List.getD_cons_zero, List.getD_cons_succ]
          refine rg_move ?_
          simp only [qz]
          refine rg_move ?_
          simp only [qz]
          refine rf_loadR (n := 5) rfl rfl rfl Try.underlying45 rfl Kx (fun w hw => Kn.hd0 (Kn.tlU hw)) rfl rfl ?_
          simp only [qz]
          apply rg_pure Rx Kx
          case hargs => exact Ax
          case h => exact fun w hw => rOneB_any w
          case hz => exact (fun _ h => by cases h; exact (List.Sublist.append_left (sc _ (List.Sublist.append_left (List.Sublist.append_left (sc _ (sc _ (sc _ (List.Sublist.append_left (List.Sublist.append_left (sc _ (sc _ sn)) _) _)))) _) _)) _))
          simp only [qz]
          refine rfb_eqN Nm.one Nm.one rfl rfl rfl rfl ?_
          intro x h6
          cases x
          · (try simp only [qd, ne_eq] at h6)
            simp only [qz]
            exact absurd trivial h6
          (try simp only [qd, ne_eq] at h6)
          simp only [qz]
          refine rf_pick rfl rfl rfl ?_
          simp only [qz]
          refine rg_move ?_
          simp only [qz]
          apply rg_pure Rx Kx
          case hargs => exact Ax
          case h => exact fun w hw => sane_any w
          case hz => exact (fun _ h => by cases h; exact (List.Sublist.append_left (sc _ (List.Sublist.append_left (List.Sublist.append_left (sc _ (sc _ (sc _ (List.Sublist.append_left (List.Sublist.append_left (sc _ (sc _ sn)) _) _)))) _) _)) _))
          simp only [qz]
          refine rf_pick rfl rfl rfl ?_
          simp only [qz]
          refine rg_assign ?_
          simp only [qz]
          refine rg_nil (ek_next (wk_ret ?_))
          refine ek_ret (fun w hw => ⟨rfl, _, res_t _ rfl, ?_⟩)
          (try simp only [qz])
          first | exact ⟨rfl, hw.below⟩ | exact ⟨trivial, hw.below⟩ | exact hw.below
        refine rg_new (cs := ?_) (ty := ?_) Rx (fun w => ?_) (fun _ h => by cases h; exact ((sc _ (sc _ (sc _ (List.Sublist.append_left (List.Sublist.append_left (sc _ (sc _ sn)) _) _)))).trans (List.sublist_append_right _ _))) (fun g15 => ?_); rotate_left 2
        focus (go_simp; rfl)
        simp only [qz]
        refine rg_nil ?_
        refine ek_rt (sk _ ((sc _ (sc _ (sc _ (List.Sublist.append_left (List.Sublist.append_left (sc _ (sc _ sn)) _) _)))).trans (List.sublist_append_right _ _))) ?_
        refine rt_hard1 (i := 9) Kx rfl ?_
        apply (rg_made (T := fun v u => ∃ s0 s1 s2 s3, v = wdV (z1) s0 s1 s2 s3 ∧ SU4 u (z1) s0 s1 s2 s3)) Rx Kx
        case hargs => exact Ax
        case h => exact fun w hw => wideOf_any z1 (Nm.fit_mono hz1.fit (by decide)) w
        case hz => exact (fun _ h => by cases h; exact (sk _ ((sc _ (sc _ (sc _ (List.Sublist.append_left (List.Sublist.append_left (sc _ (sc _ sn)) _) _)))).trans (List.sublist_append_right _ _))))
        rintro _ u16 ⟨t0, t1, t2, t3, rfl, hS16⟩
        obtain ⟨⟨ta16_0, tc16_0, rfl⟩, -⟩ := id hS16.a
        obtain ⟨⟨ta16_1, tc16_1, rfl⟩, -⟩ := id hS16.b
        obtain ⟨⟨ta16_2, tc16_2, rfl⟩, -⟩ := id hS16.c
        obtain ⟨⟨ta16_3, tc16_3, rfl⟩, -⟩ := id hS16.d
        simp only [qz]
        refine rg_nil ?_
        refine ek_rt ((sk _ ((sc _ (sc _ (sc _ (List.Sublist.append_left (List.Sublist.append_left (sc _ (sc _ sn)) _) _)))).trans (List.sublist_append_right _ _))).trans (List.sublist_append_right _ _)) ?_
        refine rt_hard1 (i := 10) Kx rfl ?_
        apply (rg_made (T := fun v u => ∃ s0 s1 s2 s3, v = wdV (z0.addR z1) s0 s1 s2 s3 ∧ SU4 u (z0.addR z1) s0 s1 s2 s3)) Rx Kx
        case hargs => exact Ax
        case h => exact fun w hw => wplus_any z0 z1 _ _ _ _ _ _ _ _ (Nm.fit_mono (to_fitB hz0.fit Ox (by have := hz0.k0; have := hz1.k0; have := hz0.k1; have := hz1.k1; omega)) (by decide)) (Nm.fit_mono (to_fitB hz1.fit Ox (by have := hz0.k0; have := hz1.k0; have := hz0.k1; have := hz1.k1; omega)) (by decide)) hz0.k0 (by have := hz0.k1; omega) hz1.k0 (by have := hz1.k1; omega) w (hS8.at hw ((List.Sublist.cons _ (List.sublist_append_left _ _)).trans (List.sublist_append_right _ _))) (hS16.at hw (List.sublist_append_left _ _))
        case hz => exact (fun _ h => by cases h; exact ((sk _ ((sc _ (sc _ (sc _ (List.Sublist.append_left (List.Sublist.append_left (sc _ (sc _ sn)) _) _)))).trans (List.sublist_append_right _ _))).trans (List.sublist_append_right _ _)))
        rintro _ u17 ⟨t0, t1, t2, t3, rfl, hS17⟩
        obtain ⟨⟨ta17_0, tc17_0, rfl⟩, -⟩ := id hS17.a
        obtain ⟨⟨ta17_1, tc17_1, rfl⟩, -⟩ := id hS17.b
        obtain ⟨⟨ta17_2, tc17_2, rfl⟩, -⟩ := id hS17.c
        obtain ⟨⟨ta17_3, tc17_3, rfl⟩, -⟩ := id hS17.d
        simp only [qz]
        refine rg_nil ?_
        refine ek_rt (((sk _ ((sc _ (sc _ (sc _ (List.Sublist.append_left (List.Sublist.append_left (sc _ (sc _ sn)) _) _)))).trans (List.sublist_append_right _ _))).trans (List.sublist_append_right _ _)).trans (List.sublist_append_right _ _)) ?_
        refine rt_hard1 (i := 11) Kx rfl ?_
        apply rg_pure Rx Kx
        case hargs => exact Ax
        case h => exact fun w hw => by have := wnum_any (z0.addR z1) _ _ _ _ (Nm.fit_mono (addR_fit hz0 hz1) (by decide)) (addR_k hz0.k0) (by have := hz0.k1; have := hz1.k1; show max z0.k z1.k ≤ 10000; omega) w (hS17.at hw (List.sublist_append_left _ _)); rw [hB.sum] at this; exact this
        case hz => exact (fun _ h => by cases h; exact (((sk _ ((sc _ (sc _ (sc _ (List.Sublist.append_left (List.Sublist.append_left (sc _ (sc _ sn)) _) _)))).trans (List.sublist_append_right _ _))).trans (List.sublist_append_right _ _)).trans (List.sublist_append_right _ _)))
        simp only [qz]
        refine rg_nil ?_
        refine ek_rt (((sk _ ((sc _ (sc _ (sc _ (List.Sublist.append_left (List.Sublist.append_left (sc _ (sc _ sn)) _) _)))).trans (List.sublist_append_right _ _))).trans (List.sublist_append_right _ _)).trans (List.sublist_append_right _ _)) ?_
        refine rt_soft (i := 12) rfl Kx (fun c d v a w h => by cases d <;> exact h) (((sk _ ((sc _ (sc _ (sc _ (List.Sublist.append_left (List.Sublist.append_left (sc _ (sc _ sn)) _) _)))).trans (List.sublist_append_right _ _))).trans (List.sublist_append_right _ _)).trans (List.sublist_append_right _ _)) ?_
        refine rg_move ?_
        simp only [qz]
        refine rg_nil ?_
        refine ek_rt (((sk _ ((sc _ (sc _ (sc _ (List.Sublist.append_left (List.Sublist.append_left (sc _ (sc _ sn)) _) _)))).trans (List.sublist_append_right _ _))).trans (List.sublist_append_right _ _)).trans (List.sublist_append_right _ _)) ?_
        refine rt_soft (i := 13) rfl Kx (fun c d v a w h => by cases d <;> exact h) (((sk _ ((sc _ (sc _ (sc _ (List.Sublist.append_left (List.Sublist.append_left (sc _ (sc _ sn)) _) _)))).trans (List.sublist_append_right _ _))).trans (List.sublist_append_right _ _)).trans (List.sublist_append_right _ _)) ?_
        refine rf_extract rfl rfl rfl rfl ?_
        simp only [qz]
        refine rg_nil ?_
        refine ek_rt (((sk _ ((sc _ (sc _ (sc _ (List.Sublist.append_left (List.Sublist.append_left (sc _ (sc _ sn)) _) _)))).trans (List.sublist_append_right _ _))).trans (List.sublist_append_right _ _)).trans (List.sublist_append_right _ _)) ?_
        refine rt_soft (i := 14) rfl Kx (fun c d v a w h => by cases d <;> exact h) (((sk _ ((sc _ (sc _ (sc _ (List.Sublist.append_left (List.Sublist.append_left (sc _ (sc _ sn)) _) _)))).trans (List.sublist_append_right _ _))).trans (List.sublist_append_right _ _)).trans (List.sublist_append_right _ _)) ?_
        refine rf_extract rfl rfl rfl rfl ?_
        simp only [qz]
        refine rg_nil ?_
        refine ek_rt (((sk _ ((sc _ (sc _ (sc _ (List.Sublist.append_left (List.Sublist.append_left (sc _ (sc _ sn)) _) _)))).trans (List.sublist_append_right _ _))).trans (List.sublist_append_right _ _)).trans (List.sublist_append_right _ _)) ?_
        refine rt_hard1 (i := 16) Kx rfl ?_
        refine rf_storeR (n := 5) rfl rfl Kx rfl rfl (UpdR.app _ (UpdR.app _ (UpdR.here _ _ _ Nl))) (fun _ h => by cases h; exact (((sk _ ((sc _ (sc _ (sc _ (List.Sublist.append_left (List.Sublist.append_left (sc _ (sc _ sn)) _) _)))).trans (List.sublist_append_right _ _))).trans (List.sublist_append_right _ _)).trans (List.sublist_append_right _ _))) ?_
        simp only [qz, Nat.reduceAdd]
        refine rg_nil ?_
        refine ek_rt (((sk _ ((sc _ (sc _ (sc _ (List.Sublist.append_left (List.Sublist.append_left (sc _ (sc _ sn)) _) _)))).trans (List.sublist_append_right _ _))).trans (List.sublist_append_right _ _)).trans (List.sublist_append_right _ _)) ?_
        refine rt_soft (i := 17) rfl Kx (fun c d v a w h => by cases d <;> exact h) (((sk _ ((sc _ (sc _ (sc _ (List.Sublist.append_left (List.Sublist.append_left (sc _ (sc _ sn)) _) _)))).trans (List.sublist_append_right _ _))).trans (List.sublist_append_right _ _)).trans (List.sublist_append_right _ _)) ?_
        refine rg_assign ?_
        simp only [qz]
        refine rg_nil ?_
        refine ek_rt (((sk _ ((sc _ (sc _ (sc _ (List.Sublist.append_left (List.Sublist.append_left (sc _ (sc _ sn)) _) _)))).trans (List.sublist_append_right _ _))).trans (List.sublist_append_right _ _)).trans (List.sublist_append_right _ _)) ?_
        refine rt_nil Kx ?_
        refine ek_next (wk_seq ?_)
        refine wk_draws _ _ [(0, 0), (1, 0), (2, 0), (3, 1), (4, 0), (5, 0), (6, 0), (7, 1), (8, 0), (9, 0)] [] Kx Kx (fun c d v a w h => by cases d <;> exact h) ((List.Sublist.append_left (List.Sublist.append_left (sc _ (List.Sublist.append_left (sc _ (sc _ (sc _ (List.Sublist.append_left (List.Sublist.append_left (sc _ (sc _ sn)) _) _)))) _)) _) _)) (fun e => by first | exact absurd e (by decide) | rfl) ?_
        simp only [List.map_cons, List.map_nil, List.getD_cons_zero, List.getD_cons_succ]
        refine rg_move ?_
        simp only [qz]
        refine rg_move ?_
        simp only [qz]
        refine rf_loadR (n := 5) rfl rfl rfl Try.underlying45 rfl Kx (fun w hw => Kn.hd0 (Kn.tlU (Kn.tlU hw))) rfl rfl ?_
        simp only [qz]
        apply rg_pure Rx Kx
        case hargs => exact Ax
        case h => exact fun w hw => rOneB_any w
        case hz => exact (fun _ h => by cases h; exact (List.Sublist.append_left (List.Sublist.append_left (sc _ (List.Sublist.append_left (sc _ (sc _ (sc _ (List.Sublist.append_left (List.Sublist.append_left (sc _ (sc _ sn)) _) _)))) _)) _) _))
        simp only [qz]
        refine rfb_eqN Nm.one Nm.one rfl rfl rfl rfl ?_
        intro x h7
        cases x
        · (try simp only [qd, ne_eq] at h7)
          simp only [qz]
          exact absurd trivial h7
        (try simp only [qd, ne_eq] at h7)
        simp only [qz]
        refine rf_pick rfl rfl rfl ?_
        simp only [qz]
        refine rg_move ?_
        simp only [qz]
        apply rg_pure Rx Kx
        case hargs => exact Ax
        case h => exact fun w hw => sane_any w
        case hz => exact (fun _ h => by cases h; exact (List.Sublist.append_left (List.Sublist.append_left (sc _ (List.Sublist.append_left (sc _ (sc _ (sc _ (List.Sublist.append_left (List.Sublist.append_left (sc _ (sc _ sn)) _) _)))) _)) _) _))
        simp only [qz]
        refine rf_pick rfl rfl rfl ?_
        simp only [qz]
        refine rg_assign ?_
        simp only [qz]
        refine rg_nil (ek_next (wk_ret ?_))
        refine ek_ret (fun w hw => ⟨rfl, _, res_t _ rfl, ?_⟩)
        (try simp only [qz])
        first | exact ⟨rfl, hw.below⟩ | exact ⟨trivial, hw.below⟩ | exact hw.below
      refine rg_new (cs := ?_) (ty := ?_) Rx (fun w => ?_) (fun _ h => by cases h; exact (sc _ (sc _ (sc _ (List.Sublist.append_left (List.Sublist.append_left (sc _ (sc _ sn)) _) _))))) (fun g18 => ?_); rotate_left 2
      focus (go_simp; rfl)
      simp only [qz]
      refine rg_nil ?_
      refine ek_rt (sk _ (sc _ (sc _ (sc _ (List.Sublist.append_left (List.Sublist.append_left (sc _ (sc _ sn)) _) _))))) ?_
      refine rt_hard1 (i := 4) Kx rfl ?_
      apply (rg_made (T := fun v u => ∃ s0 s1 s2 s3, v = wdV (z0) s0 s1 s2 s3 ∧ SU4 u (z0) s0 s1 s2 s3)) Rx Kx
      case hargs => exact Ax
      case h => exact fun w hw => wideOf_any z0 (Nm.fit_mono hz0.fit (by decide)) w
      case hz => exact (fun _ h => by cases h; exact (sk _ (sc _ (sc _ (sc _ (List.Sublist.append_left (List.Sublist.append_left (sc _ (sc _ sn)) _) _))))))
      rintro _ u19 ⟨t0, t1, t2, t3, rfl, hS19⟩
      obtain ⟨⟨ta19_0, tc19_0, rfl⟩, -⟩ := id hS19.a
      obtain ⟨⟨ta19_1, tc19_1, rfl⟩, -⟩ := id hS19.b
      obtain ⟨⟨ta19_2, tc19_2, rfl⟩, -⟩ := id hS19.c
      obtain ⟨⟨ta19_3, tc19_3, rfl⟩, -⟩ := id hS19.d
      simp only [qz]
      refine rg_nil ?_
      refine ek_rt ((sk _ (sc _ (sc _ (sc _ (List.Sublist.append_left (List.Sublist.append_left (sc _ (sc _ sn)) _) _))))).trans (List.sublist_append_right _ _)) ?_
      refine rt_hard1 (i := 9) Kx rfl ?_
      apply (rg_made (T := fun v u => ∃ s0 s1 s2 s3, v = wdV (z1) s0 s1 s2 s3 ∧ SU4 u (z1) s0 s1 s2 s3)) Rx Kx
      case hargs => exact Ax
      case h => exact fun w hw => wideOf_any z1 (Nm.fit_mono hz1.fit (by decide)) w
      case hz => exact (fun _ h => by cases h; exact ((sk _ (sc _ (sc _ (sc _ (List.Sublist.append_left (List.Sublist.append_left (sc _ (sc _ sn)) _) _))))).trans (List.sublist_append_right _ _)))
      rintro _ u20 ⟨t0, t1, t2, t3, rfl, hS20⟩
      obtain ⟨⟨ta20_0, tc20_0, rfl⟩, -⟩ := id hS20.a
      obtain ⟨⟨ta20_1, tc20_1, rfl⟩, -⟩ := id hS20.b
      obtain ⟨⟨ta20_2, tc20_2, rfl⟩, -⟩ := id hS20.c
      obtain ⟨⟨ta20_3, tc20_3, rfl⟩, -⟩ := id hS20.d
      simp only [qz]
      refine rg_nil ?_
      refine ek_rt (((sk _ (sc _ (sc _ (sc _ (List.Sublist.append_left (List.Sublist.append_left (sc _ (sc _ sn)) _) _))))).trans (List.sublist_append_right _ _)).trans (List.sublist_append_right _ _)) ?_
      refine rt_hard1 (i := 10) Kx rfl ?_
      apply (rg_made (T := fun v u => ∃ s0 s1 s2 s3, v = wdV (z0.addR z1) s0 s1 s2 s3 ∧ SU4 u (z0.addR z1) s0 s1 s2 s3)) Rx Kx
      case hargs => exact Ax
      case h => exact fun w hw => wplus_any z0 z1 _ _ _ _ _ _ _ _ (Nm.fit_mono (to_fitB hz0.fit Ox (by have := hz0.k0; have := hz1.k0; have := hz0.k1; have := hz1.k1; omega)) (by decide)) (Nm.fit_mono (to_fitB hz1.fit Ox (by have := hz0.k0; have := hz1.k0; have := hz0.k1; have := hz1.k1; omega)) (by decide)) hz0.k0 (by have := hz0.k1; omega) hz1.k0 (by have := hz1.k1; omega) w (hS19.at hw ((List.sublist_append_left _ _).trans (List.sublist_append_right _ _))) (hS20.at hw (List.sublist_append_left _ _))
      case hz => exact (fun _ h => by cases h; exact (((sk _ (sc _ (sc _ (sc _ (List.Sublist.append_left (List.Sublist.append_left (sc _ (sc _ sn)) _) _))))).trans (List.sublist_append_right _ _)).trans (List.sublist_append_right _ _)))
      rintro _ u21 ⟨t0, t1, t2, t3, rfl, hS21⟩
      obtain ⟨⟨ta21_0, tc21_0, rfl⟩, -⟩ := id hS21.a
      obtain ⟨⟨ta21_1, tc21_1, rfl⟩, -⟩ := id hS21.b
      obtain ⟨⟨ta21_2, tc21_2, rfl⟩, -⟩ := id hS21.c
      obtain ⟨⟨ta21_3, tc21_3, rfl⟩, -⟩ := id hS21.d
      simp only [qz]
      refine rg_nil ?_
      refine ek_rt ((((sk _ (sc _ (sc _ (sc _ (List.Sublist.append_left (List.Sublist.append_left (sc _ (sc _ sn)) _) _))))).trans (List.sublist_append_right _ _)).trans (List.sublist_append_right _ _)).trans (List.sublist_append_right _ _)) ?_
      refine rt_hard1 (i := 11) Kx rfl ?_
      apply rg_pure Rx Kx
      case hargs => exact Ax
      case h => exact fun w hw => by have := wnum_any (z0.addR z1) _ _ _ _ (Nm.fit_mono (addR_fit hz0 hz1) (by decide)) (addR_k hz0.k0) (by have := hz0.k1; have := hz1.k1; show max z0.k z1.k ≤ 10000; omega) w (hS21.at hw (List.sublist_append_left _ _)); rw [hB.sum] at this; exact this
      case hz => exact (fun _ h => by cases h; exact ((((sk _ (sc _ (sc _ (sc _ (List.Sublist.append_left (List.Sublist.append_left (sc _ (sc _ sn)) _) _))))).trans (List.sublist_append_right _ _)).trans (List.sublist_append_right _ _)).trans (List.sublist_append_right _ _)))
      simp only [qz]
      refine rg_nil ?_
      refine ek_rt ((((sk _ (sc _ (sc _ (sc _ (List.Sublist.append_left (List.Sublist.append_left (sc _ (sc _ sn)) _) _))))).trans (List.sublist_append_right _ _)).trans (List.sublist_append_right _ _)).trans (List.sublist_append_right _ _)) ?_
      refine rt_soft (i := 12) rfl Kx (fun c d v a w h => by cases d <;> exact h) ((((sk _ (sc _ (sc _ (sc _ (List.Sublist.append_left (List.Sublist.append_left (sc _ (sc _ sn)) _) _))))).trans (List.sublist_append_right _ _)).trans (List.sublist_append_right _ _)).trans (List.sublist_append_right _ _)) ?_
      refine rg_move ?_
      simp only [qz]
      refine rg_nil ?_
      refine ek_rt ((((sk _ (sc _ (sc _ (sc _ (List.Sublist.append_left (List.Sublist.append_left (sc _ (sc _ sn)) _) _))))).trans (List.sublist_append_right _ _)).trans (List.sublist_append_right _ _)).trans (List.sublist_append_right _ _)) ?_
      refine rt_soft (i := 13) rfl Kx (fun c d v a w h => by cases d <;> exact h) ((((sk _ (sc _ (sc _ (sc _ (List.Sublist.append_left (List.Sublist.append_left (sc _ (sc _ sn)) _) _))))).trans (List.sublist_append_right _ _)).trans (List.sublist_append_right _ _)).trans (List.sublist_append_right _ _)) ?_
      refine rf_extract rfl rfl rfl rfl ?_
      simp only [qz]
      refine rg_nil ?_
      refine ek_rt ((((sk _ (sc _ (sc _ (sc _ (List.Sublist.append_left (List.Sublist.append_left (sc _ (sc _ sn)) _) _))))).trans (List.sublist_append_right _ _)).trans (List.sublist_append_right _ _)).trans (List.sublist_append_right _ _)) ?_
      refine rt_soft (i := 14) rfl Kx (fun c d v a w h => by cases d <;> exact h) ((((sk _ (sc _ (sc _ (sc _ (List.Sublist.append_left (List.Sublist.append_left (sc _ (sc _ sn)) _) _))))).trans (List.sublist_append_right _ _)).trans (List.sublist_append_right _ _)).trans (List.sublist_append_right _ _)) ?_
      refine rf_extract rfl rfl rfl rfl ?_
      simp only [qz]
      refine rg_nil ?_
      refine ek_rt ((((sk _ (sc _ (sc _ (sc _ (List.Sublist.append_left (List.Sublist.append_left (sc _ (sc _ sn)) _) _))))).trans (List.sublist_append_right _ _)).trans (List.sublist_append_right _ _)).trans (List.sublist_append_right _ _)) ?_
      refine rt_hard1 (i := 16) Kx rfl ?_
      refine rf_storeR (n := 5) rfl rfl Kx rfl rfl (UpdR.app _ (UpdR.app _ (UpdR.app _ (UpdR.here _ _ _ Nl)))) (fun _ h => by cases h; exact ((((sk _ (sc _ (sc _ (sc _ (List.Sublist.append_left (List.Sublist.append_left (sc _ (sc _ sn)) _) _))))).trans (List.sublist_append_right _ _)).trans (List.sublist_append_right _ _)).trans (List.sublist_append_right _ _))) ?_
      simp only [qz, Nat.reduceAdd]
      refine rg_nil ?_
      refine ek_rt ((((sk _ (sc _ (sc _ (sc _ (List.Sublist.append_left (List.Sublist.append_left (sc _ (sc _ sn)) _) _))))).trans (List.sublist_append_right _ _)).trans (List.sublist_append_right _ _)).trans (List.sublist_append_right _ _)) ?_
      refine rt_soft (i := 17) rfl Kx (fun c d v a w h => by cases d <;> exact h) ((((sk _ (sc _ (sc _ (sc _ (List.Sublist.append_left (List.Sublist.append_left (sc _ (sc _ sn)) _) _))))).trans (List.sublist_append_right _ _)).trans (List.sublist_append_right _ _)).trans (List.sublist_append_right _ _)) ?_
      refine rg_assign ?_
      simp only [qz]
      refine rg_nil ?_
      refine ek_rt ((((sk _ (sc _ (sc _ (sc _ (List.Sublist.append_left (List.Sublist.append_left (sc _ (sc _ sn)) _) _))))).trans (List.sublist_append_right _ _)).trans (List.sublist_append_right _ _)).trans (List.sublist_append_right _ _)) ?_
      refine rt_nil Kx ?_
      refine ek_next (wk_seq ?_)
      refine wk_draws _ _ [(0, 0), (1, 0), (2, 0), (3, 1), (4, 0), (5, 0), (6, 0), (7, 1), (8, 0), (9, 0)] [] Kx Kx (fun c d v a w h => by cases d <;> exact h) ((List.Sublist.append_left (List.Sublist.append_left (List.Sublist.append_left (sc _ (sc _ (sc _ (sc _ (List.Sublist.append_left (List.Sublist.append_left (sc _ (sc _ sn)) _) _))))) _) _) _)) (fun e => by first | exact absurd e (by decide) | rfl) ?_
      simp only [List.map_cons, List.map_nil, List.getD_cons_zero, List.getD_cons_succ]
      refine rg_move ?_
      simp only [qz]
      refine rg_move ?_
      simp only [qz]
      refine rf_loadR (n := 5) rfl rfl rfl Try.underlying45 rfl Kx (fun w hw => Kn.hd0 (Kn.tlU (Kn.tlU (Kn.tlU hw)))) rfl rfl ?_
      simp only [qz]
      apply rg_pure Rx Kx
      case hargs => exact Ax
      case h => exact fun w hw => rOneB_any w
      case hz => exact (fun _ h => by cases h; exact (List.Sublist.append_left (List.Sublist.append_left (List.Sublist.append_left (sc _ (sc _ (sc _ (sc _ (List.Sublist.append_left (List.Sublist.append_left (sc _ (sc _ sn)) _) _))))) _) _) _))
      simp only [qz]
      refine rfb_eqN Nm.one Nm.one rfl rfl rfl rfl ?_
      intro x h8
      cases x
      · (try simp only [qd, ne_eq] at h8)
        simp only [qz]
        exact absurd trivial h8
      (try simp only [qd, ne_eq] at h8)
      simp only [qz]
      refine rf_pick rfl rfl rfl ?_
      simp only [qz]
      refine rg_move ?_
      simp only [qz]
      apply rg_pure Rx Kx
      case hargs => exact Ax
      case h => exact fun w hw => sane_any w
      case hz => exact (fun _ h => by cases h; exact (List.Sublist.append_left (List.Sublist.append_left (List.Sublist.append_left (sc _ (sc _ (sc _ (sc _ (List.Sublist.append_left (List.Sublist.append_left (sc _ (sc _ sn)) _) _))))) _) _) _))
      simp only [qz]
      refine rf_pick rfl rfl rfl ?_
      simp only [qz]
      refine rg_assign ?_
      simp only [qz]
      refine rg_nil (ek_next (wk_ret ?_))
      refine ek_ret (fun w hw => ⟨rfl, _, res_t _ rfl, ?_⟩)
      (try simp only [qz])
      first | exact ⟨rfl, hw.below⟩ | exact ⟨trivial, hw.below⟩ | exact hw.below
    (try simp only [qd, ne_eq] at h3)
    simp only [qz]
    exact absurd trivial h3
  (try simp only [qd, ne_eq] at h1)
  simp only [qz]
  exact absurd trivial h1

end Go.Proofs.Ytccbinnlnkpplaa
