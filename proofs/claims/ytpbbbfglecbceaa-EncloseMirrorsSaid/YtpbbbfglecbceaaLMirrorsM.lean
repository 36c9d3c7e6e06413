/- Mirror undoes itself, joining the mirrors in the other order meets the mirror of what was joined, and a two-port that lets all through changes nothing but what rounding widens: for all two-ports. -/
import Derived.Test.YtpbbbfglecbceaaRows
import Derived.Test.YtpbbbfglecbceaaMt1
import Derived.Test.YtpbbbfglecbceaaMt3
import Derived.Test.YtpbbbfglecbceaaMt8
import Derived.Test.YtpbbbfglecbceaaMt4
import Derived.Test.YtpbbbfglecbceaaMt5
import Derived.Test.YtpbbbfglecbceaaMt7
import Derived.Test.YtpbbbfglecbceaaLFMirrors
import Derived.WalkKit
import Derived.ProofKit
import Derived.OpenShut
namespace Go.Proofs.Ytpbbbfglecbceaa
set_option linter.all false
open Go.ChangeShapes Go.WideShapes Go.ChangeAt Go.RowKit
namespace LawMirrors

theorem sc {α : Type} {l m : List α} (a : α) (h : l.Sublist m) : (a :: l).Sublist (a :: m) := h.cons₂ a
theorem ok_of {p : En.Pt} (h : portOk p = true) : p.Ok := by
  simp only [portOk, Bool.and_eq_true] at h
  exact ⟨h.1.1.1, h.1.1.2, h.1.2, h.2⟩
theorem portOk_of {p : En.Pt} (h : p.Ok) : portOk p = true := by
  unfold portOk; rw [h.s00, h.s01, h.s10, h.s11]; rfl
theorem portOk_mir {p : En.Pt} (h : portOk p = true) : portOk (En.mir p) = true :=
  portOk_of ⟨(ok_of h).s11, (ok_of h).s10, (ok_of h).s01, (ok_of h).s00⟩
theorem starR_zero {p q z : En.Pt} {e : Int} (h : starR p q = (z, e)) (he : e = 0) : portOk p = true ∧ portOk q = true ∧ En.star p q = .ok z := by
  unfold starR at h
  split at h
  · rename_i hk
    simp only [Bool.and_eq_true] at hk
    refine ⟨hk.1, hk.2, ?_⟩
    cases hs : En.star p q with
    | error c =>
      rw [hs] at h
      have : c = e := congrArg Prod.snd h
      exact absurd (hs.trans (by rw [this, he])) (star_ne p q)
    | ok v => rw [hs] at h; exact congrArg _ (congrArg Prod.fst h)
  · have : (50 : Int) = e := congrArg Prod.snd h
    omega
theorem mirR_zero {q b : En.Pt} {e : Int} (h : mirR q = (b, e)) (he : e = 0) : portOk q = true ∧ b = En.mir q := by
  unfold mirR at h
  split at h
  · rename_i hk
    exact ⟨hk, (congrArg Prod.fst h).symm⟩
  · have : (50 : Int) = e := congrArg Prod.snd h
    omega
theorem thru_in {p z : En.Pt} {e : Int} (hp : portOk p = true) (h : starR p En.thru = (z, e)) (he : e = 0) : inB p.s00 z.s00 = true ∧ inB p.s01 z.s01 = true ∧ inB p.s10 z.s10 = true ∧ inB p.s11 z.s11 = true := by
  obtain ⟨_, _, hs⟩ := starR_zero h he
  obtain ⟨h1, h2, h3, h4⟩ := En.star_thru_in (ok_of hp) hs
  have k := ok_of hp
  have l := En.star_ok hs
  exact ⟨inB_of k.s00 l.s00 ⟨h1.1, h1.2⟩, inB_of k.s01 l.s01 ⟨h2.1, h2.2⟩, inB_of k.s10 l.s10 ⟨h3.1, h3.2⟩, inB_of k.s11 l.s11 ⟨h4.1, h4.2⟩⟩
def Met (x y : En.Rc) : Prop := ∃ r, capR x y = (r, true, 0)
theorem met_of {x y : En.Rc} (hx : x.ok = true) (hy : y.ok = true) (h : (En.capRc x y).ok = true) : Met x y := by
  unfold Met capR
  rw [hx, hy]
  exact ⟨⟨En.cap x.re y.re, En.cap x.im y.im⟩, (if_pos (by rfl)).trans (if_pos h)⟩
theorem mirrors_fin {p q b j t : En.Pt} {e f g : Int} (hp : portOk p = true) (hb : mirR q = (b, e)) (hj : starR p q = (j, f)) (ht : starR b (En.mir p) = (t, g)) (he : e = 0) (hf : f = 0) (hg : g = 0) :
    mirR t = (En.mir t, 0) ∧ b = En.mir q ∧ Met j.s00 t.s11 ∧ Met j.s01 t.s10 ∧ Met j.s10 t.s01 ∧ Met j.s11 t.s00 := by
  obtain ⟨hq, rfl⟩ := mirR_zero hb he
  obtain ⟨_, _, h1⟩ := starR_zero hj hf
  obtain ⟨_, _, h2⟩ := starR_zero ht hg
  obtain ⟨m1, m2, m3, m4⟩ := En.stars_meet (ok_of hp) (ok_of hq) h1 h2
  have k := En.star_ok h1
  have l := En.star_ok h2
  exact ⟨if_pos (portOk_of l), rfl, met_of k.s00 l.s11 m1, met_of k.s01 l.s10 m2, met_of k.s10 l.s01 m3, met_of k.s11 l.s00 m4⟩
set_option maxRecDepth 100000 in
set_option maxHeartbeats 4000000 in
theorem meet_true (p q : En.Pt) (h1 : Met p.s00 q.s00) (h2 : Met p.s01 q.s01) (h3 : Met p.s10 q.s10) (h4 : Met p.s11 q.s11) (w : World) : Calls Try.prog 53 #[ptV p, ptV q] w fun e w' => e = .returned (.bool true) ∧ Below w.heap.size w w' := by
  obtain ⟨r1, h1⟩ := h1
  obtain ⟨r2, h2⟩ := h2
  obtain ⟨r3, h3⟩ := h3
  obtain ⟨r4, h4⟩ := h4
  have C1 := meetE_any p.s00 q.s00
  simp only [h1] at C1
  replace C1 := Lib.hid C1
  have C2 := meetE_any p.s01 q.s01
  simp only [h2] at C2
  replace C2 := Lib.hid C2
  have C3 := meetE_any p.s10 q.s10
  simp only [h3] at C3
  replace C3 := Lib.hid C3
  have C4 := meetE_any p.s11 q.s11
  simp only [h4] at C4
  replace C4 := Lib.hid C4
  clear h1 h2 h3 h4
  go_enter Try.func53, Try.ntmps53
  refine wk_start ?_
  refine wk_seq ?_
  refine wk_region [1, 1, 0] rfl (by kernel_rfl) ?_
  simp only [List.zip_cons_cons, List.zip_nil_right]
  refine rg_new (cs := ?_) (ty := ?_) (by rfl) (fun w => ?_) (fun _ h => by cases h) (fun g1 => ?_); rotate_left 2
  focus (go_simp; rfl)
  simp only [Act.put, Act.eval, qn, qv, Nat.reduceAdd]
  refine rg_new (cs := ?_) (ty := ?_) (by rfl) (fun w => ?_) (fun _ h => by cases h) (fun g2 => ?_); rotate_left 2
  focus (go_simp; rfl)
  simp only [Act.put, Act.eval, qn, qv, Nat.reduceAdd]
  refine rg_assign ?_
  simp only [Act.put, Act.eval, qn, qv, Nat.reduceAdd]
  refine rg_nil ?_
  refine ek_next ?_
  refine wk_seq ?_
  refine wk_seq ?_
  refine wk_region [0] rfl (by kernel_rfl) ?_
  simp only [List.zip_cons_cons, List.zip_nil_right]
  refine rg_move ?_
  simp only [Act.put, Act.eval, qn, qv, Nat.reduceAdd]
  refine rg_nil ?_
  refine ek_next ?_
  refine wk_block ?_
  refine wk_unroll 3 ?_
  refine wk_seq ?_
  refine wk_region [0] rfl (by kernel_rfl) ?_
  simp only [List.zip_cons_cons, List.zip_nil_right]
  refine rf_lss (b := true) rfl rfl rfl rfl (by decide) ?_
  simp only [Act.put, Act.eval, qn, qv, Nat.reduceAdd]
  refine rg_nil ?_
  refine ek_next ?_
  refine wk_seq ?_
  refine wk_cond_t rfl ?_
  refine wk_skip ?_
  refine ek_next ?_
  refine wk_seq ?_
  refine wk_block ?_
  refine wk_seq ?_
  refine wk_region [0, 0] rfl (by kernel_rfl) ?_
  simp only [List.zip_cons_cons, List.zip_nil_right]
  refine rg_move ?_
  simp only [Act.put, Act.eval, qn, qv, Nat.reduceAdd]
  refine rg_assign ?_
  simp only [Act.put, Act.eval, qn, qv, Nat.reduceAdd]
  refine rg_nil ?_
  refine ek_next ?_
  refine wk_seq ?_
  refine wk_region [0] rfl (by kernel_rfl) ?_
  simp only [List.zip_cons_cons, List.zip_nil_right]
  refine rg_move ?_
  simp only [Act.put, Act.eval, qn, qv, Nat.reduceAdd]
  refine rg_nil ?_
  refine ek_next ?_
  refine wk_block ?_
  refine wk_unroll 3 ?_
  refine wk_seq ?_
  refine wk_region [0] rfl (by kernel_rfl) ?_
  simp only [List.zip_cons_cons, List.zip_nil_right]
  refine rf_lss (b := true) rfl rfl rfl rfl (by decide) ?_
  simp only [Act.put, Act.eval, qn, qv, Nat.reduceAdd]
  refine rg_nil ?_
  refine ek_next ?_
  refine wk_seq ?_
  refine wk_cond_t rfl ?_
  refine wk_skip ?_
  refine ek_next ?_
  refine wk_seq ?_
  refine wk_block ?_
  refine wk_seq ?_
  refine wk_region [0, 0] rfl (by kernel_rfl) ?_
  simp only [List.zip_cons_cons, List.zip_nil_right]
  refine rg_move ?_
  simp only [Act.put, Act.eval, qn, qv, Nat.reduceAdd]
  refine rg_assign ?_
  simp only [Act.put, Act.eval, qn, qv, Nat.reduceAdd]
  refine rg_nil ?_
  refine ek_next ?_
  refine wk_cutF [7, 8, 9, 16, 17, 18, 19, 20, 21, 22, 23, 24, 25, 26, 27, 28, 29, 30, 31, 32] (fun f s => f 8 = .bool true ∧ f 9 = .int .i64 0 ∧ s = ((g2, .cells #[.int .i64 q.s00.re.lo, .int .i64 q.s00.re.hi, .int .i64 q.s00.im.lo, .int .i64 q.s00.im.hi, .int .i64 q.s01.re.lo, .int .i64 q.s01.re.hi, .int .i64 q.s01.im.lo, .int .i64 q.s01.im.hi, .int .i64 q.s10.re.lo, .int .i64 q.s10.re.hi, .int .i64 q.s10.im.lo, .int .i64 q.s10.im.hi, .int .i64 q.s11.re.lo, .int .i64 q.s11.re.hi, .int .i64 q.s11.im.lo, .int .i64 q.s11.im.hi] 49) :: ((g1, .cells #[.int .i64 p.s00.re.lo, .int .i64 p.s00.re.hi, .int .i64 p.s00.im.lo, .int .i64 p.s00.im.hi, .int .i64 p.s01.re.lo, .int .i64 p.s01.re.hi, .int .i64 p.s01.im.lo, .int .i64 p.s01.im.hi, .int .i64 p.s10.re.lo, .int .i64 p.s10.re.hi, .int .i64 p.s10.im.lo, .int .i64 p.s10.im.hi, .int .i64 p.s11.re.lo, .int .i64 p.s11.re.hi, .int .i64 p.s11.im.lo, .int .i64 p.s11.im.hi] 49) :: []))) ?_ ?_
  · refine wk_rt _ (by kernel_rfl) (sc _ (sc _ List.Sublist.slnil)) ?_
    refine rt_soft (i := 0) rfl (by kernel_rfl) (fun c d v a w h => by cases d <;> exact h) (sc _ (sc _ List.Sublist.slnil)) ?_
    refine rg_move ?_
    simp only [Act.put, Act.eval, qn, qv, Nat.reduceAdd]
    refine rg_nil ?_
    refine ek_rt (sc _ (sc _ List.Sublist.slnil)) ?_
    refine rt_soft (i := 1) rfl (by kernel_rfl) (fun c d v a w h => by cases d <;> exact h) (sc _ (sc _ List.Sublist.slnil)) ?_
    refine rg_move ?_
    simp only [Act.put, Act.eval, qn, qv, Nat.reduceAdd]
    refine rg_nil ?_
    refine ek_rt (sc _ (sc _ List.Sublist.slnil)) ?_
    refine rt_soft (i := 2) rfl (by kernel_rfl) (fun c d v a w h => by cases d <;> exact h) (sc _ (sc _ List.Sublist.slnil)) ?_
    refine rf_field (n := 15) (j := 0) rfl rfl rfl Try.underlying49 rfl (by kernel_rfl) rfl ?_
    simp only [Act.put, Act.eval, qn, qv, Nat.reduceAdd]
    refine rg_nil ?_
    refine ek_rt (sc _ (sc _ List.Sublist.slnil)) ?_
    refine rt_soft (i := 3) rfl (by kernel_rfl) (fun c d v a w h => by cases d <;> exact h) (sc _ (sc _ List.Sublist.slnil)) ?_
    refine rf_indexA (n := 0) (sz := 8) (j := 0) rfl rfl rfl rfl Try.underlying47 (by kernel_rfl) (by decide) rfl ?_
    simp only [Act.put, Act.eval, qn, qv, Nat.reduceAdd]
    refine rg_nil ?_
    refine ek_rt (sc _ (sc _ List.Sublist.slnil)) ?_
    refine rt_soft (i := 4) rfl (by kernel_rfl) (fun c d v a w h => by cases d <;> exact h) (sc _ (sc _ List.Sublist.slnil)) ?_
    refine rf_indexA (n := 0) (sz := 4) (j := 0) rfl rfl rfl rfl Try.underlying46 (by kernel_rfl) (by decide) rfl ?_
    simp only [Act.put, Act.eval, qn, qv, Nat.reduceAdd]
    refine rg_nil ?_
    refine ek_rt (sc _ (sc _ List.Sublist.slnil)) ?_
    refine rt_soft (i := 5) rfl (by kernel_rfl) (fun c d v a w h => by cases d <;> exact h) (sc _ (sc _ List.Sublist.slnil)) ?_
    refine rf_loadR (n := 4) rfl rfl rfl Try.underlying25 rfl (by kernel_rfl) (fun w hw => Kn.hd0 (Kn.tl hw)) rfl rfl ?_
    simp only [Act.put, Act.eval, qn, qv, Nat.reduceAdd]
    refine rg_nil ?_
    refine ek_rt (sc _ (sc _ List.Sublist.slnil)) ?_
    refine rt_soft (i := 6) rfl (by kernel_rfl) (fun c d v a w h => by cases d <;> exact h) (sc _ (sc _ List.Sublist.slnil)) ?_
    refine rg_move ?_
    simp only [Act.put, Act.eval, qn, qv, Nat.reduceAdd]
    refine rg_nil ?_
    refine ek_rt (sc _ (sc _ List.Sublist.slnil)) ?_
    refine rt_soft (i := 7) rfl (by kernel_rfl) (fun c d v a w h => by cases d <;> exact h) (sc _ (sc _ List.Sublist.slnil)) ?_
    refine rg_move ?_
    simp only [Act.put, Act.eval, qn, qv, Nat.reduceAdd]
    refine rg_nil ?_
    refine ek_rt (sc _ (sc _ List.Sublist.slnil)) ?_
    refine rt_soft (i := 8) rfl (by kernel_rfl) (fun c d v a w h => by cases d <;> exact h) (sc _ (sc _ List.Sublist.slnil)) ?_
    refine rf_field (n := 15) (j := 0) rfl rfl rfl Try.underlying49 rfl (by kernel_rfl) rfl ?_
    simp only [Act.put, Act.eval, qn, qv, Nat.reduceAdd]
    refine rg_nil ?_
    refine ek_rt (sc _ (sc _ List.Sublist.slnil)) ?_
    refine rt_soft (i := 9) rfl (by kernel_rfl) (fun c d v a w h => by cases d <;> exact h) (sc _ (sc _ List.Sublist.slnil)) ?_
    refine rf_indexA (n := 0) (sz := 8) (j := 0) rfl rfl rfl rfl Try.underlying47 (by kernel_rfl) (by decide) rfl ?_
    simp only [Act.put, Act.eval, qn, qv, Nat.reduceAdd]
    refine rg_nil ?_
    refine ek_rt (sc _ (sc _ List.Sublist.slnil)) ?_
    refine rt_soft (i := 10) rfl (by kernel_rfl) (fun c d v a w h => by cases d <;> exact h) (sc _ (sc _ List.Sublist.slnil)) ?_
    refine rf_indexA (n := 0) (sz := 4) (j := 0) rfl rfl rfl rfl Try.underlying46 (by kernel_rfl) (by decide) rfl ?_
    simp only [Act.put, Act.eval, qn, qv, Nat.reduceAdd]
    refine rg_nil ?_
    refine ek_rt (sc _ (sc _ List.Sublist.slnil)) ?_
    refine rt_soft (i := 11) rfl (by kernel_rfl) (fun c d v a w h => by cases d <;> exact h) (sc _ (sc _ List.Sublist.slnil)) ?_
    refine rf_loadR (n := 4) rfl rfl rfl Try.underlying25 rfl (by kernel_rfl) (fun w hw => Kn.hd0 hw) rfl rfl ?_
    simp only [Act.put, Act.eval, qn, qv, Nat.reduceAdd]
    refine rg_nil ?_
    refine ek_rt (sc _ (sc _ List.Sublist.slnil)) ?_
    refine rt_hard2 (i := 12) (j := 17) (by kernel_rfl) rfl rfl ?_ ?_
    · apply rg_pure (by rfl) (by kernel_rfl)
      case hargs => (simp only [qm, qs, Act.eval]; exact rfl)
      case h => exact fun w hw => C1.out w
      case hz => exact (fun _ h => by cases h; exact (sc _ (sc _ List.Sublist.slnil)))
      simp only [Act.put, Act.eval, qn, qv, Nat.reduceAdd]
      refine rg_nil ?_
      refine ek_rt (sc _ (sc _ List.Sublist.slnil)) ?_
      refine rt_soft (i := 13) rfl (by kernel_rfl) (fun c d v a w h => by cases d <;> exact h) (sc _ (sc _ List.Sublist.slnil)) ?_
      refine rg_move ?_
      simp only [Act.put, Act.eval, qn, qv, Nat.reduceAdd]
      refine rg_nil ?_
      refine ek_rt (sc _ (sc _ List.Sublist.slnil)) ?_
      refine rt_soft (i := 14) rfl (by kernel_rfl) (fun c d v a w h => by cases d <;> exact h) (sc _ (sc _ List.Sublist.slnil)) ?_
      refine rf_extract rfl rfl rfl rfl ?_
      simp only [Act.put, Act.eval, qn, qv, Nat.reduceAdd]
      refine rg_nil ?_
      refine ek_rt (sc _ (sc _ List.Sublist.slnil)) ?_
      refine rt_soft (i := 15) rfl (by kernel_rfl) (fun c d v a w h => by cases d <;> exact h) (sc _ (sc _ List.Sublist.slnil)) ?_
      refine rf_extract rfl rfl rfl rfl ?_
      simp only [Act.put, Act.eval, qn, qv, Nat.reduceAdd]
      refine rg_nil ?_
      refine ek_rt (sc _ (sc _ List.Sublist.slnil)) ?_
      refine rt_soft (i := 16) rfl (by kernel_rfl) (fun c d v a w h => by cases d <;> exact h) (sc _ (sc _ List.Sublist.slnil)) ?_
      refine rf_extract rfl rfl rfl rfl ?_
      simp only [Act.put, Act.eval, qn, qv, Nat.reduceAdd]
      refine rg_nil ?_
      refine ek_rt (sc _ (sc _ List.Sublist.slnil)) ?_
      refine rt_hard1 (i := 17) (by kernel_rfl) rfl ?_
      refine rg_new (cs := ?_) (ty := ?_) (by rfl) (fun w => ?_) (fun _ h => by cases h; exact (sc _ (sc _ List.Sublist.slnil))) (fun g3 => ?_); rotate_left 2
      focus (go_simp; rfl)
      simp only [Act.put, Act.eval, qn, qv, Nat.reduceAdd]
      refine rg_nil ?_
      refine ek_rt (List.Sublist.cons _ (sc _ (sc _ List.Sublist.slnil))) ?_
      refine rt_hard1 (i := 18) (by kernel_rfl) rfl ?_
      refine rf_storeR (n := 4) rfl rfl (by kernel_rfl) rfl rfl (UpdR.here _ _ _ (Nat.le_of_ble_eq_true rfl)) (fun _ h => by cases h; exact (List.Sublist.cons _ (sc _ (sc _ List.Sublist.slnil)))) ?_
      simp only [Act.put, Act.eval, qn, qv, Nat.reduceAdd]
      refine rg_nil ?_
      refine ek_rt (List.Sublist.cons _ (sc _ (sc _ List.Sublist.slnil))) ?_
      refine rt_soft (i := 19) rfl (by kernel_rfl) (fun c d v a w h => by cases d <;> exact h) (List.Sublist.cons _ (sc _ (sc _ List.Sublist.slnil))) ?_
      refine rg_assign ?_
      simp only [Act.put, Act.eval, qn, qv, Nat.reduceAdd]
      refine rg_nil ?_
      refine ek_rt (List.Sublist.cons _ (sc _ (sc _ List.Sublist.slnil))) ?_
      refine rt_soft (i := 20) rfl (by kernel_rfl) (fun c d v a w h => by cases d <;> exact h) (List.Sublist.cons _ (sc _ (sc _ List.Sublist.slnil))) ?_
      refine rg_assign ?_
      simp only [Act.put, Act.eval, qn, qv, Nat.reduceAdd]
      refine rg_nil ?_
      refine ek_rt (List.Sublist.cons _ (sc _ (sc _ List.Sublist.slnil))) ?_
      refine rt_nil (by kernel_rfl) ?_
      refine ek_sub (List.Sublist.cons _ (sc _ (sc _ List.Sublist.slnil))) ?_
      refine ek_midF (by kernel_rfl) ?_
      exact ⟨rfl, rfl, by rfl⟩
    · refine rg_new (cs := ?_) (ty := ?_) (by rfl) (fun w => ?_) (fun _ h => by cases h; exact (sc _ (sc _ List.Sublist.slnil))) (fun g4 => ?_); rotate_left 2
      focus (go_simp; rfl)
      simp only [Act.put, Act.eval, qn, qv, Nat.reduceAdd]
      refine rg_nil ?_
      refine ek_rt (List.Sublist.cons _ (sc _ (sc _ List.Sublist.slnil))) ?_
      refine rt_hard1 (i := 12) (by kernel_rfl) rfl ?_
      apply rg_pure (by rfl) (by kernel_rfl)
      case hargs => (simp only [qm, qs, Act.eval]; exact rfl)
      case h => exact fun w hw => C1.out w
      case hz => exact (fun _ h => by cases h; exact (List.Sublist.cons _ (sc _ (sc _ List.Sublist.slnil))))
      simp only [Act.put, Act.eval, qn, qv, Nat.reduceAdd]
      refine rg_nil ?_
      refine ek_rt (List.Sublist.cons _ (sc _ (sc _ List.Sublist.slnil))) ?_
      refine rt_soft (i := 13) rfl (by kernel_rfl) (fun c d v a w h => by cases d <;> exact h) (List.Sublist.cons _ (sc _ (sc _ List.Sublist.slnil))) ?_
      refine rg_move ?_
      simp only [Act.put, Act.eval, qn, qv, Nat.reduceAdd]
      refine rg_nil ?_
      refine ek_rt (List.Sublist.cons _ (sc _ (sc _ List.Sublist.slnil))) ?_
      refine rt_soft (i := 14) rfl (by kernel_rfl) (fun c d v a w h => by cases d <;> exact h) (List.Sublist.cons _ (sc _ (sc _ List.Sublist.slnil))) ?_
      refine rf_extract rfl rfl rfl rfl ?_
      simp only [Act.put, Act.eval, qn, qv, Nat.reduceAdd]
      refine rg_nil ?_
      refine ek_rt (List.Sublist.cons _ (sc _ (sc _ List.Sublist.slnil))) ?_
      refine rt_soft (i := 15) rfl (by kernel_rfl) (fun c d v a w h => by cases d <;> exact h) (List.Sublist.cons _ (sc _ (sc _ List.Sublist.slnil))) ?_
      refine rf_extract rfl rfl rfl rfl ?_
      simp only [Act.put, Act.eval, qn, qv, Nat.reduceAdd]
      refine rg_nil ?_
      refine ek_rt (List.Sublist.cons _ (sc _ (sc _ List.Sublist.slnil))) ?_
      refine rt_soft (i := 16) rfl (by kernel_rfl) (fun c d v a w h => by cases d <;> exact h) (List.Sublist.cons _ (sc _ (sc _ List.Sublist.slnil))) ?_
      refine rf_extract rfl rfl rfl rfl ?_
      simp only [Act.put, Act.eval, qn, qv, Nat.reduceAdd]
      refine rg_nil ?_
      refine ek_rt (List.Sublist.cons _ (sc _ (sc _ List.Sublist.slnil))) ?_
      refine rt_hard1 (i := 18) (by kernel_rfl) rfl ?_
      refine rf_storeR (n := 4) rfl rfl (by kernel_rfl) rfl rfl (UpdR.here _ _ _ (Nat.le_of_ble_eq_true rfl)) (fun _ h => by cases h; exact (List.Sublist.cons _ (sc _ (sc _ List.Sublist.slnil)))) ?_
      simp only [Act.put, Act.eval, qn, qv, Nat.reduceAdd]
      refine rg_nil ?_
      refine ek_rt (List.Sublist.cons _ (sc _ (sc _ List.Sublist.slnil))) ?_
      refine rt_soft (i := 19) rfl (by kernel_rfl) (fun c d v a w h => by cases d <;> exact h) (List.Sublist.cons _ (sc _ (sc _ List.Sublist.slnil))) ?_
      refine rg_assign ?_
      simp only [Act.put, Act.eval, qn, qv, Nat.reduceAdd]
      refine rg_nil ?_
      refine ek_rt (List.Sublist.cons _ (sc _ (sc _ List.Sublist.slnil))) ?_
      refine rt_soft (i := 20) rfl (by kernel_rfl) (fun c d v a w h => by cases d <;> exact h) (List.Sublist.cons _ (sc _ (sc _ List.Sublist.slnil))) ?_
      refine rg_assign ?_
      simp only [Act.put, Act.eval, qn, qv, Nat.reduceAdd]
      refine rg_nil ?_
      refine ek_rt (List.Sublist.cons _ (sc _ (sc _ List.Sublist.slnil))) ?_
      refine rt_nil (by kernel_rfl) ?_
      refine ek_sub (List.Sublist.cons _ (sc _ (sc _ List.Sublist.slnil))) ?_
      refine ek_midF (by kernel_rfl) ?_
      exact ⟨rfl, rfl, by rfl⟩
  · rintro f1 s ⟨hs1_8, hs1_9, rfl⟩
    simp only [Act.putF, List.foldl_cons, List.foldl_nil, hs1_8, hs1_9, Act.put, Act.eval, q1, q2, q3, q4, q5, q6, q7, q8, q9, q10, q11, q12, q13, q14, q15, q16, q17, q18, Nat.reduceAdd, Bool.not_true, Bool.not_false]
    clear hs1_8 hs1_9
    refine wk_seq ?_
    refine wk_region [0, 0, 0, 0, 0, 0] rfl (by kernel_rfl) ?_
    simp only [List.zip_cons_cons, List.zip_nil_right]
    refine rg_move ?_
    simp only [Act.put, Act.eval, qn, qv, Nat.reduceAdd]
    refine rf_not rfl rfl rfl ?_
    simp only [Act.put, Act.eval, qn, qv, Nat.reduceAdd]
    refine rg_move ?_
    simp only [Act.put, Act.eval, qn, qv, Nat.reduceAdd]
    apply rg_soft_g
    case hg => rfl
    case hy => (intro w hw; go_simp; (try go_bits); exact Yld.mk _ _)
    simp only [Act.put, Act.eval, qn, qv, Nat.reduceAdd]
    refine rf_neq (b := false) rfl rfl rfl rfl (by decide) ?_
    simp only [Act.put, Act.eval, qn, qv, Nat.reduceAdd]
    refine rf_pick rfl rfl rfl ?_
    simp only [Act.put, Act.eval, qn, qv, Nat.reduceAdd]
    refine rg_nil ?_
    refine ek_next ?_
    refine wk_cond_f rfl ?_
    refine wk_skip ?_
    refine ek_block ?_
    refine ek_next ?_
    refine wk_region [0, 0] rfl (by kernel_rfl) ?_
    simp only [List.zip_cons_cons, List.zip_nil_right]
    refine rf_add (r := 1) rfl rfl rfl rfl (by decide) ?_
    simp only [Act.put, Act.eval, qn, qv, Nat.reduceAdd]
    refine rg_move ?_
    simp only [Act.put, Act.eval, qn, qv, Nat.reduceAdd]
    refine rg_nil ?_
    refine ek_again ?_
    refine wk_seq ?_
    refine wk_region [0] rfl (by kernel_rfl) ?_
    simp only [List.zip_cons_cons, List.zip_nil_right]
    refine rf_lss (b := true) rfl rfl rfl rfl (by decide) ?_
    simp only [Act.put, Act.eval, qn, qv, Nat.reduceAdd]
    refine rg_nil ?_
    refine ek_next ?_
    refine wk_seq ?_
    refine wk_cond_t rfl ?_
    refine wk_skip ?_
    refine ek_next ?_
    refine wk_seq ?_
    refine wk_block ?_
    refine wk_seq ?_
    refine wk_region [0, 0] rfl (by kernel_rfl) ?_
    simp only [List.zip_cons_cons, List.zip_nil_right]
    refine rg_move ?_
    simp only [Act.put, Act.eval, qn, qv, Nat.reduceAdd]
    refine rg_assign ?_
    simp only [Act.put, Act.eval, qn, qv, Nat.reduceAdd]
    refine rg_nil ?_
    refine ek_next ?_
    refine wk_cutF [7, 8, 9, 16, 17, 18, 19, 20, 21, 22, 23, 24, 25, 26, 27, 28, 29, 30, 31, 32] (fun f s => f 8 = .bool true ∧ f 9 = .int .i64 0 ∧ s = ((g2, .cells #[.int .i64 q.s00.re.lo, .int .i64 q.s00.re.hi, .int .i64 q.s00.im.lo, .int .i64 q.s00.im.hi, .int .i64 q.s01.re.lo, .int .i64 q.s01.re.hi, .int .i64 q.s01.im.lo, .int .i64 q.s01.im.hi, .int .i64 q.s10.re.lo, .int .i64 q.s10.re.hi, .int .i64 q.s10.im.lo, .int .i64 q.s10.im.hi, .int .i64 q.s11.re.lo, .int .i64 q.s11.re.hi, .int .i64 q.s11.im.lo, .int .i64 q.s11.im.hi] 49) :: ((g1, .cells #[.int .i64 p.s00.re.lo, .int .i64 p.s00.re.hi, .int .i64 p.s00.im.lo, .int .i64 p.s00.im.hi, .int .i64 p.s01.re.lo, .int .i64 p.s01.re.hi, .int .i64 p.s01.im.lo, .int .i64 p.s01.im.hi, .int .i64 p.s10.re.lo, .int .i64 p.s10.re.hi, .int .i64 p.s10.im.lo, .int .i64 p.s10.im.hi, .int .i64 p.s11.re.lo, .int .i64 p.s11.re.hi, .int .i64 p.s11.im.lo, .int .i64 p.s11.im.hi] 49) :: []))) ?_ ?_
    · refine wk_rt _ (by kernel_rfl) (sc _ (sc _ List.Sublist.slnil)) ?_
      refine rt_soft (i := 0) rfl (by kernel_rfl) (fun c d v a w h => by cases d <;> exact h) (sc _ (sc _ List.Sublist.slnil)) ?_
      refine rg_move ?_
      simp only [Act.put, Act.eval, qn, qv, Nat.reduceAdd]
      refine rg_nil ?_
      refine ek_rt (sc _ (sc _ List.Sublist.slnil)) ?_
      refine rt_soft (i := 1) rfl (by kernel_rfl) (fun c d v a w h => by cases d <;> exact h) (sc _ (sc _ List.Sublist.slnil)) ?_
      refine rg_move ?_
      simp only [Act.put, Act.eval, qn, qv, Nat.reduceAdd]
      refine rg_nil ?_
      refine ek_rt (sc _ (sc _ List.Sublist.slnil)) ?_
      refine rt_soft (i := 2) rfl (by kernel_rfl) (fun c d v a w h => by cases d <;> exact h) (sc _ (sc _ List.Sublist.slnil)) ?_
      refine rf_field (n := 15) (j := 0) rfl rfl rfl Try.underlying49 rfl (by kernel_rfl) rfl ?_
      simp only [Act.put, Act.eval, qn, qv, Nat.reduceAdd]
      refine rg_nil ?_
      refine ek_rt (sc _ (sc _ List.Sublist.slnil)) ?_
      refine rt_soft (i := 3) rfl (by kernel_rfl) (fun c d v a w h => by cases d <;> exact h) (sc _ (sc _ List.Sublist.slnil)) ?_
      refine rf_indexA (n := 0) (sz := 8) (j := 0) rfl rfl rfl rfl Try.underlying47 (by kernel_rfl) (by decide) rfl ?_
      simp only [Act.put, Act.eval, qn, qv, Nat.reduceAdd]
      refine rg_nil ?_
      refine ek_rt (sc _ (sc _ List.Sublist.slnil)) ?_
      refine rt_soft (i := 4) rfl (by kernel_rfl) (fun c d v a w h => by cases d <;> exact h) (sc _ (sc _ List.Sublist.slnil)) ?_
      refine rf_indexA (n := 1) (sz := 4) (j := 4) rfl rfl rfl rfl Try.underlying46 (by kernel_rfl) (by decide) rfl ?_
      simp only [Act.put, Act.eval, qn, qv, Nat.reduceAdd]
      refine rg_nil ?_
      refine ek_rt (sc _ (sc _ List.Sublist.slnil)) ?_
      refine rt_soft (i := 5) rfl (by kernel_rfl) (fun c d v a w h => by cases d <;> exact h) (sc _ (sc _ List.Sublist.slnil)) ?_
      refine rf_loadR (n := 4) rfl rfl rfl Try.underlying25 rfl (by kernel_rfl) (fun w hw => Kn.hd0 (Kn.tl hw)) rfl rfl ?_
      simp only [Act.put, Act.eval, qn, qv, Nat.reduceAdd]
      refine rg_nil ?_
      refine ek_rt (sc _ (sc _ List.Sublist.slnil)) ?_
      refine rt_soft (i := 6) rfl (by kernel_rfl) (fun c d v a w h => by cases d <;> exact h) (sc _ (sc _ List.Sublist.slnil)) ?_
      refine rg_move ?_
      simp only [Act.put, Act.eval, qn, qv, Nat.reduceAdd]
      refine rg_nil ?_
      refine ek_rt (sc _ (sc _ List.Sublist.slnil)) ?_
      refine rt_soft (i := 7) rfl (by kernel_rfl) (fun c d v a w h => by cases d <;> exact h) (sc _ (sc _ List.Sublist.slnil)) ?_
      refine rg_move ?_
      simp only [Act.put, Act.eval, qn, qv, Nat.reduceAdd]
      refine rg_nil ?_
      refine ek_rt (sc _ (sc _ List.Sublist.slnil)) ?_
      refine rt_soft (i := 8) rfl (by kernel_rfl) (fun c d v a w h => by cases d <;> exact h) (sc _ (sc _ List.Sublist.slnil)) ?_
      refine rf_field (n := 15) (j := 0) rfl rfl rfl Try.underlying49 rfl (by kernel_rfl) rfl ?_
      simp only [Act.put, Act.eval, qn, qv, Nat.reduceAdd]
      refine rg_nil ?_
      refine ek_rt (sc _ (sc _ List.Sublist.slnil)) ?_
      refine rt_soft (i := 9) rfl (by kernel_rfl) (fun c d v a w h => by cases d <;> exact h) (sc _ (sc _ List.Sublist.slnil)) ?_
      refine rf_indexA (n := 0) (sz := 8) (j := 0) rfl rfl rfl rfl Try.underlying47 (by kernel_rfl) (by decide) rfl ?_
      simp only [Act.put, Act.eval, qn, qv, Nat.reduceAdd]
      refine rg_nil ?_
      refine ek_rt (sc _ (sc _ List.Sublist.slnil)) ?_
      refine rt_soft (i := 10) rfl (by kernel_rfl) (fun c d v a w h => by cases d <;> exact h) (sc _ (sc _ List.Sublist.slnil)) ?_
      refine rf_indexA (n := 1) (sz := 4) (j := 4) rfl rfl rfl rfl Try.underlying46 (by kernel_rfl) (by decide) rfl ?_
      simp only [Act.put, Act.eval, qn, qv, Nat.reduceAdd]
      refine rg_nil ?_
      refine ek_rt (sc _ (sc _ List.Sublist.slnil)) ?_
      refine rt_soft (i := 11) rfl (by kernel_rfl) (fun c d v a w h => by cases d <;> exact h) (sc _ (sc _ List.Sublist.slnil)) ?_
      refine rf_loadR (n := 4) rfl rfl rfl Try.underlying25 rfl (by kernel_rfl) (fun w hw => Kn.hd0 hw) rfl rfl ?_
      simp only [Act.put, Act.eval, qn, qv, Nat.reduceAdd]
      refine rg_nil ?_
      refine ek_rt (sc _ (sc _ List.Sublist.slnil)) ?_
      refine rt_hard2 (i := 12) (j := 17) (by kernel_rfl) rfl rfl ?_ ?_
      · apply rg_pure (by rfl) (by kernel_rfl)
        case hargs => (simp only [qm, qs, Act.eval]; exact rfl)
        case h => exact fun w hw => C2.out w
        case hz => exact (fun _ h => by cases h; exact (sc _ (sc _ List.Sublist.slnil)))
        simp only [Act.put, Act.eval, qn, qv, Nat.reduceAdd]
        refine rg_nil ?_
        refine ek_rt (sc _ (sc _ List.Sublist.slnil)) ?_
        refine rt_soft (i := 13) rfl (by kernel_rfl) (fun c d v a w h => by cases d <;> exact h) (sc _ (sc _ List.Sublist.slnil)) ?_
        refine rg_move ?_
        simp only [Act.put, Act.eval, qn, qv, Nat.reduceAdd]
        refine rg_nil ?_
        refine ek_rt (sc _ (sc _ List.Sublist.slnil)) ?_
        refine rt_soft (i := 14) rfl (by kernel_rfl) (fun c d v a w h => by cases d <;> exact h) (sc _ (sc _ List.Sublist.slnil)) ?_
        refine rf_extract rfl rfl rfl rfl ?_
        simp only [Act.put, Act.eval, qn, qv, Nat.reduceAdd]
        refine rg_nil ?_
        refine ek_rt (sc _ (sc _ List.Sublist.slnil)) ?_
        refine rt_soft (i := 15) rfl (by kernel_rfl) (fun c d v a w h => by cases d <;> exact h) (sc _ (sc _ List.Sublist.slnil)) ?_
        refine rf_extract rfl rfl rfl rfl ?_
        simp only [Act.put, Act.eval, qn, qv, Nat.reduceAdd]
        refine rg_nil ?_
        refine ek_rt (sc _ (sc _ List.Sublist.slnil)) ?_
        refine rt_soft (i := 16) rfl (by kernel_rfl) (fun c d v a w h => by cases d <;> exact h) (sc _ (sc _ List.Sublist.slnil)) ?_
        refine rf_extract rfl rfl rfl rfl ?_
        simp only [Act.put, Act.eval, qn, qv, Nat.reduceAdd]
        refine rg_nil ?_
        refine ek_rt (sc _ (sc _ List.Sublist.slnil)) ?_
        refine rt_hard1 (i := 17) (by kernel_rfl) rfl ?_
        refine rg_new (cs := ?_) (ty := ?_) (by rfl) (fun w => ?_) (fun _ h => by cases h; exact (sc _ (sc _ List.Sublist.slnil))) (fun g5 => ?_); rotate_left 2
        focus (go_simp; rfl)
        simp only [Act.put, Act.eval, qn, qv, Nat.reduceAdd]
        refine rg_nil ?_
        refine ek_rt (List.Sublist.cons _ (sc _ (sc _ List.Sublist.slnil))) ?_
        refine rt_hard1 (i := 18) (by kernel_rfl) rfl ?_
        refine rf_storeR (n := 4) rfl rfl (by kernel_rfl) rfl rfl (UpdR.here _ _ _ (Nat.le_of_ble_eq_true rfl)) (fun _ h => by cases h; exact (List.Sublist.cons _ (sc _ (sc _ List.Sublist.slnil)))) ?_
        simp only [Act.put, Act.eval, qn, qv, Nat.reduceAdd]
        refine rg_nil ?_
        refine ek_rt (List.Sublist.cons _ (sc _ (sc _ List.Sublist.slnil))) ?_
        refine rt_soft (i := 19) rfl (by kernel_rfl) (fun c d v a w h => by cases d <;> exact h) (List.Sublist.cons _ (sc _ (sc _ List.Sublist.slnil))) ?_
        refine rg_assign ?_
        simp only [Act.put, Act.eval, qn, qv, Nat.reduceAdd]
        refine rg_nil ?_
        refine ek_rt (List.Sublist.cons _ (sc _ (sc _ List.Sublist.slnil))) ?_
        refine rt_soft (i := 20) rfl (by kernel_rfl) (fun c d v a w h => by cases d <;> exact h) (List.Sublist.cons _ (sc _ (sc _ List.Sublist.slnil))) ?_
        refine rg_assign ?_
        simp only [Act.put, Act.eval, qn, qv, Nat.reduceAdd]
        refine rg_nil ?_
        refine ek_rt (List.Sublist.cons _ (sc _ (sc _ List.Sublist.slnil))) ?_
        refine rt_nil (by kernel_rfl) ?_
        refine ek_sub (List.Sublist.cons _ (sc _ (sc _ List.Sublist.slnil))) ?_
        refine ek_midF (by kernel_rfl) ?_
        exact ⟨rfl, rfl, by rfl⟩
      · refine rg_new (cs := ?_) (ty := ?_) (by rfl) (fun w => ?_) (fun _ h => by cases h; exact (sc _ (sc _ List.Sublist.slnil))) (fun g6 => ?_); rotate_left 2
        focus (go_simp; rfl)
        simp only [Act.put, Act.eval, qn, qv, Nat.reduceAdd]
        refine rg_nil ?_
        refine ek_rt (List.Sublist.cons _ (sc _ (sc _ List.Sublist.slnil))) ?_
        refine rt_hard1 (i := 12) (by kernel_rfl) rfl ?_
        apply rg_pure (by rfl) (by kernel_rfl)
        case hargs => (simp only [qm, qs, Act.eval]; exact rfl)
        case h => exact fun w hw => C2.out w
        case hz => exact (fun _ h => by cases h; exact (List.Sublist.cons _ (sc _ (sc _ List.Sublist.slnil))))
        simp only [Act.put, Act.eval, qn, qv, Nat.reduceAdd]
        refine rg_nil ?_
        refine ek_rt (List.Sublist.cons _ (sc _ (sc _ List.Sublist.slnil))) ?_
        refine rt_soft (i := 13) rfl (by kernel_rfl) (fun c d v a w h => by cases d <;> exact h) (List.Sublist.cons _ (sc _ (sc _ List.Sublist.slnil))) ?_
        refine rg_move ?_
        simp only [Act.put, Act.eval, qn, qv, Nat.reduceAdd]
        refine rg_nil ?_
        refine ek_rt (List.Sublist.cons _ (sc _ (sc _ List.Sublist.slnil))) ?_
        refine rt_soft (i := 14) rfl (by kernel_rfl) (fun c d v a w h => by cases d <;> exact h) (List.Sublist.cons _ (sc _ (sc _ List.Sublist.slnil))) ?_
        refine rf_extract rfl rfl rfl rfl ?_
        simp only [Act.put, Act.eval, qn, qv, Nat.reduceAdd]
        refine rg_nil ?_
        refine ek_rt (List.Sublist.cons _ (sc _ (sc _ List.Sublist.slnil))) ?_
        refine rt_soft (i := 15) rfl (by kernel_rfl) (fun c d v a w h => by cases d <;> exact h) (List.Sublist.cons _ (sc _ (sc _ List.Sublist.slnil))) ?_
        refine rf_extract rfl rfl rfl rfl ?_
        simp only [Act.put, Act.eval, qn, qv, Nat.reduceAdd]
        refine rg_nil ?_
        refine ek_rt (List.Sublist.cons _ (sc _ (sc _ List.Sublist.slnil))) ?_
        refine rt_soft (i := 16) rfl (by kernel_rfl) (fun c d v a w h => by cases d <;> exact h) (List.Sublist.cons _ (sc _ (sc _ List.Sublist.slnil))) ?_
        refine rf_extract rfl rfl rfl rfl ?_
        simp only [Act.put, Act.eval, qn, qv, Nat.reduceAdd]
        refine rg_nil ?_
        refine ek_rt (List.Sublist.cons _ (sc _ (sc _ List.Sublist.slnil))) ?_
        refine rt_hard1 (i := 18) (by kernel_rfl) rfl ?_
        refine rf_storeR (n := 4) rfl rfl (by kernel_rfl) rfl rfl (UpdR.here _ _ _ (Nat.le_of_ble_eq_true rfl)) (fun _ h => by cases h; exact (List.Sublist.cons _ (sc _ (sc _ List.Sublist.slnil)))) ?_
        simp only [Act.put, Act.eval, qn, qv, Nat.reduceAdd]
        refine rg_nil ?_
        refine ek_rt (List.Sublist.cons _ (sc _ (sc _ List.Sublist.slnil))) ?_
        refine rt_soft (i := 19) rfl (by kernel_rfl) (fun c d v a w h => by cases d <;> exact h) (List.Sublist.cons _ (sc _ (sc _ List.Sublist.slnil))) ?_
        refine rg_assign ?_
        simp only [Act.put, Act.eval, qn, qv, Nat.reduceAdd]
        refine rg_nil ?_
        refine ek_rt (List.Sublist.cons _ (sc _ (sc _ List.Sublist.slnil))) ?_
        refine rt_soft (i := 20) rfl (by kernel_rfl) (fun c d v a w h => by cases d <;> exact h) (List.Sublist.cons _ (sc _ (sc _ List.Sublist.slnil))) ?_
        refine rg_assign ?_
        simp only [Act.put, Act.eval, qn, qv, Nat.reduceAdd]
        refine rg_nil ?_
        refine ek_rt (List.Sublist.cons _ (sc _ (sc _ List.Sublist.slnil))) ?_
        refine rt_nil (by kernel_rfl) ?_
        refine ek_sub (List.Sublist.cons _ (sc _ (sc _ List.Sublist.slnil))) ?_
        refine ek_midF (by kernel_rfl) ?_
        exact ⟨rfl, rfl, by rfl⟩
    · rintro f2 s ⟨hs2_8, hs2_9, rfl⟩
      simp only [Act.putF, List.foldl_cons, List.foldl_nil, hs2_8, hs2_9, Act.put, Act.eval, q1, q2, q3, q4, q5, q6, q7, q8, q9, q10, q11, q12, q13, q14, q15, q16, q17, q18, Nat.reduceAdd, Bool.not_true, Bool.not_false]
      clear hs2_8 hs2_9
      refine wk_seq ?_
      refine wk_region [0, 0, 0, 0, 0, 0] rfl (by kernel_rfl) ?_
      simp only [List.zip_cons_cons, List.zip_nil_right]
      refine rg_move ?_
      simp only [Act.put, Act.eval, qn, qv, Nat.reduceAdd]
      refine rf_not rfl rfl rfl ?_
      simp only [Act.put, Act.eval, qn, qv, Nat.reduceAdd]
      refine rg_move ?_
      simp only [Act.put, Act.eval, qn, qv, Nat.reduceAdd]
      apply rg_soft_g
      case hg => rfl
      case hy => (intro w hw; go_simp; (try go_bits); exact Yld.mk _ _)
      simp only [Act.put, Act.eval, qn, qv, Nat.reduceAdd]
      refine rf_neq (b := false) rfl rfl rfl rfl (by decide) ?_
      simp only [Act.put, Act.eval, qn, qv, Nat.reduceAdd]
      refine rf_pick rfl rfl rfl ?_
      simp only [Act.put, Act.eval, qn, qv, Nat.reduceAdd]
      refine rg_nil ?_
      refine ek_next ?_
      refine wk_cond_f rfl ?_
      refine wk_skip ?_
      refine ek_block ?_
      refine ek_next ?_
      refine wk_region [0, 0] rfl (by kernel_rfl) ?_
      simp only [List.zip_cons_cons, List.zip_nil_right]
      refine rf_add (r := 2) rfl rfl rfl rfl (by decide) ?_
      simp only [Act.put, Act.eval, qn, qv, Nat.reduceAdd]
      refine rg_move ?_
      simp only [Act.put, Act.eval, qn, qv, Nat.reduceAdd]
      refine rg_nil ?_
      refine ek_again ?_
      refine wk_seq ?_
      refine wk_region [0] rfl (by kernel_rfl) ?_
      simp only [List.zip_cons_cons, List.zip_nil_right]
      refine rf_lss (b := false) rfl rfl rfl rfl (by decide) ?_
      simp only [Act.put, Act.eval, qn, qv, Nat.reduceAdd]
      refine rg_nil ?_
      refine ek_next ?_
      refine wk_seq ?_
      refine wk_cond_f rfl ?_
      refine wk_exit ?_
      refine ek_then_exit ?_
      refine ek_then_exit ?_
      refine ek_block_exit ?_
      refine ek_block ?_
      refine ek_next ?_
      refine wk_region [0, 0] rfl (by kernel_rfl) ?_
      simp only [List.zip_cons_cons, List.zip_nil_right]
      refine rf_add (r := 1) rfl rfl rfl rfl (by decide) ?_
      simp only [Act.put, Act.eval, qn, qv, Nat.reduceAdd]
      refine rg_move ?_
      simp only [Act.put, Act.eval, qn, qv, Nat.reduceAdd]
      refine rg_nil ?_
      refine ek_again ?_
      refine wk_seq ?_
      refine wk_region [0] rfl (by kernel_rfl) ?_
      simp only [List.zip_cons_cons, List.zip_nil_right]
      refine rf_lss (b := true) rfl rfl rfl rfl (by decide) ?_
      simp only [Act.put, Act.eval, qn, qv, Nat.reduceAdd]
      refine rg_nil ?_
      refine ek_next ?_
      refine wk_seq ?_
      refine wk_cond_t rfl ?_
      refine wk_skip ?_
      refine ek_next ?_
      refine wk_seq ?_
      refine wk_block ?_
      refine wk_seq ?_
      refine wk_region [0, 0] rfl (by kernel_rfl) ?_
      simp only [List.zip_cons_cons, List.zip_nil_right]
      refine rg_move ?_
      simp only [Act.put, Act.eval, qn, qv, Nat.reduceAdd]
      refine rg_assign ?_
      simp only [Act.put, Act.eval, qn, qv, Nat.reduceAdd]
      refine rg_nil ?_
      refine ek_next ?_
      refine wk_seq ?_
      refine wk_region [0] rfl (by kernel_rfl) ?_
      simp only [List.zip_cons_cons, List.zip_nil_right]
      refine rg_move ?_
      simp only [Act.put, Act.eval, qn, qv, Nat.reduceAdd]
      refine rg_nil ?_
      refine ek_next ?_
      refine wk_block ?_
      refine wk_unroll 3 ?_
      refine wk_seq ?_
      refine wk_region [0] rfl (by kernel_rfl) ?_
      simp only [List.zip_cons_cons, List.zip_nil_right]
      refine rf_lss (b := true) rfl rfl rfl rfl (by decide) ?_
      simp only [Act.put, Act.eval, qn, qv, Nat.reduceAdd]
      refine rg_nil ?_
      refine ek_next ?_
      refine wk_seq ?_
      refine wk_cond_t rfl ?_
      refine wk_skip ?_
      refine ek_next ?_
      refine wk_seq ?_
      refine wk_block ?_
      refine wk_seq ?_
      refine wk_region [0, 0] rfl (by kernel_rfl) ?_
      simp only [List.zip_cons_cons, List.zip_nil_right]
      refine rg_move ?_
      simp only [Act.put, Act.eval, qn, qv, Nat.reduceAdd]
      refine rg_assign ?_
      simp only [Act.put, Act.eval, qn, qv, Nat.reduceAdd]
      refine rg_nil ?_
      refine ek_next ?_
      refine wk_cutF [7, 8, 9, 16, 17, 18, 19, 20, 21, 22, 23, 24, 25, 26, 27, 28, 29, 30, 31, 32] (fun f s => f 8 = .bool true ∧ f 9 = .int .i64 0 ∧ s = ((g2, .cells #[.int .i64 q.s00.re.lo, .int .i64 q.s00.re.hi, .int .i64 q.s00.im.lo, .int .i64 q.s00.im.hi, .int .i64 q.s01.re.lo, .int .i64 q.s01.re.hi, .int .i64 q.s01.im.lo, .int .i64 q.s01.im.hi, .int .i64 q.s10.re.lo, .int .i64 q.s10.re.hi, .int .i64 q.s10.im.lo, .int .i64 q.s10.im.hi, .int .i64 q.s11.re.lo, .int .i64 q.s11.re.hi, .int .i64 q.s11.im.lo, .int .i64 q.s11.im.hi] 49) :: ((g1, .cells #[.int .i64 p.s00.re.lo, .int .i64 p.s00.re.hi, .int .i64 p.s00.im.lo, .int .i64 p.s00.im.hi, .int .i64 p.s01.re.lo, .int .i64 p.s01.re.hi, .int .i64 p.s01.im.lo, .int .i64 p.s01.im.hi, .int .i64 p.s10.re.lo, .int .i64 p.s10.re.hi, .int .i64 p.s10.im.lo, .int .i64 p.s10.im.hi, .int .i64 p.s11.re.lo, .int .i64 p.s11.re.hi, .int .i64 p.s11.im.lo, .int .i64 p.s11.im.hi] 49) :: []))) ?_ ?_
      · refine wk_rt _ (by kernel_rfl) (sc _ (sc _ List.Sublist.slnil)) ?_
        refine rt_soft (i := 0) rfl (by kernel_rfl) (fun c d v a w h => by cases d <;> exact h) (sc _ (sc _ List.Sublist.slnil)) ?_
        refine rg_move ?_
        simp only [Act.put, Act.eval, qn, qv, Nat.reduceAdd]
        refine rg_nil ?_
        refine ek_rt (sc _ (sc _ List.Sublist.slnil)) ?_
        refine rt_soft (i := 1) rfl (by kernel_rfl) (fun c d v a w h => by cases d <;> exact h) (sc _ (sc _ List.Sublist.slnil)) ?_
        refine rg_move ?_
        simp only [Act.put, Act.eval, qn, qv, Nat.reduceAdd]
        refine rg_nil ?_
        refine ek_rt (sc _ (sc _ List.Sublist.slnil)) ?_
        refine rt_soft (i := 2) rfl (by kernel_rfl) (fun c d v a w h => by cases d <;> exact h) (sc _ (sc _ List.Sublist.slnil)) ?_
        refine rf_field (n := 15) (j := 0) rfl rfl rfl Try.underlying49 rfl (by kernel_rfl) rfl ?_
        simp only [Act.put, Act.eval, qn, qv, Nat.reduceAdd]
        refine rg_nil ?_
        refine ek_rt (sc _ (sc _ List.Sublist.slnil)) ?_
        refine rt_soft (i := 3) rfl (by kernel_rfl) (fun c d v a w h => by cases d <;> exact h) (sc _ (sc _ List.Sublist.slnil)) ?_
        refine rf_indexA (n := 1) (sz := 8) (j := 8) rfl rfl rfl rfl Try.underlying47 (by kernel_rfl) (by decide) rfl ?_
        simp only [Act.put, Act.eval, qn, qv, Nat.reduceAdd]
        refine rg_nil ?_
        refine ek_rt (sc _ (sc _ List.Sublist.slnil)) ?_
        refine rt_soft (i := 4) rfl (by kernel_rfl) (fun c d v a w h => by cases d <;> exact h) (sc _ (sc _ List.Sublist.slnil)) ?_
        refine rf_indexA (n := 0) (sz := 4) (j := 8) rfl rfl rfl rfl Try.underlying46 (by kernel_rfl) (by decide) rfl ?_
        simp only [Act.put, Act.eval, qn, qv, Nat.reduceAdd]
        refine rg_nil ?_
        refine ek_rt (sc _ (sc _ List.Sublist.slnil)) ?_
        refine rt_soft (i := 5) rfl (by kernel_rfl) (fun c d v a w h => by cases d <;> exact h) (sc _ (sc _ List.Sublist.slnil)) ?_
        refine rf_loadR (n := 4) rfl rfl rfl Try.underlying25 rfl (by kernel_rfl) (fun w hw => Kn.hd0 (Kn.tl hw)) rfl rfl ?_
        simp only [Act.put, Act.eval, qn, qv, Nat.reduceAdd]
        refine rg_nil ?_
        refine ek_rt (sc _ (sc _ List.Sublist.slnil)) ?_
        refine rt_soft (i := 6) rfl (by kernel_rfl) (fun c d v a w h => by cases d <;> exact h) (sc _ (sc _ List.Sublist.slnil)) ?_
        refine rg_move ?_
        simp only [Act.put, Act.eval, qn, qv, Nat.reduceAdd]
        refine rg_nil ?_
        refine ek_rt (sc _ (sc _ List.Sublist.slnil)) ?_
        refine rt_soft (i := 7) rfl (by kernel_rfl) (fun c d v a w h => by cases d <;> exact h) (sc _ (sc _ List.Sublist.slnil)) ?_
        refine rg_move ?_
        simp only [Act.put, Act.eval, qn, qv, Nat.reduceAdd]
        refine rg_nil ?_
        refine ek_rt (sc _ (sc _ List.Sublist.slnil)) ?_
        refine rt_soft (i := 8) rfl (by kernel_rfl) (fun c d v a w h => by cases d <;> exact h) (sc _ (sc _ List.Sublist.slnil)) ?_
        refine rf_field (n := 15) (j := 0) rfl rfl rfl Try.underlying49 rfl (by kernel_rfl) rfl ?_
        simp only [Act.put, Act.eval, qn, qv, Nat.reduceAdd]
        refine rg_nil ?_
        refine ek_rt (sc _ (sc _ List.Sublist.slnil)) ?_
        refine rt_soft (i := 9) rfl (by kernel_rfl) (fun c d v a w h => by cases d <;> exact h) (sc _ (sc _ List.Sublist.slnil)) ?_
        refine rf_indexA (n := 1) (sz := 8) (j := 8) rfl rfl rfl rfl Try.underlying47 (by kernel_rfl) (by decide) rfl ?_
        simp only [Act.put, Act.eval, qn, qv, Nat.reduceAdd]
        refine rg_nil ?_
        refine ek_rt (sc _ (sc _ List.Sublist.slnil)) ?_
        refine rt_soft (i := 10) rfl (by kernel_rfl) (fun c d v a w h => by cases d <;> exact h) (sc _ (sc _ List.Sublist.slnil)) ?_
        refine rf_indexA (n := 0) (sz := 4) (j := 8) rfl rfl rfl rfl Try.underlying46 (by kernel_rfl) (by decide) rfl ?_
        simp only [Act.put, Act.eval, qn, qv, Nat.reduceAdd]
        refine rg_nil ?_
        refine ek_rt (sc _ (sc _ List.Sublist.slnil)) ?_
        refine rt_soft (i := 11) rfl (by kernel_rfl) (fun c d v a w h => by cases d <;> exact h) (sc _ (sc _ List.Sublist.slnil)) ?_
        refine rf_loadR (n := 4) rfl rfl rfl Try.underlying25 rfl (by kernel_rfl) (fun w hw => Kn.hd0 hw) rfl rfl ?_
        simp only [Act.put, Act.eval, qn, qv, Nat.reduceAdd]
        refine rg_nil ?_
        refine ek_rt (sc _ (sc _ List.Sublist.slnil)) ?_
        refine rt_hard2 (i := 12) (j := 17) (by kernel_rfl) rfl rfl ?_ ?_
        · apply rg_pure (by rfl) (by kernel_rfl)
          case hargs => (simp only [qm, qs, Act.eval]; exact rfl)
          case h => exact fun w hw => C3.out w
          case hz => exact (fun _ h => by cases h; exact (sc _ (sc _ List.Sublist.slnil)))
          simp only [Act.put, Act.eval, qn, qv, Nat.reduceAdd]
          refine rg_nil ?_
          refine ek_rt (sc _ (sc _ List.Sublist.slnil)) ?_
          refine rt_soft (i := 13) rfl (by kernel_rfl) (fun c d v a w h => by cases d <;> exact h) (sc _ (sc _ List.Sublist.slnil)) ?_
          refine rg_move ?_
          simp only [Act.put, Act.eval, qn, qv, Nat.reduceAdd]
          refine rg_nil ?_
          refine ek_rt (sc _ (sc _ List.Sublist.slnil)) ?_
          refine rt_soft (i := 14) rfl (by kernel_rfl) (fun c d v a w h => by cases d <;> exact h) (sc _ (sc _ List.Sublist.slnil)) ?_
          refine rf_extract rfl rfl rfl rfl ?_
          simp only [Act.put, Act.eval, qn, qv, Nat.reduceAdd]
          refine rg_nil ?_
          refine ek_rt (sc _ (sc _ List.Sublist.slnil)) ?_
          refine rt_soft (i := 15) rfl (by kernel_rfl) (fun c d v a w h => by cases d <;> exact h) (sc _ (sc _ List.Sublist.slnil)) ?_
          refine rf_extract rfl rfl rfl rfl ?_
          simp only [Act.put, Act.eval, qn, qv, Nat.reduceAdd]
          refine rg_nil ?_
          refine ek_rt (sc _ (sc _ List.Sublist.slnil)) ?_
          refine rt_soft (i := 16) rfl (by kernel_rfl) (fun c d v a w h => by cases d <;> exact h) (sc _ (sc _ List.Sublist.slnil)) ?_
          refine rf_extract rfl rfl rfl rfl ?_
          simp only [Act.put, Act.eval, qn, qv, Nat.reduceAdd]
          refine rg_nil ?_
          refine ek_rt (sc _ (sc _ List.Sublist.slnil)) ?_
          refine rt_hard1 (i := 17) (by kernel_rfl) rfl ?_
          refine rg_new (cs := ?_) (ty := ?_) (by rfl) (fun w => ?_) (fun _ h => by cases h; exact (sc _ (sc _ List.Sublist.slnil))) (fun g7 => ?_); rotate_left 2
          focus (go_simp; rfl)
          simp only [Act.put, Act.eval, qn, qv, Nat.reduceAdd]
          refine rg_nil ?_
          refine ek_rt (List.Sublist.cons _ (sc _ (sc _ List.Sublist.slnil))) ?_
          refine rt_hard1 (i := 18) (by kernel_rfl) rfl ?_
          refine rf_storeR (n := 4) rfl rfl (by kernel_rfl) rfl rfl (UpdR.here _ _ _ (Nat.le_of_ble_eq_true rfl)) (fun _ h => by cases h; exact (List.Sublist.cons _ (sc _ (sc _ List.Sublist.slnil)))) ?_
          simp only [Act.put, Act.eval, qn, qv, Nat.reduceAdd]
          refine rg_nil ?_
          refine ek_rt (List.Sublist.cons _ (sc _ (sc _ List.Sublist.slnil))) ?_
          refine rt_soft (i := 19) rfl (by kernel_rfl) (fun c d v a w h => by cases d <;> exact h) (List.Sublist.cons _ (sc _ (sc _ List.Sublist.slnil))) ?_
          refine rg_assign ?_
          simp only [Act.put, Act.eval, qn, qv, Nat.reduceAdd]
          refine rg_nil ?_
          refine ek_rt (List.Sublist.cons _ (sc _ (sc _ List.Sublist.slnil))) ?_
          refine rt_soft (i := 20) rfl (by kernel_rfl) (fun c d v a w h => by cases d <;> exact h) (List.Sublist.cons _ (sc _ (sc _ List.Sublist.slnil))) ?_
          refine rg_assign ?_
          simp only [Act.put, Act.eval, qn, qv, Nat.reduceAdd]
          refine rg_nil ?_
          refine ek_rt (List.Sublist.cons _ (sc _ (sc _ List.Sublist.slnil))) ?_
          refine rt_nil (by kernel_rfl) ?_
          refine ek_sub (List.Sublist.cons _ (sc _ (sc _ List.Sublist.slnil))) ?_
          refine ek_midF (by kernel_rfl) ?_
          exact ⟨rfl, rfl, by rfl⟩
        · refine rg_new (cs := ?_) (ty := ?_) (by rfl) (fun w => ?_) (fun _ h => by cases h; exact (sc _ (sc _ List.Sublist.slnil))) (fun g8 => ?_); rotate_left 2
          focus (go_simp; rfl)
          simp only [Act.put, Act.eval, qn, qv, Nat.reduceAdd]
          refine rg_nil ?_
          refine ek_rt (List.Sublist.cons _ (sc _ (sc _ List.Sublist.slnil))) ?_
          refine rt_hard1 (i := 12) (by kernel_rfl) rfl ?_
          apply rg_pure (by rfl) (by kernel_rfl)
          case hargs => (simp only [qm, qs, Act.eval]; exact rfl)
          case h => exact fun w hw => C3.out w
          case hz => exact (fun _ h => by cases h; exact (List.Sublist.cons _ (sc _ (sc _ List.Sublist.slnil))))
          simp only [Act.put, Act.eval, qn, qv, Nat.reduceAdd]
          refine rg_nil ?_
          refine ek_rt (List.Sublist.cons _ (sc _ (sc _ List.Sublist.slnil))) ?_
          refine rt_soft (i := 13) rfl (by kernel_rfl) (fun c d v a w h => by cases d <;> exact h) (List.Sublist.cons _ (sc _ (sc _ List.Sublist.slnil))) ?_
          refine rg_move ?_
          simp only [Act.put, Act.eval, qn, qv, Nat.reduceAdd]
          refine rg_nil ?_
          refine ek_rt (List.Sublist.cons _ (sc _ (sc _ List.Sublist.slnil))) ?_
          refine rt_soft (i := 14) rfl (by kernel_rfl) (fun c d v a w h => by cases d <;> exact h) (List.Sublist.cons _ (sc _ (sc _ List.Sublist.slnil))) ?_
          refine rf_extract rfl rfl rfl rfl ?_
          simp only [Act.put, Act.eval, qn, qv, Nat.reduceAdd]
          refine rg_nil ?_
          refine ek_rt (List.Sublist.cons _ (sc _ (sc _ List.Sublist.slnil))) ?_
          refine rt_soft (i := 15) rfl (by kernel_rfl) (fun c d v a w h => by cases d <;> exact h) (List.Sublist.cons _ (sc _ (sc _ List.Sublist.slnil))) ?_
          refine rf_extract rfl rfl rfl rfl ?_
          simp only [Act.put, Act.eval, qn, qv, Nat.reduceAdd]
          refine rg_nil ?_
          refine ek_rt (List.Sublist.cons _ (sc _ (sc _ List.Sublist.slnil))) ?_
          refine rt_soft (i := 16) rfl (by kernel_rfl) (fun c d v a w h => by cases d <;> exact h) (List.Sublist.cons _ (sc _ (sc _ List.Sublist.slnil))) ?_
          refine rf_extract rfl rfl rfl rfl ?_
          simp only [Act.put, Act.eval, qn, qv, Nat.reduceAdd]
          refine rg_nil ?_
          refine ek_rt (List.Sublist.cons _ (sc _ (sc _ List.Sublist.slnil))) ?_
          refine rt_hard1 (i := 18) (by kernel_rfl) rfl ?_
          refine rf_storeR (n := 4) rfl rfl (by kernel_rfl) rfl rfl (UpdR.here _ _ _ (Nat.le_of_ble_eq_true rfl)) (fun _ h => by cases h; exact (List.Sublist.cons _ (sc _ (sc _ List.Sublist.slnil)))) ?_
          simp only [Act.put, Act.eval, qn, qv, Nat.reduceAdd]
          refine rg_nil ?_
          refine ek_rt (List.Sublist.cons _ (sc _ (sc _ List.Sublist.slnil))) ?_
          refine rt_soft (i := 19) rfl (by kernel_rfl) (fun c d v a w h => by cases d <;> exact h) (List.Sublist.cons _ (sc _ (sc _ List.Sublist.slnil))) ?_
          refine rg_assign ?_
          simp only [Act.put, Act.eval, qn, qv, Nat.reduceAdd]
          refine rg_nil ?_
          refine ek_rt (List.Sublist.cons _ (sc _ (sc _ List.Sublist.slnil))) ?_
          refine rt_soft (i := 20) rfl (by kernel_rfl) (fun c d v a w h => by cases d <;> exact h) (List.Sublist.cons _ (sc _ (sc _ List.Sublist.slnil))) ?_
          refine rg_assign ?_
          simp only [Act.put, Act.eval, qn, qv, Nat.reduceAdd]
          refine rg_nil ?_
          refine ek_rt (List.Sublist.cons _ (sc _ (sc _ List.Sublist.slnil))) ?_
          refine rt_nil (by kernel_rfl) ?_
          refine ek_sub (List.Sublist.cons _ (sc _ (sc _ List.Sublist.slnil))) ?_
          refine ek_midF (by kernel_rfl) ?_
          exact ⟨rfl, rfl, by rfl⟩
      · rintro f3 s ⟨hs3_8, hs3_9, rfl⟩
        simp only [Act.putF, List.foldl_cons, List.foldl_nil, hs3_8, hs3_9, Act.put, Act.eval, q1, q2, q3, q4, q5, q6, q7, q8, q9, q10, q11, q12, q13, q14, q15, q16, q17, q18, Nat.reduceAdd, Bool.not_true, Bool.not_false]
        clear hs3_8 hs3_9
        refine wk_seq ?_
        refine wk_region [0, 0, 0, 0, 0, 0] rfl (by kernel_rfl) ?_
        simp only [List.zip_cons_cons, List.zip_nil_right]
        refine rg_move ?_
        simp only [Act.put, Act.eval, qn, qv, Nat.reduceAdd]
        refine rf_not rfl rfl rfl ?_
        simp only [Act.put, Act.eval, qn, qv, Nat.reduceAdd]
        refine rg_move ?_
        simp only [Act.put, Act.eval, qn, qv, Nat.reduceAdd]
        apply rg_soft_g
        case hg => rfl
        case hy => (intro w hw; go_simp; (try go_bits); exact Yld.mk _ _)
        simp only [Act.put, Act.eval, qn, qv, Nat.reduceAdd]
        refine rf_neq (b := false) rfl rfl rfl rfl (by decide) ?_
        simp only [Act.put, Act.eval, qn, qv, Nat.reduceAdd]
        refine rf_pick rfl rfl rfl ?_
        simp only [Act.put, Act.eval, qn, qv, Nat.reduceAdd]
        refine rg_nil ?_
        refine ek_next ?_
        refine wk_cond_f rfl ?_
        refine wk_skip ?_
        refine ek_block ?_
        refine ek_next ?_
        refine wk_region [0, 0] rfl (by kernel_rfl) ?_
        simp only [List.zip_cons_cons, List.zip_nil_right]
        refine rf_add (r := 1) rfl rfl rfl rfl (by decide) ?_
        simp only [Act.put, Act.eval, qn, qv, Nat.reduceAdd]
        refine rg_move ?_
        simp only [Act.put, Act.eval, qn, qv, Nat.reduceAdd]
        refine rg_nil ?_
        refine ek_again ?_
        refine wk_seq ?_
        refine wk_region [0] rfl (by kernel_rfl) ?_
        simp only [List.zip_cons_cons, List.zip_nil_right]
        refine rf_lss (b := true) rfl rfl rfl rfl (by decide) ?_
        simp only [Act.put, Act.eval, qn, qv, Nat.reduceAdd]
        refine rg_nil ?_
        refine ek_next ?_
        refine wk_seq ?_
        refine wk_cond_t rfl ?_
        refine wk_skip ?_
        refine ek_next ?_
        refine wk_seq ?_
        refine wk_block ?_
        refine wk_seq ?_
        refine wk_region [0, 0] rfl (by kernel_rfl) ?_
        simp only [List.zip_cons_cons, List.zip_nil_right]
        refine rg_move ?_
        simp only [Act.put, Act.eval, qn, qv, Nat.reduceAdd]
        refine rg_assign ?_
        simp only [Act.put, Act.eval, qn, qv, Nat.reduceAdd]
        refine rg_nil ?_
        refine ek_next ?_
        refine wk_cutF [7, 8, 9, 16, 17, 18, 19, 20, 21, 22, 23, 24, 25, 26, 27, 28, 29, 30, 31, 32] (fun f s => f 8 = .bool true ∧ f 9 = .int .i64 0 ∧ s = ((g2, .cells #[.int .i64 q.s00.re.lo, .int .i64 q.s00.re.hi, .int .i64 q.s00.im.lo, .int .i64 q.s00.im.hi, .int .i64 q.s01.re.lo, .int .i64 q.s01.re.hi, .int .i64 q.s01.im.lo, .int .i64 q.s01.im.hi, .int .i64 q.s10.re.lo, .int .i64 q.s10.re.hi, .int .i64 q.s10.im.lo, .int .i64 q.s10.im.hi, .int .i64 q.s11.re.lo, .int .i64 q.s11.re.hi, .int .i64 q.s11.im.lo, .int .i64 q.s11.im.hi] 49) :: ((g1, .cells #[.int .i64 p.s00.re.lo, .int .i64 p.s00.re.hi, .int .i64 p.s00.im.lo, .int .i64 p.s00.im.hi, .int .i64 p.s01.re.lo, .int .i64 p.s01.re.hi, .int .i64 p.s01.im.lo, .int .i64 p.s01.im.hi, .int .i64 p.s10.re.lo, .int .i64 p.s10.re.hi, .int .i64 p.s10.im.lo, .int .i64 p.s10.im.hi, .int .i64 p.s11.re.lo, .int .i64 p.s11.re.hi, .int .i64 p.s11.im.lo, .int .i64 p.s11.im.hi] 49) :: []))) ?_ ?_
        · refine wk_rt _ (by kernel_rfl) (sc _ (sc _ List.Sublist.slnil)) ?_
          refine rt_soft (i := 0) rfl (by kernel_rfl) (fun c d v a w h => by cases d <;> exact h) (sc _ (sc _ List.Sublist.slnil)) ?_
          refine rg_move ?_
          simp only [Act.put, Act.eval, qn, qv, Nat.reduceAdd]
          refine rg_nil ?_
          refine ek_rt (sc _ (sc _ List.Sublist.slnil)) ?_
          refine rt_soft (i := 1) rfl (by kernel_rfl) (fun c d v a w h => by cases d <;> exact h) (sc _ (sc _ List.Sublist.slnil)) ?_
          refine rg_move ?_
          simp only [Act.put, Act.eval, qn, qv, Nat.reduceAdd]
          refine rg_nil ?_
          refine ek_rt (sc _ (sc _ List.Sublist.slnil)) ?_
          refine rt_soft (i := 2) rfl (by kernel_rfl) (fun c d v a w h => by cases d <;> exact h) (sc _ (sc _ List.Sublist.slnil)) ?_
          refine rf_field (n := 15) (j := 0) rfl rfl rfl Try.underlying49 rfl (by kernel_rfl) rfl ?_
          simp only [Act.put, Act.eval, qn, qv, Nat.reduceAdd]
          refine rg_nil ?_
          refine ek_rt (sc _ (sc _ List.Sublist.slnil)) ?_
          refine rt_soft (i := 3) rfl (by kernel_rfl) (fun c d v a w h => by cases d <;> exact h) (sc _ (sc _ List.Sublist.slnil)) ?_
          refine rf_indexA (n := 1) (sz := 8) (j := 8) rfl rfl rfl rfl Try.underlying47 (by kernel_rfl) (by decide) rfl ?_
          simp only [Act.put, Act.eval, qn, qv, Nat.reduceAdd]
          refine rg_nil ?_
          refine ek_rt (sc _ (sc _ List.Sublist.slnil)) ?_
          refine rt_soft (i := 4) rfl (by kernel_rfl) (fun c d v a w h => by cases d <;> exact h) (sc _ (sc _ List.Sublist.slnil)) ?_
          refine rf_indexA (n := 1) (sz := 4) (j := 12) rfl rfl rfl rfl Try.underlying46 (by kernel_rfl) (by decide) rfl ?_
          simp only [Act.put, Act.eval, qn, qv, Nat.reduceAdd]
          refine rg_nil ?_
          refine ek_rt (sc _ (sc _ List.Sublist.slnil)) ?_
          refine rt_soft (i := 5) rfl (by kernel_rfl) (fun c d v a w h => by cases d <;> exact h) (sc _ (sc _ List.Sublist.slnil)) ?_
          refine rf_loadR (n := 4) rfl rfl rfl Try.underlying25 rfl (by kernel_rfl) (fun w hw => Kn.hd0 (Kn.tl hw)) rfl rfl ?_
          simp only [Act.put, Act.eval, qn, qv, Nat.reduceAdd]
          refine rg_nil ?_
          refine ek_rt (sc _ (sc _ List.Sublist.slnil)) ?_
          refine rt_soft (i := 6) rfl (by kernel_rfl) (fun c d v a w h => by cases d <;> exact h) (sc _ (sc _ List.Sublist.slnil)) ?_
          refine rg_move ?_
          simp only [Act.put, Act.eval, qn, qv, Nat.reduceAdd]
          refine rg_nil ?_
          refine ek_rt (sc _ (sc _ List.Sublist.slnil)) ?_
          refine rt_soft (i := 7) rfl (by kernel_rfl) (fun c d v a w h => by cases d <;> exact h) (sc _ (sc _ List.Sublist.slnil)) ?_
          refine rg_move ?_
          simp only [Act.put, Act.eval, qn, qv, Nat.reduceAdd]
          refine rg_nil ?_
          refine ek_rt (sc _ (sc _ List.Sublist.slnil)) ?_
          refine rt_soft (i := 8) rfl (by kernel_rfl) (fun c d v a w h => by cases d <;> exact h) (sc _ (sc _ List.Sublist.slnil)) ?_
          refine rf_field (n := 15) (j := 0) rfl rfl rfl Try.underlying49 rfl (by kernel_rfl) rfl ?_
          simp only [Act.put, Act.eval, qn, qv, Nat.reduceAdd]
          refine rg_nil ?_
          refine ek_rt (sc _ (sc _ List.Sublist.slnil)) ?_
          refine rt_soft (i := 9) rfl (by kernel_rfl) (fun c d v a w h => by cases d <;> exact h) (sc _ (sc _ List.Sublist.slnil)) ?_
          refine rf_indexA (n := 1) (sz := 8) (j := 8) rfl rfl rfl rfl Try.underlying47 (by kernel_rfl) (by decide) rfl ?_
          simp only [Act.put, Act.eval, qn, qv, Nat.reduceAdd]
          refine rg_nil ?_
          refine ek_rt (sc _ (sc _ List.Sublist.slnil)) ?_
          refine rt_soft (i := 10) rfl (by kernel_rfl) (fun c d v a w h => by cases d <;> exact h) (sc _ (sc _ List.Sublist.slnil)) ?_
          refine rf_indexA (n := 1) (sz := 4) (j := 12) rfl rfl rfl rfl Try.underlying46 (by kernel_rfl) (by decide) rfl ?_
          simp only [Act.put, Act.eval, qn, qv, Nat.reduceAdd]
          refine rg_nil ?_
          refine ek_rt (sc _ (sc _ List.Sublist.slnil)) ?_
          refine rt_soft (i := 11) rfl (by kernel_rfl) (fun c d v a w h => by cases d <;> exact h) (sc _ (sc _ List.Sublist.slnil)) ?_
          refine rf_loadR (n := 4) rfl rfl rfl Try.underlying25 rfl (by kernel_rfl) (fun w hw => Kn.hd0 hw) rfl rfl ?_
          simp only [Act.put, Act.eval, qn, qv, Nat.reduceAdd]
          refine rg_nil ?_
          refine ek_rt (sc _ (sc _ List.Sublist.slnil)) ?_
          refine rt_hard2 (i := 12) (j := 17) (by kernel_rfl) rfl rfl ?_ ?_
          · apply rg_pure (by rfl) (by kernel_rfl)
            case hargs => (simp only [qm, qs, Act.eval]; exact rfl)
            case h => exact fun w hw => C4.out w
            case hz => exact (fun _ h => by cases h; exact (sc _ (sc _ List.Sublist.slnil)))
            simp only [Act.put, Act.eval, qn, qv, Nat.reduceAdd]
            refine rg_nil ?_
            refine ek_rt (sc _ (sc _ List.Sublist.slnil)) ?_
            refine rt_soft (i := 13) rfl (by kernel_rfl) (fun c d v a w h => by cases d <;> exact h) (sc _ (sc _ List.Sublist.slnil)) ?_
            refine rg_move ?_
            simp only [Act.put, Act.eval, qn, qv, Nat.reduceAdd]
            refine rg_nil ?_
            refine ek_rt (sc _ (sc _ List.Sublist.slnil)) ?_
            refine rt_soft (i := 14) rfl (by kernel_rfl) (fun c d v a w h => by cases d <;> exact h) (sc _ (sc _ List.Sublist.slnil)) ?_
            refine rf_extract rfl rfl rfl rfl ?_
            simp only [Act.put, Act.eval, qn, qv, Nat.reduceAdd]
            refine rg_nil ?_
            refine ek_rt (sc _ (sc _ List.Sublist.slnil)) ?_
            refine rt_soft (i := 15) rfl (by kernel_rfl) (fun c d v a w h => by cases d <;> exact h) (sc _ (sc _ List.Sublist.slnil)) ?_
            refine rf_extract rfl rfl rfl rfl ?_
            simp only [Act.put, Act.eval, qn, qv, Nat.reduceAdd]
            refine rg_nil ?_
            refine ek_rt (sc _ (sc _ List.Sublist.slnil)) ?_
            refine rt_soft (i := 16) rfl (by kernel_rfl) (fun c d v a w h => by cases d <;> exact h) (sc _ (sc _ List.Sublist.slnil)) ?_
            refine rf_extract rfl rfl rfl rfl ?_
            simp only [Act.put, Act.eval, qn, qv, Nat.reduceAdd]
            refine rg_nil ?_
            refine ek_rt (sc _ (sc _ List.Sublist.slnil)) ?_
            refine rt_hard1 (i := 17) (by kernel_rfl) rfl ?_
            refine rg_new (cs := ?_) (ty := ?_) (by rfl) (fun w => ?_) (fun _ h => by cases h; exact (sc _ (sc _ List.Sublist.slnil))) (fun g9 => ?_); rotate_left 2
            focus (go_simp; rfl)
            simp only [Act.put, Act.eval, qn, qv, Nat.reduceAdd]
            refine rg_nil ?_
            refine ek_rt (List.Sublist.cons _ (sc _ (sc _ List.Sublist.slnil))) ?_
            refine rt_hard1 (i := 18) (by kernel_rfl) rfl ?_
            refine rf_storeR (n := 4) rfl rfl (by kernel_rfl) rfl rfl (UpdR.here _ _ _ (Nat.le_of_ble_eq_true rfl)) (fun _ h => by cases h; exact (List.Sublist.cons _ (sc _ (sc _ List.Sublist.slnil)))) ?_
            simp only [Act.put, Act.eval, qn, qv, Nat.reduceAdd]
            refine rg_nil ?_
            refine ek_rt (List.Sublist.cons _ (sc _ (sc _ List.Sublist.slnil))) ?_
            refine rt_soft (i := 19) rfl (by kernel_rfl) (fun c d v a w h => by cases d <;> exact h) (List.Sublist.cons _ (sc _ (sc _ List.Sublist.slnil))) ?_
            refine rg_assign ?_
            simp only [Act.put, Act.eval, qn, qv, Nat.reduceAdd]
            refine rg_nil ?_
            refine ek_rt (List.Sublist.cons _ (sc _ (sc _ List.Sublist.slnil))) ?_
            refine rt_soft (i := 20) rfl (by kernel_rfl) (fun c d v a w h => by cases d <;> exact h) (List.Sublist.cons _ (sc _ (sc _ List.Sublist.slnil))) ?_
            refine rg_assign ?_
            simp only [Act.put, Act.eval, qn, qv, Nat.reduceAdd]
            refine rg_nil ?_
            refine ek_rt (List.Sublist.cons _ (sc _ (sc _ List.Sublist.slnil))) ?_
            refine rt_nil (by kernel_rfl) ?_
            refine ek_sub (List.Sublist.cons _ (sc _ (sc _ List.Sublist.slnil))) ?_
            refine ek_midF (by kernel_rfl) ?_
            exact ⟨rfl, rfl, by rfl⟩
          · refine rg_new (cs := ?_) (ty := ?_) (by rfl) (fun w => ?_) (fun _ h => by cases h; exact (sc _ (sc _ List.Sublist.slnil))) (fun g10 => ?_); rotate_left 2
            focus (go_simp; rfl)
            simp only [Act.put, Act.eval, qn, qv, Nat.reduceAdd]
            refine rg_nil ?_
            refine ek_rt (List.Sublist.cons _ (sc _ (sc _ List.Sublist.slnil))) ?_
            refine rt_hard1 (i := 12) (by kernel_rfl) rfl ?_
            apply rg_pure (by rfl) (by kernel_rfl)
            case hargs => (simp only [qm, qs, Act.eval]; exact rfl)
            case h => exact fun w hw => C4.out w
            case hz => exact (fun _ h => by cases h; exact (List.Sublist.cons _ (sc _ (sc _ List.Sublist.slnil))))
            simp only [Act.put, Act.eval, qn, qv, Nat.reduceAdd]
            refine rg_nil ?_
            refine ek_rt (List.Sublist.cons _ (sc _ (sc _ List.Sublist.slnil))) ?_
            refine rt_soft (i := 13) rfl (by kernel_rfl) (fun c d v a w h => by cases d <;> exact h) (List.Sublist.cons _ (sc _ (sc _ List.Sublist.slnil))) ?_
            refine rg_move ?_
            simp only [Act.put, Act.eval, qn, qv, Nat.reduceAdd]
            refine rg_nil ?_
            refine ek_rt (List.Sublist.cons _ (sc _ (sc _ List.Sublist.slnil))) ?_
            refine rt_soft (i := 14) rfl (by kernel_rfl) (fun c d v a w h => by cases d <;> exact h) (List.Sublist.cons _ (sc _ (sc _ List.Sublist.slnil))) ?_
            refine rf_extract rfl rfl rfl rfl ?_
            simp only [Act.put, Act.eval, qn, qv, Nat.reduceAdd]
            refine rg_nil ?_
            refine ek_rt (List.Sublist.cons _ (sc _ (sc _ List.Sublist.slnil))) ?_
            refine rt_soft (i := 15) rfl (by kernel_rfl) (fun c d v a w h => by cases d <;> exact h) (List.Sublist.cons _ (sc _ (sc _ List.Sublist.slnil))) ?_
            refine rf_extract rfl rfl rfl rfl ?_
            simp only [Act.put, Act.eval, qn, qv, Nat.reduceAdd]
            refine rg_nil ?_
            refine ek_rt (List.Sublist.cons _ (sc _ (sc _ List.Sublist.slnil))) ?_
            refine rt_soft (i := 16) rfl (by kernel_rfl) (fun c d v a w h => by cases d <;> exact h) (List.Sublist.cons _ (sc _ (sc _ List.Sublist.slnil))) ?_
            refine rf_extract rfl rfl rfl rfl ?_
            simp only [Act.put, Act.eval, qn, qv, Nat.reduceAdd]
            refine rg_nil ?_
            refine ek_rt (List.Sublist.cons _ (sc _ (sc _ List.Sublist.slnil))) ?_
            refine rt_hard1 (i := 18) (by kernel_rfl) rfl ?_
            refine rf_storeR (n := 4) rfl rfl (by kernel_rfl) rfl rfl (UpdR.here _ _ _ (Nat.le_of_ble_eq_true rfl)) (fun _ h => by cases h; exact (List.Sublist.cons _ (sc _ (sc _ List.Sublist.slnil)))) ?_
            simp only [Act.put, Act.eval, qn, qv, Nat.reduceAdd]
            refine rg_nil ?_
            refine ek_rt (List.Sublist.cons _ (sc _ (sc _ List.Sublist.slnil))) ?_
            refine rt_soft (i := 19) rfl (by kernel_rfl) (fun c d v a w h => by cases d <;> exact h) (List.Sublist.cons _ (sc _ (sc _ List.Sublist.slnil))) ?_
            refine rg_assign ?_
            simp only [Act.put, Act.eval, qn, qv, Nat.reduceAdd]
            refine rg_nil ?_
            refine ek_rt (List.Sublist.cons _ (sc _ (sc _ List.Sublist.slnil))) ?_
            refine rt_soft (i := 20) rfl (by kernel_rfl) (fun c d v a w h => by cases d <;> exact h) (List.Sublist.cons _ (sc _ (sc _ List.Sublist.slnil))) ?_
            refine rg_assign ?_
            simp only [Act.put, Act.eval, qn, qv, Nat.reduceAdd]
            refine rg_nil ?_
            refine ek_rt (List.Sublist.cons _ (sc _ (sc _ List.Sublist.slnil))) ?_
            refine rt_nil (by kernel_rfl) ?_
            refine ek_sub (List.Sublist.cons _ (sc _ (sc _ List.Sublist.slnil))) ?_
            refine ek_midF (by kernel_rfl) ?_
            exact ⟨rfl, rfl, by rfl⟩
        · rintro f4 s ⟨hs4_8, hs4_9, rfl⟩
          simp only [Act.putF, List.foldl_cons, List.foldl_nil, hs4_8, hs4_9, Act.put, Act.eval, q1, q2, q3, q4, q5, q6, q7, q8, q9, q10, q11, q12, q13, q14, q15, q16, q17, q18, Nat.reduceAdd, Bool.not_true, Bool.not_false]
          clear hs4_8 hs4_9
          refine wk_seq ?_
          refine wk_region [0, 0, 0, 0, 0, 0] rfl (by kernel_rfl) ?_
          simp only [List.zip_cons_cons, List.zip_nil_right]
          refine rg_move ?_
          simp only [Act.put, Act.eval, qn, qv, Nat.reduceAdd]
          refine rf_not rfl rfl rfl ?_
          simp only [Act.put, Act.eval, qn, qv, Nat.reduceAdd]
          refine rg_move ?_
          simp only [Act.put, Act.eval, qn, qv, Nat.reduceAdd]
          apply rg_soft_g
          case hg => rfl
          case hy => (intro w hw; go_simp; (try go_bits); exact Yld.mk _ _)
          simp only [Act.put, Act.eval, qn, qv, Nat.reduceAdd]
          refine rf_neq (b := false) rfl rfl rfl rfl (by decide) ?_
          simp only [Act.put, Act.eval, qn, qv, Nat.reduceAdd]
          refine rf_pick rfl rfl rfl ?_
          simp only [Act.put, Act.eval, qn, qv, Nat.reduceAdd]
          refine rg_nil ?_
          refine ek_next ?_
          refine wk_cond_f rfl ?_
          refine wk_skip ?_
          refine ek_block ?_
          refine ek_next ?_
          refine wk_region [0, 0] rfl (by kernel_rfl) ?_
          simp only [List.zip_cons_cons, List.zip_nil_right]
          refine rf_add (r := 2) rfl rfl rfl rfl (by decide) ?_
          simp only [Act.put, Act.eval, qn, qv, Nat.reduceAdd]
          refine rg_move ?_
          simp only [Act.put, Act.eval, qn, qv, Nat.reduceAdd]
          refine rg_nil ?_
          refine ek_again ?_
          refine wk_seq ?_
          refine wk_region [0] rfl (by kernel_rfl) ?_
          simp only [List.zip_cons_cons, List.zip_nil_right]
          refine rf_lss (b := false) rfl rfl rfl rfl (by decide) ?_
          simp only [Act.put, Act.eval, qn, qv, Nat.reduceAdd]
          refine rg_nil ?_
          refine ek_next ?_
          refine wk_seq ?_
          refine wk_cond_f rfl ?_
          refine wk_exit ?_
          refine ek_then_exit ?_
          refine ek_then_exit ?_
          refine ek_block_exit ?_
          refine ek_block ?_
          refine ek_next ?_
          refine wk_region [0, 0] rfl (by kernel_rfl) ?_
          simp only [List.zip_cons_cons, List.zip_nil_right]
          refine rf_add (r := 2) rfl rfl rfl rfl (by decide) ?_
          simp only [Act.put, Act.eval, qn, qv, Nat.reduceAdd]
          refine rg_move ?_
          simp only [Act.put, Act.eval, qn, qv, Nat.reduceAdd]
          refine rg_nil ?_
          refine ek_again ?_
          refine wk_seq ?_
          refine wk_region [0] rfl (by kernel_rfl) ?_
          simp only [List.zip_cons_cons, List.zip_nil_right]
          refine rf_lss (b := false) rfl rfl rfl rfl (by decide) ?_
          simp only [Act.put, Act.eval, qn, qv, Nat.reduceAdd]
          refine rg_nil ?_
          refine ek_next ?_
          refine wk_seq ?_
          refine wk_cond_f rfl ?_
          refine wk_exit ?_
          refine ek_then_exit ?_
          refine ek_then_exit ?_
          refine ek_block_exit ?_
          refine ek_next ?_
          refine wk_seq ?_
          refine wk_region [0] rfl (by kernel_rfl) ?_
          simp only [List.zip_cons_cons, List.zip_nil_right]
          refine rg_assign ?_
          simp only [Act.put, Act.eval, qn, qv, Nat.reduceAdd]
          refine rg_nil ?_
          refine ek_next ?_
          refine wk_ret ?_
          refine ek_ret (fun w hw => ⟨rfl, _, res_t _ rfl, ?_⟩)
          (try simp only [Act.put, Act.eval, qn, qv, Nat.reduceAdd])
          first | exact ⟨rfl, hw.below⟩ | exact ⟨trivial, hw.below⟩ | exact hw.below
set_option maxRecDepth 100000 in
set_option maxHeartbeats 4000000 in
theorem walk (p q : En.Pt) (w : World) : Calls Try.prog 14 #[ptV p, ptV q] w fun e w' => e = .returned (.bool true) ∧ Below w.heap.size w w' := by
  have M1 := mirror_any p
  cases hp : portOk p with
  | false =>
    rw [show mirR p = (zeroP, 50) from if_neg (by rw [hp]; decide)] at M1
    simp only [ptE] at M1
    replace M1 := Lib.hid M1
    clear hp
    go_enter Try.func14, Try.ntmps14
    refine wk_start ?_
    refine wk_seq ?_
    refine wk_region [1, 1, 0] rfl (by kernel_rfl) ?_
    simp only [List.zip_cons_cons, List.zip_nil_right]
    refine rg_new (cs := ?_) (ty := ?_) (by rfl) (fun w => ?_) (fun _ h => by cases h) (fun g1 => ?_); rotate_left 2
    focus (go_simp; rfl)
    simp only [Act.put, Act.eval, qn, qv, Nat.reduceAdd]
    refine rg_new (cs := ?_) (ty := ?_) (by rfl) (fun w => ?_) (fun _ h => by cases h) (fun g2 => ?_); rotate_left 2
    focus (go_simp; rfl)
    simp only [Act.put, Act.eval, qn, qv, Nat.reduceAdd]
    refine rg_assign ?_
    simp only [Act.put, Act.eval, qn, qv, Nat.reduceAdd]
    refine rg_nil ?_
    refine ek_next ?_
    refine wk_seq ?_
    refine wk_region [0, 1, 0, 0, 0, 1, 1, 0] rfl (by kernel_rfl) ?_
    simp only [List.zip_cons_cons, List.zip_nil_right]
    refine rf_loadR (n := 16) rfl rfl rfl Try.underlying49 rfl (by kernel_rfl) (fun w hw => Kn.hd0 (Kn.tl hw)) rfl rfl ?_
    simp only [Act.put, Act.eval, qn, qv, Nat.reduceAdd]
    apply rg_pure (by rfl) (by kernel_rfl)
    case hargs => (simp only [qm, qs, Act.eval]; exact rfl)
    case h => exact fun w hw => M1.out w
    case hz => exact (fun _ h => by cases h)
    simp only [Act.put, Act.eval, qn, qv, Nat.reduceAdd]
    refine rg_move ?_
    simp only [Act.put, Act.eval, qn, qv, Nat.reduceAdd]
    refine rf_extract rfl rfl rfl rfl ?_
    simp only [Act.put, Act.eval, qn, qv, Nat.reduceAdd]
    refine rf_extract rfl rfl rfl rfl ?_
    simp only [Act.put, Act.eval, qn, qv, Nat.reduceAdd]
    refine rg_new (cs := ?_) (ty := ?_) (by rfl) (fun w => ?_) (fun _ h => by cases h) (fun g3 => ?_); rotate_left 2
    focus (go_simp; rfl)
    simp only [Act.put, Act.eval, qn, qv, Nat.reduceAdd]
    refine rf_storeR (n := 16) rfl rfl (by kernel_rfl) rfl rfl (UpdR.here _ _ _ (Nat.le_of_ble_eq_true rfl)) (fun _ h => by cases h) ?_
    simp only [Act.put, Act.eval, qn, qv, Nat.reduceAdd]
    refine rg_assign ?_
    simp only [Act.put, Act.eval, qn, qv, Nat.reduceAdd]
    refine rg_nil ?_
    refine ek_next ?_
    refine wk_seq ?_
    refine wk_seq ?_
    refine wk_region [0, 0] rfl (by kernel_rfl) ?_
    simp only [List.zip_cons_cons, List.zip_nil_right]
    refine rg_move ?_
    simp only [Act.put, Act.eval, qn, qv, Nat.reduceAdd]
    refine rf_neq (b := true) rfl rfl rfl rfl (by decide) ?_
    simp only [Act.put, Act.eval, qn, qv, Nat.reduceAdd]
    refine rg_nil ?_
    refine ek_next ?_
    refine wk_cond_t rfl ?_
    refine wk_seq ?_
    refine wk_region [0, 0, 0, 0, 1, 0, 0] rfl (by kernel_rfl) ?_
    simp only [List.zip_cons_cons, List.zip_nil_right]
    refine rf_loadR (n := 16) rfl rfl rfl Try.underlying49 rfl (by kernel_rfl) (fun w hw => Kn.hd0 hw) rfl rfl ?_
    simp only [Act.put, Act.eval, qn, qv, Nat.reduceAdd]
    refine rf_build (cs := fun a => #[.int .i64 0, .int .i64 0, .int .i64 0, .int .i64 0, .int .i64 0, .int .i64 0, .int .i64 0, .int .i64 0, .int .i64 0, .int .i64 0, .int .i64 0, .int .i64 0, .int .i64 0, .int .i64 0, .int .i64 0, .int .i64 0]) rfl rfl (by kernel_rfl) ?_
    simp only [Act.put, Act.eval, qn, qv, Nat.reduceAdd]
    refine rf_eqP (zeroP) rfl rfl rfl rfl ?_
    simp only [Act.put, Act.eval, qn, qv, Nat.reduceAdd]
    refine rg_move ?_
    simp only [Act.put, Act.eval, qn, qv, Nat.reduceAdd]
    apply rg_pure (by rfl) (by kernel_rfl)
    case hargs => (simp only [qm, qs, Act.eval]; exact rfl)
    case h => exact fun w hw => awake_any w
    case hz => exact (fun _ h => by cases h)
    simp only [Act.put, Act.eval, qn, qv, Nat.reduceAdd]
    refine rf_pick rfl rfl rfl ?_
    simp only [Act.put, Act.eval, qn, qv, Nat.reduceAdd]
    refine rg_assign ?_
    simp only [Act.put, Act.eval, qn, qv, Nat.reduceAdd]
    refine rg_nil ?_
    refine ek_next ?_
    refine wk_ret ?_
    refine ek_then_ret ?_
    refine ek_ret (fun w hw => ⟨rfl, _, res_t _ rfl, ?_⟩)
    (try simp only [Act.put, Act.eval, qn, qv, Nat.reduceAdd])
    first | exact ⟨rfl, hw.below⟩ | exact ⟨trivial, hw.below⟩ | exact hw.below
  | true =>
    rw [show mirR p = (En.mir p, 0) from if_pos hp] at M1
    have M2 := mirror_any (En.mir p)
    rw [show mirR (En.mir p) = (p, 0) from if_pos (portOk_mir hp)] at M2
    have M3 := mirror_any q
    have S1 := starE_any p En.thru
    have S2 := starE_any p q
    obtain ⟨⟨z, ez⟩, hz⟩ : ∃ r, starR p En.thru = r := ⟨_, rfl⟩
    obtain ⟨⟨b, eb⟩, hb⟩ : ∃ r, mirR q = r := ⟨_, rfl⟩
    obtain ⟨⟨j, ej⟩, hj⟩ : ∃ r, starR p q = r := ⟨_, rfl⟩
    have S3 := starE_any b (En.mir p)
    obtain ⟨⟨t, et⟩, ht⟩ : ∃ r, starR b (En.mir p) = r := ⟨_, rfl⟩
    rw [hz] at S1
    rw [hb] at M3
    rw [hj] at S2
    rw [ht] at S3
    simp only [ptE] at M1 M2 M3 S1 S2 S3
    replace M1 := Lib.hid M1
    replace M2 := Lib.hid M2
    replace M3 := Lib.hid M3
    replace S1 := Lib.hid S1
    replace S2 := Lib.hid S2
    replace S3 := Lib.hid S3
    replace hp := Lib.hid hp
    replace hz := Lib.hid hz
    replace hb := Lib.hid hb
    replace hj := Lib.hid hj
    replace ht := Lib.hid ht
    go_enter Try.func14, Try.ntmps14
    refine wk_start ?_
    refine wk_seq ?_
    refine wk_region [1, 1, 0] rfl (by kernel_rfl) ?_
    simp only [List.zip_cons_cons, List.zip_nil_right]
    refine rg_new (cs := ?_) (ty := ?_) (by rfl) (fun w => ?_) (fun _ h => by cases h) (fun g1 => ?_); rotate_left 2
    focus (go_simp; rfl)
    simp only [Act.put, Act.eval, qn, qv, Nat.reduceAdd]
    refine rg_new (cs := ?_) (ty := ?_) (by rfl) (fun w => ?_) (fun _ h => by cases h) (fun g2 => ?_); rotate_left 2
    focus (go_simp; rfl)
    simp only [Act.put, Act.eval, qn, qv, Nat.reduceAdd]
    refine rg_assign ?_
    simp only [Act.put, Act.eval, qn, qv, Nat.reduceAdd]
    refine rg_nil ?_
    refine ek_next ?_
    refine wk_seq ?_
    refine wk_region [0, 1, 0, 0, 0, 1, 1, 0] rfl (by kernel_rfl) ?_
    simp only [List.zip_cons_cons, List.zip_nil_right]
    refine rf_loadR (n := 16) rfl rfl rfl Try.underlying49 rfl (by kernel_rfl) (fun w hw => Kn.hd0 (Kn.tl hw)) rfl rfl ?_
    simp only [Act.put, Act.eval, qn, qv, Nat.reduceAdd]
    apply rg_pure (by rfl) (by kernel_rfl)
    case hargs => (simp only [qm, qs, Act.eval]; exact rfl)
    case h => exact fun w hw => M1.out w
    case hz => exact (fun _ h => by cases h)
    simp only [Act.put, Act.eval, qn, qv, Nat.reduceAdd]
    refine rg_move ?_
    simp only [Act.put, Act.eval, qn, qv, Nat.reduceAdd]
    refine rf_extract rfl rfl rfl rfl ?_
    simp only [Act.put, Act.eval, qn, qv, Nat.reduceAdd]
    refine rf_extract rfl rfl rfl rfl ?_
    simp only [Act.put, Act.eval, qn, qv, Nat.reduceAdd]
    refine rg_new (cs := ?_) (ty := ?_) (by rfl) (fun w => ?_) (fun _ h => by cases h) (fun g3 => ?_); rotate_left 2
    focus (go_simp; rfl)
    simp only [Act.put, Act.eval, qn, qv, Nat.reduceAdd]
    refine rf_storeR (n := 16) rfl rfl (by kernel_rfl) rfl rfl (UpdR.here _ _ _ (Nat.le_of_ble_eq_true rfl)) (fun _ h => by cases h) ?_
    simp only [Act.put, Act.eval, qn, qv, Nat.reduceAdd]
    refine rg_assign ?_
    simp only [Act.put, Act.eval, qn, qv, Nat.reduceAdd]
    refine rg_nil ?_
    refine ek_next ?_
    refine wk_seq ?_
    refine wk_seq ?_
    refine wk_region [0, 0] rfl (by kernel_rfl) ?_
    simp only [List.zip_cons_cons, List.zip_nil_right]
    refine rg_move ?_
    simp only [Act.put, Act.eval, qn, qv, Nat.reduceAdd]
    refine rf_neq (b := false) rfl rfl rfl rfl (by decide) ?_
    simp only [Act.put, Act.eval, qn, qv, Nat.reduceAdd]
    refine rg_nil ?_
    refine ek_next ?_
    refine wk_cond_f rfl ?_
    refine wk_skip ?_
    refine ek_next ?_
    refine wk_seq ?_
    refine wk_region [0, 1, 0, 0, 0, 1, 1, 0] rfl (by kernel_rfl) ?_
    simp only [List.zip_cons_cons, List.zip_nil_right]
    refine rf_loadR (n := 16) rfl rfl rfl Try.underlying49 rfl (by kernel_rfl) (fun w hw => Kn.hd0 hw) rfl rfl ?_
    simp only [Act.put, Act.eval, qn, qv, Nat.reduceAdd]
    apply rg_pure (by rfl) (by kernel_rfl)
    case hargs => (simp only [qm, qs, Act.eval]; exact rfl)
    case h => exact fun w hw => M2.out w
    case hz => exact (fun _ h => by cases h)
    simp only [Act.put, Act.eval, qn, qv, Nat.reduceAdd]
    refine rg_move ?_
    simp only [Act.put, Act.eval, qn, qv, Nat.reduceAdd]
    refine rf_extract rfl rfl rfl rfl ?_
    simp only [Act.put, Act.eval, qn, qv, Nat.reduceAdd]
    refine rf_extract rfl rfl rfl rfl ?_
    simp only [Act.put, Act.eval, qn, qv, Nat.reduceAdd]
    refine rg_new (cs := ?_) (ty := ?_) (by rfl) (fun w => ?_) (fun _ h => by cases h) (fun g4 => ?_); rotate_left 2
    focus (go_simp; rfl)
    simp only [Act.put, Act.eval, qn, qv, Nat.reduceAdd]
    refine rf_storeR (n := 16) rfl rfl (by kernel_rfl) rfl rfl (UpdR.here _ _ _ (Nat.le_of_ble_eq_true rfl)) (fun _ h => by cases h) ?_
    simp only [Act.put, Act.eval, qn, qv, Nat.reduceAdd]
    refine rg_assign ?_
    simp only [Act.put, Act.eval, qn, qv, Nat.reduceAdd]
    refine rg_nil ?_
    refine ek_next ?_
    refine wk_seq ?_
    refine wk_seq ?_
    refine wk_region [0, 0, 0, 0, 0, 0, 0] rfl (by kernel_rfl) ?_
    simp only [List.zip_cons_cons, List.zip_nil_right]
    refine rg_move ?_
    simp only [Act.put, Act.eval, qn, qv, Nat.reduceAdd]
    refine rf_neq (b := false) rfl rfl rfl rfl (by decide) ?_
    simp only [Act.put, Act.eval, qn, qv, Nat.reduceAdd]
    refine rg_move ?_
    simp only [Act.put, Act.eval, qn, qv, Nat.reduceAdd]
    refine rf_loadR (n := 16) rfl rfl rfl Try.underlying49 rfl (by kernel_rfl) (fun w hw => Kn.hd0 hw) rfl rfl ?_
    simp only [Act.put, Act.eval, qn, qv, Nat.reduceAdd]
    refine rf_loadR (n := 16) rfl rfl rfl Try.underlying49 rfl (by kernel_rfl) (fun w hw => Kn.hd0 (Kn.tl (Kn.tl (Kn.tl hw)))) rfl rfl ?_
    simp only [Act.put, Act.eval, qn, qv, Nat.reduceAdd]
    refine rf_neP (p) rfl rfl rfl rfl ?_
    simp only [Act.put, Act.eval, qn, qv, Nat.reduceAdd]
    refine rf_pick rfl rfl rfl ?_
    simp only [Act.put, Act.eval, qn, qv, Nat.reduceAdd]
    refine rg_nil ?_
    refine ek_next ?_
    refine wk_cond_f rfl ?_
    refine wk_skip ?_
    refine ek_next ?_
    refine wk_seq ?_
    refine wk_region [0, 0, 1, 1] rfl (by kernel_rfl) ?_
    simp only [List.zip_cons_cons, List.zip_nil_right]
    refine rf_build (cs := fun a => #[a.eval (.const (.int .i64 1073741824)), a.eval (.const (.int .i64 1073741824))]) rfl rfl (by kernel_rfl) ?_
    simp only [Act.put, Act.eval, qn, qv, Nat.reduceAdd]
    refine rf_build (cs := fun a => #[cellAt (a.eval (.tmp 44)) 0, cellAt (a.eval (.tmp 44)) 1, .int .i64 0, .int .i64 0]) rfl rfl (by kernel_rfl) ?_
    simp only [Act.put, Act.eval, qn, qv, Nat.reduceAdd]
    refine rg_new (cs := ?_) (ty := ?_) (by rfl) (fun w => ?_) (fun _ h => by cases h) (fun g5 => ?_); rotate_left 2
    focus (go_simp; rfl)
    simp only [Act.put, Act.eval, qn, qv, Nat.reduceAdd]
    refine rf_storeR (n := 4) rfl rfl (by kernel_rfl) rfl rfl (UpdR.here _ _ _ (Nat.le_of_ble_eq_true rfl)) (fun _ h => by cases h) ?_
    simp only [Act.put, Act.eval, qn, qv, Nat.reduceAdd]
    refine rg_nil ?_
    refine ek_next ?_
    refine wk_seq ?_
    refine wk_region [0, 0, 0, 0, 0, 0, 0, 0, 0, 1, 0, 0, 0, 1, 1, 0] rfl (by kernel_rfl) ?_
    simp only [List.zip_cons_cons, List.zip_nil_right]
    refine rf_loadR (n := 16) rfl rfl rfl Try.underlying49 rfl (by kernel_rfl) (fun w hw => Kn.hd0 (Kn.tl (Kn.tl (Kn.tl (Kn.tl hw))))) rfl rfl ?_
    simp only [Act.put, Act.eval, qn, qv, Nat.reduceAdd]
    refine rf_build (cs := fun a => #[.int .i64 0, .int .i64 0, .int .i64 0, .int .i64 0]) rfl rfl (by kernel_rfl) ?_
    simp only [Act.put, Act.eval, qn, qv, Nat.reduceAdd]
    refine rf_loadR (n := 4) rfl rfl rfl Try.underlying25 rfl (by kernel_rfl) (fun w hw => Kn.hd0 hw) rfl rfl ?_
    simp only [Act.put, Act.eval, qn, qv, Nat.reduceAdd]
    refine rf_build (cs := fun a => #[cellAt (a.eval (.tmp 48)) 0, cellAt (a.eval (.tmp 48)) 1, cellAt (a.eval (.tmp 48)) 2, cellAt (a.eval (.tmp 48)) 3, cellAt (a.eval (.tmp 49)) 0, cellAt (a.eval (.tmp 49)) 1, cellAt (a.eval (.tmp 49)) 2, cellAt (a.eval (.tmp 49)) 3]) rfl rfl (by kernel_rfl) ?_
    simp only [Act.put, Act.eval, qn, qv, Nat.reduceAdd]
    refine rf_loadR (n := 4) rfl rfl rfl Try.underlying25 rfl (by kernel_rfl) (fun w hw => Kn.hd0 hw) rfl rfl ?_
    simp only [Act.put, Act.eval, qn, qv, Nat.reduceAdd]
    refine rf_build (cs := fun a => #[.int .i64 0, .int .i64 0, .int .i64 0, .int .i64 0]) rfl rfl (by kernel_rfl) ?_
    simp only [Act.put, Act.eval, qn, qv, Nat.reduceAdd]
    refine rf_build (cs := fun a => #[cellAt (a.eval (.tmp 51)) 0, cellAt (a.eval (.tmp 51)) 1, cellAt (a.eval (.tmp 51)) 2, cellAt (a.eval (.tmp 51)) 3, cellAt (a.eval (.tmp 52)) 0, cellAt (a.eval (.tmp 52)) 1, cellAt (a.eval (.tmp 52)) 2, cellAt (a.eval (.tmp 52)) 3]) rfl rfl (by kernel_rfl) ?_
    simp only [Act.put, Act.eval, qn, qv, Nat.reduceAdd]
    refine rf_build (cs := fun a => #[cellAt (a.eval (.tmp 50)) 0, cellAt (a.eval (.tmp 50)) 1, cellAt (a.eval (.tmp 50)) 2, cellAt (a.eval (.tmp 50)) 3, cellAt (a.eval (.tmp 50)) 4, cellAt (a.eval (.tmp 50)) 5, cellAt (a.eval (.tmp 50)) 6, cellAt (a.eval (.tmp 50)) 7, cellAt (a.eval (.tmp 53)) 0, cellAt (a.eval (.tmp 53)) 1, cellAt (a.eval (.tmp 53)) 2, cellAt (a.eval (.tmp 53)) 3, cellAt (a.eval (.tmp 53)) 4, cellAt (a.eval (.tmp 53)) 5, cellAt (a.eval (.tmp 53)) 6, cellAt (a.eval (.tmp 53)) 7]) rfl rfl (by kernel_rfl) ?_
    simp only [Act.put, Act.eval, qn, qv, Nat.reduceAdd]
    refine rf_build (cs := fun a => #[cellAt (a.eval (.tmp 54)) 0, cellAt (a.eval (.tmp 54)) 1, cellAt (a.eval (.tmp 54)) 2, cellAt (a.eval (.tmp 54)) 3, cellAt (a.eval (.tmp 54)) 4, cellAt (a.eval (.tmp 54)) 5, cellAt (a.eval (.tmp 54)) 6, cellAt (a.eval (.tmp 54)) 7, cellAt (a.eval (.tmp 54)) 8, cellAt (a.eval (.tmp 54)) 9, cellAt (a.eval (.tmp 54)) 10, cellAt (a.eval (.tmp 54)) 11, cellAt (a.eval (.tmp 54)) 12, cellAt (a.eval (.tmp 54)) 13, cellAt (a.eval (.tmp 54)) 14, cellAt (a.eval (.tmp 54)) 15]) rfl rfl (by kernel_rfl) ?_
    simp only [Act.put, Act.eval, qn, qv, Nat.reduceAdd]
    apply rg_pure (by rfl) (by kernel_rfl)
    case hargs => (simp only [qm, qs, Act.eval]; exact rfl)
    case h => exact fun w hw => S1.out w
    case hz => exact (fun _ h => by cases h)
    simp only [Act.put, Act.eval, qn, qv, Nat.reduceAdd]
    refine rg_move ?_
    simp only [Act.put, Act.eval, qn, qv, Nat.reduceAdd]
    refine rf_extract rfl rfl rfl rfl ?_
    simp only [Act.put, Act.eval, qn, qv, Nat.reduceAdd]
    refine rf_extract rfl rfl rfl rfl ?_
    simp only [Act.put, Act.eval, qn, qv, Nat.reduceAdd]
    refine rg_new (cs := ?_) (ty := ?_) (by rfl) (fun w => ?_) (fun _ h => by cases h) (fun g6 => ?_); rotate_left 2
    focus (go_simp; rfl)
    simp only [Act.put, Act.eval, qn, qv, Nat.reduceAdd]
    refine rf_storeR (n := 16) rfl rfl (by kernel_rfl) rfl rfl (UpdR.here _ _ _ (Nat.le_of_ble_eq_true rfl)) (fun _ h => by cases h) ?_
    simp only [Act.put, Act.eval, qn, qv, Nat.reduceAdd]
    refine rg_assign ?_
    simp only [Act.put, Act.eval, qn, qv, Nat.reduceAdd]
    refine rg_nil ?_
    refine ek_next ?_
    refine wk_cutF [4, 11, 12, 59, 60, 61, 62, 63, 64, 65, 66, 67, 68, 69, 70, 71, 72, 73, 74, 75, 76, 77, 78, 79, 80, 81, 82] (fun f s => s = ((g3, .cells #[.int .i64 (En.mir p).s00.re.lo, .int .i64 (En.mir p).s00.re.hi, .int .i64 (En.mir p).s00.im.lo, .int .i64 (En.mir p).s00.im.hi, .int .i64 (En.mir p).s01.re.lo, .int .i64 (En.mir p).s01.re.hi, .int .i64 (En.mir p).s01.im.lo, .int .i64 (En.mir p).s01.im.hi, .int .i64 (En.mir p).s10.re.lo, .int .i64 (En.mir p).s10.re.hi, .int .i64 (En.mir p).s10.im.lo, .int .i64 (En.mir p).s10.im.hi, .int .i64 (En.mir p).s11.re.lo, .int .i64 (En.mir p).s11.re.hi, .int .i64 (En.mir p).s11.im.lo, .int .i64 (En.mir p).s11.im.hi] 49) :: ((g2, .cells #[.int .i64 q.s00.re.lo, .int .i64 q.s00.re.hi, .int .i64 q.s00.im.lo, .int .i64 q.s00.im.hi, .int .i64 q.s01.re.lo, .int .i64 q.s01.re.hi, .int .i64 q.s01.im.lo, .int .i64 q.s01.im.hi, .int .i64 q.s10.re.lo, .int .i64 q.s10.re.hi, .int .i64 q.s10.im.lo, .int .i64 q.s10.im.hi, .int .i64 q.s11.re.lo, .int .i64 q.s11.re.hi, .int .i64 q.s11.im.lo, .int .i64 q.s11.im.hi] 49) :: ((g1, .cells #[.int .i64 p.s00.re.lo, .int .i64 p.s00.re.hi, .int .i64 p.s00.im.lo, .int .i64 p.s00.im.hi, .int .i64 p.s01.re.lo, .int .i64 p.s01.re.hi, .int .i64 p.s01.im.lo, .int .i64 p.s01.im.hi, .int .i64 p.s10.re.lo, .int .i64 p.s10.re.hi, .int .i64 p.s10.im.lo, .int .i64 p.s10.im.hi, .int .i64 p.s11.re.lo, .int .i64 p.s11.re.hi, .int .i64 p.s11.im.lo, .int .i64 p.s11.im.hi] 49) :: [])))) ?_ ?_
    · refine wk_seq ?_
      refine wk_region [0, 0] rfl (by kernel_rfl) ?_
      simp only [List.zip_cons_cons, List.zip_nil_right]
      refine rg_move ?_
      simp only [Act.put, Act.eval, qn, qv, Nat.reduceAdd]
      refine rfb_eql rfl rfl rfl rfl ?_
      intro x h1
      cases x
      · (try simp only [decide_eq_true_eq, decide_eq_false_iff_not, Int.not_lt, Int.not_le, beq_iff_eq, beq_eq_false_iff_ne, bne_iff_ne, bne_eq_false_iff_eq, ne_eq, Bool.not_eq_true', Bool.not_eq_false'] at h1)
        simp only [Act.put, Act.eval, qn, qv, Nat.reduceAdd]
        refine rg_nil ?_
        refine ek_next ?_
        refine wk_cond_f rfl ?_
        refine wk_skip ?_
        refine ek_sub (List.Sublist.cons _ (List.Sublist.cons _ (List.Sublist.cons _ (sc _ (sc _ (sc _ List.Sublist.slnil)))))) ?_
        refine ek_midF (by kernel_rfl) ?_
        exact (by rfl)
      · (try simp only [decide_eq_true_eq, decide_eq_false_iff_not, Int.not_lt, Int.not_le, beq_iff_eq, beq_eq_false_iff_ne, bne_iff_ne, bne_eq_false_iff_eq, ne_eq, Bool.not_eq_true', Bool.not_eq_false'] at h1)
        simp only [Act.put, Act.eval, qn, qv, Nat.reduceAdd]
        have hin := thru_in hp.out hz.out (by simpa using h1)
        have J1 := in_any p.s00 z.s00
        rw [hin.1] at J1
        replace J1 := Lib.hid J1
        have J2 := in_any p.s01 z.s01
        rw [hin.2.1] at J2
        replace J2 := Lib.hid J2
        have J3 := in_any p.s10 z.s10
        rw [hin.2.2.1] at J3
        replace J3 := Lib.hid J3
        have J4 := in_any p.s11 z.s11
        rw [hin.2.2.2] at J4
        replace J4 := Lib.hid J4
        refine rg_nil ?_
        refine ek_next ?_
        refine wk_cond_t rfl ?_
        refine wk_seq ?_
        refine wk_region [0] rfl (by kernel_rfl) ?_
        simp only [List.zip_cons_cons, List.zip_nil_right]
        refine rg_move ?_
        simp only [Act.put, Act.eval, qn, qv, Nat.reduceAdd]
        refine rg_nil ?_
        refine ek_next ?_
        refine wk_block ?_
        refine wk_unroll 3 ?_
        refine wk_seq ?_
        refine wk_region [0] rfl (by kernel_rfl) ?_
        simp only [List.zip_cons_cons, List.zip_nil_right]
        refine rf_lss (b := true) rfl rfl rfl rfl (by decide) ?_
        simp only [Act.put, Act.eval, qn, qv, Nat.reduceAdd]
        refine rg_nil ?_
        refine ek_next ?_
        refine wk_seq ?_
        refine wk_cond_t rfl ?_
        refine wk_skip ?_
        refine ek_next ?_
        refine wk_seq ?_
        refine wk_block ?_
        refine wk_seq ?_
        refine wk_region [0, 0] rfl (by kernel_rfl) ?_
        simp only [List.zip_cons_cons, List.zip_nil_right]
        refine rg_move ?_
        simp only [Act.put, Act.eval, qn, qv, Nat.reduceAdd]
        refine rg_assign ?_
        simp only [Act.put, Act.eval, qn, qv, Nat.reduceAdd]
        refine rg_nil ?_
        refine ek_next ?_
        refine wk_seq ?_
        refine wk_region [0] rfl (by kernel_rfl) ?_
        simp only [List.zip_cons_cons, List.zip_nil_right]
        refine rg_move ?_
        simp only [Act.put, Act.eval, qn, qv, Nat.reduceAdd]
        refine rg_nil ?_
        refine ek_next ?_
        refine wk_block ?_
        refine wk_unroll 3 ?_
        refine wk_seq ?_
        refine wk_region [0] rfl (by kernel_rfl) ?_
        simp only [List.zip_cons_cons, List.zip_nil_right]
        refine rf_lss (b := true) rfl rfl rfl rfl (by decide) ?_
        simp only [Act.put, Act.eval, qn, qv, Nat.reduceAdd]
        refine rg_nil ?_
        refine ek_next ?_
        refine wk_seq ?_
        refine wk_cond_t rfl ?_
        refine wk_skip ?_
        refine ek_next ?_
        refine wk_seq ?_
        refine wk_block ?_
        refine wk_seq ?_
        refine wk_region [0, 0] rfl (by kernel_rfl) ?_
        simp only [List.zip_cons_cons, List.zip_nil_right]
        refine rg_move ?_
        simp only [Act.put, Act.eval, qn, qv, Nat.reduceAdd]
        refine rg_assign ?_
        simp only [Act.put, Act.eval, qn, qv, Nat.reduceAdd]
        refine rg_nil ?_
        refine ek_next ?_
        refine wk_seq ?_
        refine wk_draws _ _ [(0, 0), (1, 0), (2, 0), (3, 0), (4, 0), (5, 0), (6, 0), (7, 0), (8, 0), (9, 0), (10, 0), (11, 0), (12, 1), (13, 0)] [] (by kernel_rfl) (by kernel_rfl) (fun c d v a w h => by cases d <;> exact h) ((sc _ (sc _ (sc _ (sc _ (sc _ (sc _ List.Sublist.slnil))))))) (fun e => by first | exact absurd e (by decide) | rfl) ?_
        simp only [List.map_cons, List.map_nil, List.getD_cons_zero, List.getD_cons_succ]
        refine rg_move ?_
        simp only [Act.put, Act.eval, qn, qv, Nat.reduceAdd]
        refine rg_move ?_
        simp only [Act.put, Act.eval, qn, qv, Nat.reduceAdd]
        refine rf_field (n := 15) (j := 0) rfl rfl rfl Try.underlying49 rfl (by kernel_rfl) rfl ?_
        simp only [Act.put, Act.eval, qn, qv, Nat.reduceAdd]
        refine rf_indexA (n := 0) (sz := 8) (j := 0) rfl rfl rfl rfl Try.underlying47 (by kernel_rfl) (by decide) rfl ?_
        simp only [Act.put, Act.eval, qn, qv, Nat.reduceAdd]
        refine rf_indexA (n := 0) (sz := 4) (j := 0) rfl rfl rfl rfl Try.underlying46 (by kernel_rfl) (by decide) rfl ?_
        simp only [Act.put, Act.eval, qn, qv, Nat.reduceAdd]
        refine rf_loadR (n := 4) rfl rfl rfl Try.underlying25 rfl (by kernel_rfl) (fun w hw => Kn.hd0 (Kn.tl (Kn.tl (Kn.tl (Kn.tl (Kn.tl hw)))))) rfl rfl ?_
        simp only [Act.put, Act.eval, qn, qv, Nat.reduceAdd]
        refine rg_move ?_
        simp only [Act.put, Act.eval, qn, qv, Nat.reduceAdd]
        refine rg_move ?_
        simp only [Act.put, Act.eval, qn, qv, Nat.reduceAdd]
        refine rf_field (n := 15) (j := 0) rfl rfl rfl Try.underlying49 rfl (by kernel_rfl) rfl ?_
        simp only [Act.put, Act.eval, qn, qv, Nat.reduceAdd]
        refine rf_indexA (n := 0) (sz := 8) (j := 0) rfl rfl rfl rfl Try.underlying47 (by kernel_rfl) (by decide) rfl ?_
        simp only [Act.put, Act.eval, qn, qv, Nat.reduceAdd]
        refine rf_indexA (n := 0) (sz := 4) (j := 0) rfl rfl rfl rfl Try.underlying46 (by kernel_rfl) (by decide) rfl ?_
        simp only [Act.put, Act.eval, qn, qv, Nat.reduceAdd]
        refine rf_loadR (n := 4) rfl rfl rfl Try.underlying25 rfl (by kernel_rfl) (fun w hw => Kn.hd0 hw) rfl rfl ?_
        simp only [Act.put, Act.eval, qn, qv, Nat.reduceAdd]
        apply rg_pure (by rfl) (by kernel_rfl)
        case hargs => (simp only [qm, qs, Act.eval]; exact rfl)
        case h => exact fun w hw => J1.out w
        case hz => exact (fun _ h => by cases h; exact (sc _ (sc _ (sc _ (sc _ (sc _ (sc _ List.Sublist.slnil)))))))
        simp only [Act.put, Act.eval, qn, qv, Nat.reduceAdd]
        refine rf_not rfl rfl rfl ?_
        simp only [Act.put, Act.eval, qn, qv, Nat.reduceAdd]
        refine rg_nil ?_
        refine ek_next ?_
        refine wk_cond_f rfl ?_
        refine wk_skip ?_
        refine ek_block ?_
        refine ek_next ?_
        refine wk_region [0, 0] rfl (by kernel_rfl) ?_
        simp only [List.zip_cons_cons, List.zip_nil_right]
        refine rf_add (r := 1) rfl rfl rfl rfl (by decide) ?_
        simp only [Act.put, Act.eval, qn, qv, Nat.reduceAdd]
        refine rg_move ?_
        simp only [Act.put, Act.eval, qn, qv, Nat.reduceAdd]
        refine rg_nil ?_
        refine ek_again ?_
        refine wk_seq ?_
        refine wk_region [0] rfl (by kernel_rfl) ?_
        simp only [List.zip_cons_cons, List.zip_nil_right]
        refine rf_lss (b := true) rfl rfl rfl rfl (by decide) ?_
        simp only [Act.put, Act.eval, qn, qv, Nat.reduceAdd]
        refine rg_nil ?_
        refine ek_next ?_
        refine wk_seq ?_
        refine wk_cond_t rfl ?_
        refine wk_skip ?_
        refine ek_next ?_
        refine wk_seq ?_
        refine wk_block ?_
        refine wk_seq ?_
        refine wk_region [0, 0] rfl (by kernel_rfl) ?_
        simp only [List.zip_cons_cons, List.zip_nil_right]
        refine rg_move ?_
        simp only [Act.put, Act.eval, qn, qv, Nat.reduceAdd]
        refine rg_assign ?_
        simp only [Act.put, Act.eval, qn, qv, Nat.reduceAdd]
        refine rg_nil ?_
        refine ek_next ?_
        refine wk_seq ?_
        refine wk_draws _ _ [(0, 0), (1, 0), (2, 0), (3, 0), (4, 0), (5, 0), (6, 0), (7, 0), (8, 0), (9, 0), (10, 0), (11, 0), (12, 1), (13, 0)] [] (by kernel_rfl) (by kernel_rfl) (fun c d v a w h => by cases d <;> exact h) ((sc _ (sc _ (sc _ (sc _ (sc _ (sc _ List.Sublist.slnil))))))) (fun e => by first | exact absurd e (by decide) | rfl) ?_
        simp only [List.map_cons, List.map_nil, List.getD_cons_zero, List.getD_cons_succ]
        refine rg_move ?_
        simp only [Act.put, Act.eval, qn, qv, Nat.reduceAdd]
        refine rg_move ?_
        simp only [Act.put, Act.eval, qn, qv, Nat.reduceAdd]
        refine rf_field (n := 15) (j := 0) rfl rfl rfl Try.underlying49 rfl (by kernel_rfl) rfl ?_
        simp only [Act.put, Act.eval, qn, qv, Nat.reduceAdd]
        refine rf_indexA (n := 0) (sz := 8) (j := 0) rfl rfl rfl rfl Try.underlying47 (by kernel_rfl) (by decide) rfl ?_
        simp only [Act.put, Act.eval, qn, qv, Nat.reduceAdd]
        refine rf_indexA (n := 1) (sz := 4) (j := 4) rfl rfl rfl rfl Try.underlying46 (by kernel_rfl) (by decide) rfl ?_
        simp only [Act.put, Act.eval, qn, qv, Nat.reduceAdd]
        refine rf_loadR (n := 4) rfl rfl rfl Try.underlying25 rfl (by kernel_rfl) (fun w hw => Kn.hd0 (Kn.tl (Kn.tl (Kn.tl (Kn.tl (Kn.tl hw)))))) rfl rfl ?_
        simp only [Act.put, Act.eval, qn, qv, Nat.reduceAdd]
        refine rg_move ?_
        simp only [Act.put, Act.eval, qn, qv, Nat.reduceAdd]
        refine rg_move ?_
        simp only [Act.put, Act.eval, qn, qv, Nat.reduceAdd]
        refine rf_field (n := 15) (j := 0) rfl rfl rfl Try.underlying49 rfl (by kernel_rfl) rfl ?_
        simp only [Act.put, Act.eval, qn, qv, Nat.reduceAdd]
        refine rf_indexA (n := 0) (sz := 8) (j := 0) rfl rfl rfl rfl Try.underlying47 (by kernel_rfl) (by decide) rfl ?_
        simp only [Act.put, Act.eval, qn, qv, Nat.reduceAdd]
        refine rf_indexA (n := 1) (sz := 4) (j := 4) rfl rfl rfl rfl Try.underlying46 (by kernel_rfl) (by decide) rfl ?_
        simp only [Act.put, Act.eval, qn, qv, Nat.reduceAdd]
        refine rf_loadR (n := 4) rfl rfl rfl Try.underlying25 rfl (by kernel_rfl) (fun w hw => Kn.hd0 hw) rfl rfl ?_
        simp only [Act.put, Act.eval, qn, qv, Nat.reduceAdd]
        apply rg_pure (by rfl) (by kernel_rfl)
        case hargs => (simp only [qm, qs, Act.eval]; exact rfl)
        case h => exact fun w hw => J2.out w
        case hz => exact (fun _ h => by cases h; exact (sc _ (sc _ (sc _ (sc _ (sc _ (sc _ List.Sublist.slnil)))))))
        simp only [Act.put, Act.eval, qn, qv, Nat.reduceAdd]
        refine rf_not rfl rfl rfl ?_
        simp only [Act.put, Act.eval, qn, qv, Nat.reduceAdd]
        refine rg_nil ?_
        refine ek_next ?_
        refine wk_cond_f rfl ?_
        refine wk_skip ?_
        refine ek_block ?_
        refine ek_next ?_
        refine wk_region [0, 0] rfl (by kernel_rfl) ?_
        simp only [List.zip_cons_cons, List.zip_nil_right]
        refine rf_add (r := 2) rfl rfl rfl rfl (by decide) ?_
        simp only [Act.put, Act.eval, qn, qv, Nat.reduceAdd]
        refine rg_move ?_
        simp only [Act.put, Act.eval, qn, qv, Nat.reduceAdd]
        refine rg_nil ?_
        refine ek_again ?_
        refine wk_seq ?_
        refine wk_region [0] rfl (by kernel_rfl) ?_
        simp only [List.zip_cons_cons, List.zip_nil_right]
        refine rf_lss (b := false) rfl rfl rfl rfl (by decide) ?_
        simp only [Act.put, Act.eval, qn, qv, Nat.reduceAdd]
        refine rg_nil ?_
        refine ek_next ?_
        refine wk_seq ?_
        refine wk_cond_f rfl ?_
        refine wk_exit ?_
        refine ek_then_exit ?_
        refine ek_then_exit ?_
        refine ek_block_exit ?_
        refine ek_block ?_
        refine ek_next ?_
        refine wk_region [0, 0] rfl (by kernel_rfl) ?_
        simp only [List.zip_cons_cons, List.zip_nil_right]
        refine rf_add (r := 1) rfl rfl rfl rfl (by decide) ?_
        simp only [Act.put, Act.eval, qn, qv, Nat.reduceAdd]
        refine rg_move ?_
        simp only [Act.put, Act.eval, qn, qv, Nat.reduceAdd]
        refine rg_nil ?_
        refine ek_again ?_
        refine wk_seq ?_
        refine wk_region [0] rfl (by kernel_rfl) ?_
        simp only [List.zip_cons_cons, List.zip_nil_right]
        refine rf_lss (b := true) rfl rfl rfl rfl (by decide) ?_
        simp only [Act.put, Act.eval, qn, qv, Nat.reduceAdd]
        refine rg_nil ?_
        refine ek_next ?_
        refine wk_seq ?_
        refine wk_cond_t rfl ?_
        refine wk_skip ?_
        refine ek_next ?_
        refine wk_seq ?_
        refine wk_block ?_
        refine wk_seq ?_
        refine wk_region [0, 0] rfl (by kernel_rfl) ?_
        simp only [List.zip_cons_cons, List.zip_nil_right]
        refine rg_move ?_
        simp only [Act.put, Act.eval, qn, qv, Nat.reduceAdd]
        refine rg_assign ?_
        simp only [Act.put, Act.eval, qn, qv, Nat.reduceAdd]
        refine rg_nil ?_
        refine ek_next ?_
        refine wk_seq ?_
        refine wk_region [0] rfl (by kernel_rfl) ?_
        simp only [List.zip_cons_cons, List.zip_nil_right]
        refine rg_move ?_
        simp only [Act.put, Act.eval, qn, qv, Nat.reduceAdd]
        refine rg_nil ?_
        refine ek_next ?_
        refine wk_block ?_
        refine wk_unroll 3 ?_
        refine wk_seq ?_
        refine wk_region [0] rfl (by kernel_rfl) ?_
        simp only [List.zip_cons_cons, List.zip_nil_right]
        refine rf_lss (b := true) rfl rfl rfl rfl (by decide) ?_
        simp only [Act.put, Act.eval, qn, qv, Nat.reduceAdd]
        refine rg_nil ?_
        refine ek_next ?_
        refine wk_seq ?_
        refine wk_cond_t rfl ?_
        refine wk_skip ?_
        refine ek_next ?_
        refine wk_seq ?_
        refine wk_block ?_
        refine wk_seq ?_
        refine wk_region [0, 0] rfl (by kernel_rfl) ?_
        simp only [List.zip_cons_cons, List.zip_nil_right]
        refine rg_move ?_
        simp only [Act.put, Act.eval, qn, qv, Nat.reduceAdd]
        refine rg_assign ?_
        simp only [Act.put, Act.eval, qn, qv, Nat.reduceAdd]
        refine rg_nil ?_
        refine ek_next ?_
        refine wk_seq ?_
        refine wk_draws _ _ [(0, 0), (1, 0), (2, 0), (3, 0), (4, 0), (5, 0), (6, 0), (7, 0), (8, 0), (9, 0), (10, 0), (11, 0), (12, 1), (13, 0)] [] (by kernel_rfl) (by kernel_rfl) (fun c d v a w h => by cases d <;> exact h) ((sc _ (sc _ (sc _ (sc _ (sc _ (sc _ List.Sublist.slnil))))))) (fun e => by first | exact absurd e (by decide) | rfl) ?_
        simp only [List.map_cons, List.map_nil, List.getD_cons_zero, List.getD_cons_succ]
        refine rg_move ?_
        simp only [Act.put, Act.eval, qn, qv, Nat.reduceAdd]
        refine rg_move ?_
        simp only [Act.put, Act.eval, qn, qv, Nat.reduceAdd]
        refine rf_field (n := 15) (j := 0) rfl rfl rfl Try.underlying49 rfl (by kernel_rfl) rfl ?_
        simp only [Act.put, Act.eval, qn, qv, Nat.reduceAdd]
        refine rf_indexA (n := 1) (sz := 8) (j := 8) rfl rfl rfl rfl Try.underlying47 (by kernel_rfl) (by decide) rfl ?_
        simp only [Act.put, Act.eval, qn, qv, Nat.reduceAdd]
        refine rf_indexA (n := 0) (sz := 4) (j := 8) rfl rfl rfl rfl Try.underlying46 (by kernel_rfl) (by decide) rfl ?_
        simp only [Act.put, Act.eval, qn, qv, Nat.reduceAdd]
        refine rf_loadR (n := 4) rfl rfl rfl Try.underlying25 rfl (by kernel_rfl) (fun w hw => Kn.hd0 (Kn.tl (Kn.tl (Kn.tl (Kn.tl (Kn.tl hw)))))) rfl rfl ?_
        simp only [Act.put, Act.eval, qn, qv, Nat.reduceAdd]
        refine rg_move ?_
        simp only [Act.put, Act.eval, qn, qv, Nat.reduceAdd]
        refine rg_move ?_
        simp only [Act.put, Act.eval, qn, qv, Nat.reduceAdd]
        refine rf_field (n := 15) (j := 0) rfl rfl rfl Try.underlying49 rfl (by kernel_rfl) rfl ?_
        simp only [Act.put, Act.eval, qn, qv, Nat.reduceAdd]
        refine rf_indexA (n := 1) (sz := 8) (j := 8) rfl rfl rfl rfl Try.underlying47 (by kernel_rfl) (by decide) rfl ?_
        simp only [Act.put, Act.eval, qn, qv, Nat.reduceAdd]
        refine rf_indexA (n := 0) (sz := 4) (j := 8) rfl rfl rfl rfl Try.underlying46 (by kernel_rfl) (by decide) rfl ?_
        simp only [Act.put, Act.eval, qn, qv, Nat.reduceAdd]
        refine rf_loadR (n := 4) rfl rfl rfl Try.underlying25 rfl (by kernel_rfl) (fun w hw => Kn.hd0 hw) rfl rfl ?_
        simp only [Act.put, Act.eval, qn, qv, Nat.reduceAdd]
        apply rg_pure (by rfl) (by kernel_rfl)
        case hargs => (simp only [qm, qs, Act.eval]; exact rfl)
        case h => exact fun w hw => J3.out w
        case hz => exact (fun _ h => by cases h; exact (sc _ (sc _ (sc _ (sc _ (sc _ (sc _ List.Sublist.slnil)))))))
        simp only [Act.put, Act.eval, qn, qv, Nat.reduceAdd]
        refine rf_not rfl rfl rfl ?_
        simp only [Act.put, Act.eval, qn, qv, Nat.reduceAdd]
        refine rg_nil ?_
        refine ek_next ?_
        refine wk_cond_f rfl ?_
        refine wk_skip ?_
        refine ek_block ?_
        refine ek_next ?_
        refine wk_region [0, 0] rfl (by kernel_rfl) ?_
        simp only [List.zip_cons_cons, List.zip_nil_right]
        refine rf_add (r := 1) rfl rfl rfl rfl (by decide) ?_
        simp only [Act.put, Act.eval, qn, qv, Nat.reduceAdd]
        refine rg_move ?_
        simp only [Act.put, Act.eval, qn, qv, Nat.reduceAdd]
        refine rg_nil ?_
        refine ek_again ?_
        refine wk_seq ?_
        refine wk_region [0] rfl (by kernel_rfl) ?_
        simp only [List.zip_cons_cons, List.zip_nil_right]
        refine rf_lss (b := true) rfl rfl rfl rfl (by decide) ?_
        simp only [Act.put, Act.eval, qn, qv, Nat.reduceAdd]
        refine rg_nil ?_
        refine ek_next ?_
        refine wk_seq ?_
        refine wk_cond_t rfl ?_
        refine wk_skip ?_
        refine ek_next ?_
        refine wk_seq ?_
        refine wk_block ?_
        refine wk_seq ?_
        refine wk_region [0, 0] rfl (by kernel_rfl) ?_
        simp only [List.zip_cons_cons, List.zip_nil_right]
        refine rg_move ?_
        simp only [Act.put, Act.eval, qn, qv, Nat.reduceAdd]
        refine rg_assign ?_
        simp only [Act.put, Act.eval, qn, qv, Nat.reduceAdd]
        refine rg_nil ?_
        refine ek_next ?_
        refine wk_seq ?_
        refine wk_draws _ _ [(0, 0), (1, 0), (2, 0), (3, 0), (4, 0), (5, 0), (6, 0), (7, 0), (8, 0), (9, 0), (10, 0), (11, 0), (12, 1), (13, 0)] [] (by kernel_rfl) (by kernel_rfl) (fun c d v a w h => by cases d <;> exact h) ((sc _ (sc _ (sc _ (sc _ (sc _ (sc _ List.Sublist.slnil))))))) (fun e => by first | exact absurd e (by decide) | rfl) ?_
        simp only [List.map_cons, List.map_nil, List.getD_cons_zero, List.getD_cons_succ]
        refine rg_move ?_
        simp only [Act.put, Act.eval, qn, qv, Nat.reduceAdd]
        refine rg_move ?_
        simp only [Act.put, Act.eval, qn, qv, Nat.reduceAdd]
        refine rf_field (n := 15) (j := 0) rfl rfl rfl Try.underlying49 rfl (by kernel_rfl) rfl ?_
        simp only [Act.put, Act.eval, qn, qv, Nat.reduceAdd]
        refine rf_indexA (n := 1) (sz := 8) (j := 8) rfl rfl rfl rfl Try.underlying47 (by kernel_rfl) (by decide) rfl ?_
        simp only [Act.put, Act.eval, qn, qv, Nat.reduceAdd]
        refine rf_indexA (n := 1) (sz := 4) (j := 12) rfl rfl rfl rfl Try.underlying46 (by kernel_rfl) (by decide) rfl ?_
        simp only [Act.put, Act.eval, qn, qv, Nat.reduceAdd]
        refine rf_loadR (n := 4) rfl rfl rfl Try.underlying25 rfl (by kernel_rfl) (fun w hw => Kn.hd0 (Kn.tl (Kn.tl (Kn.tl (Kn.tl (Kn.tl hw)))))) rfl rfl ?_
        simp only [Act.put, Act.eval, qn, qv, Nat.reduceAdd]
        refine rg_move ?_
        simp only [Act.put, Act.eval, qn, qv, Nat.reduceAdd]
        refine rg_move ?_
        simp only [Act.put, Act.eval, qn, qv, Nat.reduceAdd]
        refine rf_field (n := 15) (j := 0) rfl rfl rfl Try.underlying49 rfl (by kernel_rfl) rfl ?_
        simp only [Act.put, Act.eval, qn, qv, Nat.reduceAdd]
        refine rf_indexA (n := 1) (sz := 8) (j := 8) rfl rfl rfl rfl Try.underlying47 (by kernel_rfl) (by decide) rfl ?_
        simp only [Act.put, Act.eval, qn, qv, Nat.reduceAdd]
        refine rf_indexA (n := 1) (sz := 4) (j := 12) rfl rfl rfl rfl Try.underlying46 (by kernel_rfl) (by decide) rfl ?_
        simp only [Act.put, Act.eval, qn, qv, Nat.reduceAdd]
        refine rf_loadR (n := 4) rfl rfl rfl Try.underlying25 rfl (by kernel_rfl) (fun w hw => Kn.hd0 hw) rfl rfl ?_
        simp only [Act.put, Act.eval, qn, qv, Nat.reduceAdd]
        apply rg_pure (by rfl) (by kernel_rfl)
        case hargs => (simp only [qm, qs, Act.eval]; exact rfl)
        case h => exact fun w hw => J4.out w
        case hz => exact (fun _ h => by cases h; exact (sc _ (sc _ (sc _ (sc _ (sc _ (sc _ List.Sublist.slnil)))))))
        simp only [Act.put, Act.eval, qn, qv, Nat.reduceAdd]
        refine rf_not rfl rfl rfl ?_
        simp only [Act.put, Act.eval, qn, qv, Nat.reduceAdd]
        refine rg_nil ?_
        refine ek_next ?_
        refine wk_cond_f rfl ?_
        refine wk_skip ?_
        refine ek_block ?_
        refine ek_next ?_
        refine wk_region [0, 0] rfl (by kernel_rfl) ?_
        simp only [List.zip_cons_cons, List.zip_nil_right]
        refine rf_add (r := 2) rfl rfl rfl rfl (by decide) ?_
        simp only [Act.put, Act.eval, qn, qv, Nat.reduceAdd]
        refine rg_move ?_
        simp only [Act.put, Act.eval, qn, qv, Nat.reduceAdd]
        refine rg_nil ?_
        refine ek_again ?_
        refine wk_seq ?_
        refine wk_region [0] rfl (by kernel_rfl) ?_
        simp only [List.zip_cons_cons, List.zip_nil_right]
        refine rf_lss (b := false) rfl rfl rfl rfl (by decide) ?_
        simp only [Act.put, Act.eval, qn, qv, Nat.reduceAdd]
        refine rg_nil ?_
        refine ek_next ?_
        refine wk_seq ?_
        refine wk_cond_f rfl ?_
        refine wk_exit ?_
        refine ek_then_exit ?_
        refine ek_then_exit ?_
        refine ek_block_exit ?_
        refine ek_block ?_
        refine ek_next ?_
        refine wk_region [0, 0] rfl (by kernel_rfl) ?_
        simp only [List.zip_cons_cons, List.zip_nil_right]
        refine rf_add (r := 2) rfl rfl rfl rfl (by decide) ?_
        simp only [Act.put, Act.eval, qn, qv, Nat.reduceAdd]
        refine rg_move ?_
        simp only [Act.put, Act.eval, qn, qv, Nat.reduceAdd]
        refine rg_nil ?_
        refine ek_again ?_
        refine wk_seq ?_
        refine wk_region [0] rfl (by kernel_rfl) ?_
        simp only [List.zip_cons_cons, List.zip_nil_right]
        refine rf_lss (b := false) rfl rfl rfl rfl (by decide) ?_
        simp only [Act.put, Act.eval, qn, qv, Nat.reduceAdd]
        refine rg_nil ?_
        refine ek_next ?_
        refine wk_seq ?_
        refine wk_cond_f rfl ?_
        refine wk_exit ?_
        refine ek_then_exit ?_
        refine ek_then_exit ?_
        refine ek_block_exit ?_
        refine ek_sub (List.Sublist.cons _ (List.Sublist.cons _ (List.Sublist.cons _ (sc _ (sc _ (sc _ List.Sublist.slnil)))))) ?_
        refine ek_midF (by kernel_rfl) ?_
        exact (by rfl)
    · rintro f1 s rfl
      simp only [Act.putF, List.foldl_cons, List.foldl_nil, Act.put, Act.eval, q1, q2, q3, q4, q5, q6, q7, q8, q9, q10, q11, q12, q13, q14, q15, q16, q17, q18, Nat.reduceAdd, Bool.not_true, Bool.not_false]
      refine wk_seq ?_
      refine wk_region [0, 1, 0, 0, 0, 1, 1, 0] rfl (by kernel_rfl) ?_
      simp only [List.zip_cons_cons, List.zip_nil_right]
      refine rf_loadR (n := 16) rfl rfl rfl Try.underlying49 rfl (by kernel_rfl) (fun w hw => Kn.hd0 (Kn.tl hw)) rfl rfl ?_
      simp only [Act.put, Act.eval, qn, qv, Nat.reduceAdd]
      apply rg_pure (by rfl) (by kernel_rfl)
      case hargs => (simp only [qm, qs, Act.eval]; exact rfl)
      case h => exact fun w hw => M3.out w
      case hz => exact (fun _ h => by cases h)
      simp only [Act.put, Act.eval, qn, qv, Nat.reduceAdd]
      refine rg_move ?_
      simp only [Act.put, Act.eval, qn, qv, Nat.reduceAdd]
      refine rf_extract rfl rfl rfl rfl ?_
      simp only [Act.put, Act.eval, qn, qv, Nat.reduceAdd]
      refine rf_extract rfl rfl rfl rfl ?_
      simp only [Act.put, Act.eval, qn, qv, Nat.reduceAdd]
      refine rg_new (cs := ?_) (ty := ?_) (by rfl) (fun w => ?_) (fun _ h => by cases h) (fun g7 => ?_); rotate_left 2
      focus (go_simp; rfl)
      simp only [Act.put, Act.eval, qn, qv, Nat.reduceAdd]
      refine rf_storeR (n := 16) rfl rfl (by kernel_rfl) rfl rfl (UpdR.here _ _ _ (Nat.le_of_ble_eq_true rfl)) (fun _ h => by cases h) ?_
      simp only [Act.put, Act.eval, qn, qv, Nat.reduceAdd]
      refine rg_assign ?_
      simp only [Act.put, Act.eval, qn, qv, Nat.reduceAdd]
      refine rg_nil ?_
      refine ek_next ?_
      refine wk_seq ?_
      refine wk_region [0, 0, 1, 0, 0, 0, 1, 1, 0] rfl (by kernel_rfl) ?_
      simp only [List.zip_cons_cons, List.zip_nil_right]
      refine rf_loadR (n := 16) rfl rfl rfl Try.underlying49 rfl (by kernel_rfl) (fun w hw => Kn.hd0 (Kn.tl (Kn.tl (Kn.tl hw)))) rfl rfl ?_
      simp only [Act.put, Act.eval, qn, qv, Nat.reduceAdd]
      refine rf_loadR (n := 16) rfl rfl rfl Try.underlying49 rfl (by kernel_rfl) (fun w hw => Kn.hd0 (Kn.tl (Kn.tl hw))) rfl rfl ?_
      simp only [Act.put, Act.eval, qn, qv, Nat.reduceAdd]
      apply rg_pure (by rfl) (by kernel_rfl)
      case hargs => (simp only [qm, qs, Act.eval]; exact rfl)
      case h => exact fun w hw => S2.out w
      case hz => exact (fun _ h => by cases h)
      simp only [Act.put, Act.eval, qn, qv, Nat.reduceAdd]
      refine rg_move ?_
      simp only [Act.put, Act.eval, qn, qv, Nat.reduceAdd]
      refine rf_extract rfl rfl rfl rfl ?_
      simp only [Act.put, Act.eval, qn, qv, Nat.reduceAdd]
      refine rf_extract rfl rfl rfl rfl ?_
      simp only [Act.put, Act.eval, qn, qv, Nat.reduceAdd]
      refine rg_new (cs := ?_) (ty := ?_) (by rfl) (fun w => ?_) (fun _ h => by cases h) (fun g8 => ?_); rotate_left 2
      focus (go_simp; rfl)
      simp only [Act.put, Act.eval, qn, qv, Nat.reduceAdd]
      refine rf_storeR (n := 16) rfl rfl (by kernel_rfl) rfl rfl (UpdR.here _ _ _ (Nat.le_of_ble_eq_true rfl)) (fun _ h => by cases h) ?_
      simp only [Act.put, Act.eval, qn, qv, Nat.reduceAdd]
      refine rg_assign ?_
      simp only [Act.put, Act.eval, qn, qv, Nat.reduceAdd]
      refine rg_nil ?_
      refine ek_next ?_
      refine wk_seq ?_
      refine wk_region [0, 0, 1, 0, 0, 0, 1, 1, 0] rfl (by kernel_rfl) ?_
      simp only [List.zip_cons_cons, List.zip_nil_right]
      refine rf_loadR (n := 16) rfl rfl rfl Try.underlying49 rfl (by kernel_rfl) (fun w hw => Kn.hd0 (Kn.tl hw)) rfl rfl ?_
      simp only [Act.put, Act.eval, qn, qv, Nat.reduceAdd]
      refine rf_loadR (n := 16) rfl rfl rfl Try.underlying49 rfl (by kernel_rfl) (fun w hw => Kn.hd0 (Kn.tl (Kn.tl hw))) rfl rfl ?_
      simp only [Act.put, Act.eval, qn, qv, Nat.reduceAdd]
      apply rg_pure (by rfl) (by kernel_rfl)
      case hargs => (simp only [qm, qs, Act.eval]; exact rfl)
      case h => exact fun w hw => S3.out w
      case hz => exact (fun _ h => by cases h)
      simp only [Act.put, Act.eval, qn, qv, Nat.reduceAdd]
      refine rg_move ?_
      simp only [Act.put, Act.eval, qn, qv, Nat.reduceAdd]
      refine rf_extract rfl rfl rfl rfl ?_
      simp only [Act.put, Act.eval, qn, qv, Nat.reduceAdd]
      refine rf_extract rfl rfl rfl rfl ?_
      simp only [Act.put, Act.eval, qn, qv, Nat.reduceAdd]
      refine rg_new (cs := ?_) (ty := ?_) (by rfl) (fun w => ?_) (fun _ h => by cases h) (fun g9 => ?_); rotate_left 2
      focus (go_simp; rfl)
      simp only [Act.put, Act.eval, qn, qv, Nat.reduceAdd]
      refine rf_storeR (n := 16) rfl rfl (by kernel_rfl) rfl rfl (UpdR.here _ _ _ (Nat.le_of_ble_eq_true rfl)) (fun _ h => by cases h) ?_
      simp only [Act.put, Act.eval, qn, qv, Nat.reduceAdd]
      refine rg_assign ?_
      simp only [Act.put, Act.eval, qn, qv, Nat.reduceAdd]
      refine rg_nil ?_
      refine ek_next ?_
      refine wk_seq ?_
      refine wk_seq ?_
      refine wk_region [0, 0, 0, 0, 0, 0, 0, 0, 0, 0] rfl (by kernel_rfl) ?_
      simp only [List.zip_cons_cons, List.zip_nil_right]
      refine rg_move ?_
      simp only [Act.put, Act.eval, qn, qv, Nat.reduceAdd]
      refine rfb_neq rfl rfl rfl rfl ?_
      intro x h2
      cases x
      · (try simp only [decide_eq_true_eq, decide_eq_false_iff_not, Int.not_lt, Int.not_le, beq_iff_eq, beq_eq_false_iff_ne, bne_iff_ne, bne_eq_false_iff_eq, ne_eq, Bool.not_eq_true', Bool.not_eq_false'] at h2)
        simp only [Act.put, Act.eval, qn, qv, Nat.reduceAdd]
        refine rg_move ?_
        simp only [Act.put, Act.eval, qn, qv, Nat.reduceAdd]
        apply rg_soft_g
        case hg => rfl
        case hy => (intro w hw; go_simp; (try go_bits); exact Yld.mk _ _)
        simp only [Act.put, Act.eval, qn, qv, Nat.reduceAdd]
        refine rfb_neq rfl rfl rfl rfl ?_
        intro x h3
        cases x
        · (try simp only [decide_eq_true_eq, decide_eq_false_iff_not, Int.not_lt, Int.not_le, beq_iff_eq, beq_eq_false_iff_ne, bne_iff_ne, bne_eq_false_iff_eq, ne_eq, Bool.not_eq_true', Bool.not_eq_false'] at h3)
          simp only [Act.put, Act.eval, qn, qv, Nat.reduceAdd]
          refine rf_pick rfl rfl rfl ?_
          simp only [Act.put, Act.eval, qn, qv, Nat.reduceAdd]
          refine rg_move ?_
          simp only [Act.put, Act.eval, qn, qv, Nat.reduceAdd]
          apply rg_soft_g
          case hg => rfl
          case hy => (intro w hw; go_simp; (try go_bits); exact Yld.mk _ _)
          simp only [Act.put, Act.eval, qn, qv, Nat.reduceAdd]
          refine rfb_neq rfl rfl rfl rfl ?_
          intro x h4
          cases x
          · (try simp only [decide_eq_true_eq, decide_eq_false_iff_not, Int.not_lt, Int.not_le, beq_iff_eq, beq_eq_false_iff_ne, bne_iff_ne, bne_eq_false_iff_eq, ne_eq, Bool.not_eq_true', Bool.not_eq_false'] at h4)
            simp only [Act.put, Act.eval, qn, qv, Nat.reduceAdd]
            obtain ⟨kt, rfl, c1, c2, c3, c4⟩ := mirrors_fin hp.out hb.out hj.out ht.out (by simpa using h2) (by simpa using h3) (by simpa using h4)
            have M4 := mirror_any t
            rw [kt] at M4
            simp only [ptE] at M4
            replace M4 := Lib.hid M4
            have MM := Lib.hid (meet_true j (En.mir t) c1 c2 c3 c4)
            refine rf_pick rfl rfl rfl ?_
            simp only [Act.put, Act.eval, qn, qv, Nat.reduceAdd]
            refine rg_nil ?_
            refine ek_next ?_
            refine wk_cond_f rfl ?_
            refine wk_skip ?_
            refine ek_next ?_
            refine wk_seq ?_
            refine wk_region [0, 1, 0, 0, 0, 1, 1, 0] rfl (by kernel_rfl) ?_
            simp only [List.zip_cons_cons, List.zip_nil_right]
            refine rf_loadR (n := 16) rfl rfl rfl Try.underlying49 rfl (by kernel_rfl) (fun w hw => Kn.hd0 hw) rfl rfl ?_
            simp only [Act.put, Act.eval, qn, qv, Nat.reduceAdd]
            apply rg_pure (by rfl) (by kernel_rfl)
            case hargs => (simp only [qm, qs, Act.eval]; exact rfl)
            case h => exact fun w hw => M4.out w
            case hz => exact (fun _ h => by cases h)
            simp only [Act.put, Act.eval, qn, qv, Nat.reduceAdd]
            refine rg_move ?_
            simp only [Act.put, Act.eval, qn, qv, Nat.reduceAdd]
            refine rf_extract rfl rfl rfl rfl ?_
            simp only [Act.put, Act.eval, qn, qv, Nat.reduceAdd]
            refine rf_extract rfl rfl rfl rfl ?_
            simp only [Act.put, Act.eval, qn, qv, Nat.reduceAdd]
            refine rg_new (cs := ?_) (ty := ?_) (by rfl) (fun w => ?_) (fun _ h => by cases h) (fun g10 => ?_); rotate_left 2
            focus (go_simp; rfl)
            simp only [Act.put, Act.eval, qn, qv, Nat.reduceAdd]
            refine rf_storeR (n := 16) rfl rfl (by kernel_rfl) rfl rfl (UpdR.here _ _ _ (Nat.le_of_ble_eq_true rfl)) (fun _ h => by cases h) ?_
            simp only [Act.put, Act.eval, qn, qv, Nat.reduceAdd]
            refine rg_assign ?_
            simp only [Act.put, Act.eval, qn, qv, Nat.reduceAdd]
            refine rg_nil ?_
            refine ek_next ?_
            refine wk_seq ?_
            refine wk_region [0, 0, 0, 0, 0, 1, 0, 0, 1, 0, 0] rfl (by kernel_rfl) ?_
            simp only [List.zip_cons_cons, List.zip_nil_right]
            refine rg_move ?_
            simp only [Act.put, Act.eval, qn, qv, Nat.reduceAdd]
            refine rf_eql (b := true) rfl rfl rfl rfl (by decide) ?_
            simp only [Act.put, Act.eval, qn, qv, Nat.reduceAdd]
            refine rg_move ?_
            simp only [Act.put, Act.eval, qn, qv, Nat.reduceAdd]
            refine rf_loadR (n := 16) rfl rfl rfl Try.underlying49 rfl (by kernel_rfl) (fun w hw => Kn.hd0 (Kn.tl (Kn.tl hw))) rfl rfl ?_
            simp only [Act.put, Act.eval, qn, qv, Nat.reduceAdd]
            refine rf_loadR (n := 16) rfl rfl rfl Try.underlying49 rfl (by kernel_rfl) (fun w hw => Kn.hd0 hw) rfl rfl ?_
            simp only [Act.put, Act.eval, qn, qv, Nat.reduceAdd]
            apply rg_pure (by rfl) (by kernel_rfl)
            case hargs => (simp only [qm, qs, Act.eval]; exact rfl)
            case h => exact fun w hw => MM.out w
            case hz => exact (fun _ h => by cases h)
            simp only [Act.put, Act.eval, qn, qv, Nat.reduceAdd]
            refine rf_pick rfl rfl rfl ?_
            simp only [Act.put, Act.eval, qn, qv, Nat.reduceAdd]
            refine rg_move ?_
            simp only [Act.put, Act.eval, qn, qv, Nat.reduceAdd]
            apply rg_pure (by rfl) (by kernel_rfl)
            case hargs => (simp only [qm, qs, Act.eval]; exact rfl)
            case h => exact fun w hw => awake_any w
            case hz => exact (fun _ h => by cases h)
            simp only [Act.put, Act.eval, qn, qv, Nat.reduceAdd]
            refine rf_pick rfl rfl rfl ?_
            simp only [Act.put, Act.eval, qn, qv, Nat.reduceAdd]
            refine rg_assign ?_
            simp only [Act.put, Act.eval, qn, qv, Nat.reduceAdd]
            refine rg_nil ?_
            refine ek_next ?_
            refine wk_ret ?_
            refine ek_ret (fun w hw => ⟨rfl, _, res_t _ rfl, ?_⟩)
            (try simp only [Act.put, Act.eval, qn, qv, Nat.reduceAdd])
            first | exact ⟨rfl, hw.below⟩ | exact ⟨trivial, hw.below⟩ | exact hw.below
          · (try simp only [decide_eq_true_eq, decide_eq_false_iff_not, Int.not_lt, Int.not_le, beq_iff_eq, beq_eq_false_iff_ne, bne_iff_ne, bne_eq_false_iff_eq, ne_eq, Bool.not_eq_true', Bool.not_eq_false'] at h4)
            simp only [Act.put, Act.eval, qn, qv, Nat.reduceAdd]
            refine rf_pick rfl rfl rfl ?_
            simp only [Act.put, Act.eval, qn, qv, Nat.reduceAdd]
            refine rg_nil ?_
            refine ek_next ?_
            refine wk_cond_t rfl ?_
            refine wk_seq ?_
            refine wk_region [1, 0] rfl (by kernel_rfl) ?_
            simp only [List.zip_cons_cons, List.zip_nil_right]
            apply rg_pure (by rfl) (by kernel_rfl)
            case hargs => (simp only [qm, qs, Act.eval]; exact rfl)
            case h => exact fun w hw => awake_any w
            case hz => exact (fun _ h => by cases h)
            simp only [Act.put, Act.eval, qn, qv, Nat.reduceAdd]
            refine rg_assign ?_
            simp only [Act.put, Act.eval, qn, qv, Nat.reduceAdd]
            refine rg_nil ?_
            refine ek_next ?_
            refine wk_ret ?_
            refine ek_then_ret ?_
            refine ek_ret (fun w hw => ⟨rfl, _, res_t _ rfl, ?_⟩)
            (try simp only [Act.put, Act.eval, qn, qv, Nat.reduceAdd])
            first | exact ⟨rfl, hw.below⟩ | exact ⟨trivial, hw.below⟩ | exact hw.below
        · (try simp only [decide_eq_true_eq, decide_eq_false_iff_not, Int.not_lt, Int.not_le, beq_iff_eq, beq_eq_false_iff_ne, bne_iff_ne, bne_eq_false_iff_eq, ne_eq, Bool.not_eq_true', Bool.not_eq_false'] at h3)
          simp only [Act.put, Act.eval, qn, qv, Nat.reduceAdd]
          refine rf_pick rfl rfl rfl ?_
          simp only [Act.put, Act.eval, qn, qv, Nat.reduceAdd]
          refine rg_move ?_
          simp only [Act.put, Act.eval, qn, qv, Nat.reduceAdd]
          refine rg_skip (by rfl) ?_
          simp only [Act.put, Act.eval, qn, qv, Nat.reduceAdd]
          refine rg_skip (by rfl) ?_
          simp only [Act.put, Act.eval, qn, qv, Nat.reduceAdd]
          refine rf_pick rfl rfl rfl ?_
          simp only [Act.put, Act.eval, qn, qv, Nat.reduceAdd]
          refine rg_nil ?_
          refine ek_next ?_
          refine wk_cond_t rfl ?_
          refine wk_seq ?_
          refine wk_region [1, 0] rfl (by kernel_rfl) ?_
          simp only [List.zip_cons_cons, List.zip_nil_right]
          apply rg_pure (by rfl) (by kernel_rfl)
          case hargs => (simp only [qm, qs, Act.eval]; exact rfl)
          case h => exact fun w hw => awake_any w
          case hz => exact (fun _ h => by cases h)
          simp only [Act.put, Act.eval, qn, qv, Nat.reduceAdd]
          refine rg_assign ?_
          simp only [Act.put, Act.eval, qn, qv, Nat.reduceAdd]
          refine rg_nil ?_
          refine ek_next ?_
          refine wk_ret ?_
          refine ek_then_ret ?_
          refine ek_ret (fun w hw => ⟨rfl, _, res_t _ rfl, ?_⟩)
          (try simp only [Act.put, Act.eval, qn, qv, Nat.reduceAdd])
          first | exact ⟨rfl, hw.below⟩ | exact ⟨trivial, hw.below⟩ | exact hw.below
      · (try simp only [decide_eq_true_eq, decide_eq_false_iff_not, Int.not_lt, Int.not_le, beq_iff_eq, beq_eq_false_iff_ne, bne_iff_ne, bne_eq_false_iff_eq, ne_eq, Bool.not_eq_true', Bool.not_eq_false'] at h2)
        simp only [Act.put, Act.eval, qn, qv, Nat.reduceAdd]
        refine rg_move ?_
        simp only [Act.put, Act.eval, qn, qv, Nat.reduceAdd]
        refine rg_skip (by rfl) ?_
        simp only [Act.put, Act.eval, qn, qv, Nat.reduceAdd]
        refine rg_skip (by rfl) ?_
        simp only [Act.put, Act.eval, qn, qv, Nat.reduceAdd]
        refine rf_pick rfl rfl rfl ?_
        simp only [Act.put, Act.eval, qn, qv, Nat.reduceAdd]
        refine rg_move ?_
        simp only [Act.put, Act.eval, qn, qv, Nat.reduceAdd]
        refine rg_skip (by rfl) ?_
        simp only [Act.put, Act.eval, qn, qv, Nat.reduceAdd]
        refine rg_skip (by rfl) ?_
        simp only [Act.put, Act.eval, qn, qv, Nat.reduceAdd]
        refine rf_pick rfl rfl rfl ?_
        simp only [Act.put, Act.eval, qn, qv, Nat.reduceAdd]
        refine rg_nil ?_
        refine ek_next ?_
        refine wk_cond_t rfl ?_
        refine wk_seq ?_
        refine wk_region [1, 0] rfl (by kernel_rfl) ?_
        simp only [List.zip_cons_cons, List.zip_nil_right]
        apply rg_pure (by rfl) (by kernel_rfl)
        case hargs => (simp only [qm, qs, Act.eval]; exact rfl)
        case h => exact fun w hw => awake_any w
        case hz => exact (fun _ h => by cases h)
        simp only [Act.put, Act.eval, qn, qv, Nat.reduceAdd]
        refine rg_assign ?_
        simp only [Act.put, Act.eval, qn, qv, Nat.reduceAdd]
        refine rg_nil ?_
        refine ek_next ?_
        refine wk_ret ?_
        refine ek_then_ret ?_
        refine ek_ret (fun w hw => ⟨rfl, _, res_t _ rfl, ?_⟩)
        (try simp only [Act.put, Act.eval, qn, qv, Nat.reduceAdd])
        first | exact ⟨rfl, hw.below⟩ | exact ⟨trivial, hw.below⟩ | exact hw.below

theorem own : ownKnob Try.prog.godebug = none := by kernel_rfl

set_option maxRecDepth 100000 in
theorem lifted (os : Os) (started : os.Started) (H : Type) (enc : TypeId × Value → H) :
    ReturnsInHanded {} Try.checked os 14 .any (Rows.encloseMirrorsSpec.pre6 enc Try.prog Try.f14 Rows.encloseMirrorsRow.domain false) (Rows.encloseMirrorsSpec.post enc Try.prog Try.f14 false true false false) := by
  refine returnsInHanded_of_change (C := Try.checked) own started (by kernel_rfl) Try.func14
    (ChangeSpec.witness6 (enc := enc) (C := Try.checked) false ⟨#[], #[.agg #[.int .i64 0, .int .i64 0, .int .i64 0, .int .i64 0, .int .i64 0, .int .i64 0, .int .i64 0, .int .i64 0, .int .i64 0, .int .i64 0, .int .i64 0, .int .i64 0, .int .i64 0, .int .i64 0, .int .i64 0, .int .i64 0], .agg #[.int .i64 0, .int .i64 0, .int .i64 0, .int .i64 0, .int .i64 0, .int .i64 0, .int .i64 0, .int .i64 0, .int .i64 0, .int .i64 0, .int .i64 0, .int .i64 0, .int .i64 0, .int .i64 0, .int .i64 0, .int .i64 0]], []⟩ 8 (by kernel_rfl) (by kernel_rfl) (by kernel_rfl) (by kernel_rfl)) ?_
  intro W base args ds gs before hval0 hW hcnd _
  have hval : ∀ (j : Nat) t v, Try.f14.params[j]? = some t → args[j]? = some v → Value.okWide Try.prog W .any base t v := hval0
  have hW' := hW
  obtain ⟨p, q, hA0, hV, rfl, hfz, hnd⟩ := hW
  have hA : DataW.TrodAll enc Try.prog W 0 (fun _ => true) true Try.f14.params.toList args.toList ds p := hA0
  rw [Try.params14] at hA hval
  obtain ⟨rfl, hread⟩ := trodAll_flat (n := 8) (by kernel_rfl) hA
  obtain ⟨v0, vs0, d0, ds0, p0, q0, hargs, rfl, -, h0, r0⟩ := trodAll_cons hA
  obtain ⟨v1, vs1, d1, ds1, p1, q1, rfl, rfl, -, h1, r1⟩ := trodAll_cons r0
  obtain ⟨rfl, rfl, -⟩ := trodAll_nil r1
  obtain rfl : args = #[v0, v1] := by cases args; simp_all
  obtain ⟨rfl, rfl⟩ := trodVars_none hV
  obtain ⟨x0, rfl⟩ := open_port (hval 0 49 v0 rfl rfl)
  obtain ⟨x1, rfl⟩ := open_port (hval 1 49 v1 rfl rfl)
  clear hA0 hval0
  simp only [List.append_nil] at hW'
  refine (walk x0 x1 W).mono fun e W' ⟨he, hg⟩ => ?_
  subst he
  exact ⟨_, rfl, post_flat hW' (fun _ _ _ => (trodAll_cons_mk (shut_bool Try.underlying4 _) trodAll_mk0)) (fun sp => hread _ _ _ _) (fun _ => rfl)
    hg (ok_one (by kernel_rfl) rfl (okWide_bool_mk Try.underlying4 _))⟩

theorem holds : Rows.EncloseMirrorsSaid :=
  OpenClaim.holds_of_wide 14 Try.f14 rfl rfl rfl rfl rfl rfl rfl ⟨rfl, rfl, rfl, rfl, rfl⟩ rfl rfl rfl rfl rfl (by kernel_rfl) Try.func14 closed
    (of_decide_eq_true (by kernel_rfl)) (by unfold Func.isWrapper; rw [if_neg (of_decide_eq_false (by kernel_rfl))]; exact ⟨rfl, rfl⟩)
    (fun os started H enc _ => lifted os started H enc)
#print axioms holds
end LawMirrors
end Go.Proofs.Ytpbbbfglecbceaa
