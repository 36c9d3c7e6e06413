/- Texts in one: Sy13, Sy14, AmTn, MaPl, Ma0, Ma1, Ma2, Ma3, Sws, PgN, PgM, PgO. -/
import Derived.Test.YthjjkajjpejcdaaGreatLTpE
namespace Go.Proofs.YthjjkajjpejcdaaGreat
set_option linter.all false
set_option maxRecDepth 100000
set_option maxHeartbeats 1000000
open Go.RowKit
def wd (i : It) : Int :=
  if i.kind = 1 then (if 1 ≤ i.n ∧ i.n ≤ 7 ∧ i.name.toList.isEmpty = true then 1 else 0)
  else if i.kind = 2 ∨ i.kind = 3 then (if i.n = 0 ∧ i.name.toList.isEmpty = true then 2 else 0) else 0
theorem wd_range (i : It) : 0 ≤ wd i ∧ wd i ≤ 2 := by
 unfold wd; repeat' split
 all_goals omega
def fitB (n : Int) (i : It) : Bool := decide (wd i ≠ 0 ∧ 1 ≤ i.at_ ∧ i.at_ ≤ n - wd i + 1)
def validI (n : Int) (xs : List It) : Bool := decide (1 ≤ n ∧ n ≤ 6) && (decide (xs.length ≤ 5000) && xs.all (fitB n))
theorem betB_true {l n h : Int} (e : betB l n h = true) : l ≤ n ∧ n ≤ h := of_decide_eq_true e
theorem betB_false {l n h : Int} (e : betB l n h = false) : ¬ (l ≤ n ∧ n ≤ h) := of_decide_eq_false e
theorem run_lookup_none (s : ByteArray) (w : World) : (Instr.lookup 180 (.map none) (.string s) false).run Tryz.prog w = .ok (.int .i64 0) w := by
 kernel_rfl
theorem between_mesh (l n h : Int) (w : World) : Calls Tryz.prog 51 #[.int .i64 l, .int .i64 n, .int .i64 h] w fun e w' => e = .returned (.bool (betB l n h)) ∧ Below w.heap.size w w' := by
 go_enter Tryz.func51, Tryz.ntmps51
 refine wk_start ?_
 refine wk_seq ?_
 refine Wm [0] ?_
 refine Zr ?_
 refine Wm [0, 0, 0, 0, 0, 0, 0, 0, 0] ?_
 apply rg_softb
 case hy => (intro w hw; exact Gy)
 rintro (_ | _) h1 <;> try simp only [qd, ne_eq] at h1
 ·refine Zm ?_
  refine Zk ?_; refine Zr ?_
  refine Er fun w hw => ?_
  (try simp only [qz])
  exact ⟨by (simp [betB]; omega), hw.below⟩
 refine Zm ?_
 apply rg_soft_g
 case hg => rfl
 case hy => (intro w hw; exact Gy)
 simp only [qz]
 apply rg_soft_g
 case hg => rfl
 case hy => (intro w hw; exact Gy)
 simp only [qz]
 apply rg_soft_g
 case hg => rfl
 case hy => (intro w hw; exact Gy)
 simp only [qz]
 refine Zk ?_
 refine Zr ?_
 refine Er fun w hw => ?_
 (try simp only [qz])
 exact ⟨by simp [betB, h1], hw.below⟩
theorem width_any (i : It) (w : World) : Calls Tryz.prog 140 #[itV i, .map none] w fun e w' => e = .returned (.int .i64 (wd i)) ∧ Below w.heap.size w w' := by
 go_enter Tryz.func140, Tryz.ntmps140
 refine wk_start ?_
 refine wk_seq ?_
 refine Wr [1, 0] ?_
 refine Rgn fun g1 => ?_
 refine Zm ?_
 refine Zr ?_
 refine Wr [0, 0, 0, 0, 0, 0, 0, 0, 0, 0, 0, 0, 0, 0, 0, 0, 0, 0] ?_
 apply rg_soft
 case hy => (intro w hw; have hlk := run_lookup_none i.name w; exact Gy)
 simp only [qz]
 apply rg_soft
 case hy => (intro w hw; obtain ⟨hcg1, hfg1⟩ := (Kn.hd0 hw).facts; have hlk := run_lookup_none i.name w; exact Gy)
 simp only [qz]
 apply rg_softb
 case hy => (intro w hw; have hlk := run_lookup_none i.name w; exact Gy)
 rintro (_ | _) h1 <;> try simp only [qd, ne_eq] at h1
 ·simp only [qz]
  (try (have h1a := Int.le_of_eq h1; have h1b := Int.le_of_eq h1.symm; clear h1))
  refine Zm ?_; apply rg_soft
  case hy => (intro w hw; have hlk := run_lookup_none i.name w; exact Gy)
  refine Zm ?_; apply rg_soft_g
  case hg => rfl
  case hy => (intro w hw; have hlk := run_lookup_none i.name w; exact Gy)
  simp only [qz]; apply rg_soft_g
  case hg => rfl
  case hy => (intro w hw; obtain ⟨hcg1, hfg1⟩ := (Kn.hd0 hw).facts; have hlk := run_lookup_none i.name w; exact Gy)
  simp only [qz]; apply rg_softb_g
  case hg => rfl
  case hy => (intro w hw; have hlk := run_lookup_none i.name w; exact Gy)
  rintro (_ | _) h2 <;> try simp only [qd, ne_eq] at h2
  ·simp only [qz]
   (try (have h2a := Int.le_of_eq h2; have h2b := Int.le_of_eq h2.symm; clear h2))
   apply rg_soft_g
   case hg => rfl
   case hy => (intro w hw; have hlk := run_lookup_none i.name w; exact Gy)
   refine Zm ?_; apply rg_soft_g
   case hg => rfl
   case hy => (intro w hw; have hlk := run_lookup_none i.name w; exact Gy)
   simp only [qz]; apply rg_soft
   case hy => (intro w hw; have hlk := run_lookup_none i.name w; exact Gy)
   simp only [qz]; refine Zr ?_; refine Wr [0, 0] ?_; apply rg_soft
   case hy => (intro w hw; have hlk := run_lookup_none i.name w; exact Gy)
   simp only [qz]; apply rg_soft
   case hy => (intro w hw; obtain ⟨hcg1, hfg1⟩ := (Kn.hd0 hw).facts; have hlk := run_lookup_none i.name w; exact Gy)
   simp only [qz]; refine Zr ?_; refine Wr [0, 0] ?_; apply rg_softb
   case hy => (intro w hw; have hlk := run_lookup_none i.name w; exact Gy)
   rintro (_ | _) h3 <;> try simp only [qd, ne_eq] at h3
   ·simp only [qz]
    (try (have h3a := Int.le_of_eq h3; have h3b := Int.le_of_eq h3.symm; clear h3))
    refine Zm ?_; refine Zr ?_; refine Wr [0, 0] ?_; apply rg_softb
    case hy => (intro w hw; have hlk := run_lookup_none i.name w; exact Gy)
    rintro (_ | _) h4 <;> try simp only [qd, ne_eq] at h4
    ·simp only [qz]
     (try (have h4a := Int.le_of_eq h4; have h4b := Int.le_of_eq h4.symm; clear h4))
     refine Zm ?_; refine Zr ?_; refine Wr [0, 0] ?_; apply rg_softb
     case hy => (intro w hw; have hlk := run_lookup_none i.name w; exact Gy)
     rintro (_ | _) h5 <;> try simp only [qd, ne_eq] at h5
     ·simp only [qz]
      (try (have h5a := Int.le_of_eq h5; have h5b := Int.le_of_eq h5.symm; clear h5))
      refine Zm ?_; refine Zr ?_; refine Wr [0, 0] ?_; apply rg_softb
      case hy => (intro w hw; have hlk := run_lookup_none i.name w; exact Gy)
      rintro (_ | _) h6 <;> try simp only [qd, ne_eq] at h6
      ·simp only [qz]
       (try (have h6a := Int.le_of_eq h6; have h6b := Int.le_of_eq h6.symm; clear h6))
       refine Zm ?_; refine Zr ?_; refine Wm [0] ?_; refine Zr ?_
       refine Er fun w hw => ?_
       (try simp only [qz])
       exact ⟨by rw [show wd i = 0 from by (unfold wd; (repeat' split) <;> first | rfl | omega | (exfalso; omega) | (exfalso; simp_all; done) | (simp_all; done) | (exfalso; simp_all; omega))], hw.below⟩
      simp only [qz]
      (try (have h6a := Int.le_of_eq h6; have h6b := Int.le_of_eq h6.symm; clear h6))
      refine Zm ?_; refine Zr ?_; refine Wm [0, 0, 0, 0, 0] ?_; apply rg_soft
      case hy => (intro w hw; have hlk := run_lookup_none i.name w; exact Gy)
      simp only [qz]; apply rg_soft
      case hy => (intro w hw; obtain ⟨hcg1, hfg1⟩ := (Kn.hd0 hw).facts; have hlk := run_lookup_none i.name w; exact Gy)
      simp only [qz]; apply rg_soft
      case hy => (intro w hw; have hlk := run_lookup_none i.name w; exact Gy)
      refine Zm ?_; refine Zr ?_
      refine Er fun w hw => ?_
      (try simp only [qz])
      exact ⟨by rw [show wd i = 0 from by (unfold wd; (repeat' split) <;> first | rfl | omega | (exfalso; omega) | (exfalso; simp_all; done) | (simp_all; done) | (exfalso; simp_all; omega))], hw.below⟩
     simp only [qz]
     (try (have h5a := Int.le_of_eq h5; have h5b := Int.le_of_eq h5.symm; clear h5))
     refine Zm ?_; refine Zr ?_; refine Wm [0] ?_; refine Zr ?_
     refine Er fun w hw => ?_
     (try simp only [qz])
     exact ⟨by rw [show wd i = 2 from by (unfold wd; (repeat' split) <;> first | rfl | omega | (exfalso; omega) | (exfalso; simp_all; done) | (simp_all; done) | (exfalso; simp_all; omega))], hw.below⟩
    simp only [qz]
    (try (have h4a := Int.le_of_eq h4; have h4b := Int.le_of_eq h4.symm; clear h4))
    refine Zm ?_; refine Zr ?_; refine Wm [0] ?_; refine Zr ?_
    refine Er fun w hw => ?_
    (try simp only [qz])
    exact ⟨by rw [show wd i = 2 from by (unfold wd; (repeat' split) <;> first | rfl | omega | (exfalso; omega) | (exfalso; simp_all; done) | (simp_all; done) | (exfalso; simp_all; omega))], hw.below⟩
   simp only [qz]
   (try (have h3a := Int.le_of_eq h3; have h3b := Int.le_of_eq h3.symm; clear h3))
   refine Zm ?_; refine Zr ?_; refine Wr [0, 0, 1] ?_; apply rg_soft
   case hy => (intro w hw; have hlk := run_lookup_none i.name w; exact Gy)
   simp only [qz]; apply rg_soft
   case hy => (intro w hw; obtain ⟨hcg1, hfg1⟩ := (Kn.hd0 hw).facts; have hlk := run_lookup_none i.name w; exact Gy)
   simp only [qz]; apply rg_pureb Rx Kx
   case hargs => exact Ax
   case h => exact fun w hw => between_mesh 1 i.n 7 w
   case hz => exact Nz
   rintro (_ | _) h7 <;> try simp only [qd, ne_eq] at h7
   ·simp only [qz]
    have hb29 := betB_false h7
    clear h7; refine Zr ?_; refine Wm [0] ?_; refine Zr ?_
    refine Er fun w hw => ?_
    (try simp only [qz])
    exact ⟨by rw [show wd i = 0 from by (unfold wd; (repeat' split) <;> first | rfl | omega | (exfalso; omega) | (exfalso; simp_all; done) | (simp_all; done) | (exfalso; simp_all; omega))], hw.below⟩
   simp only [qz]
   have hb29 := betB_true h7
   clear h7; refine Zr ?_; refine Wm [0] ?_; refine Zr ?_
   refine Er fun w hw => ?_
   (try simp only [qz])
   exact ⟨by rw [show wd i = 1 from by (unfold wd; (repeat' split) <;> first | rfl | omega | (exfalso; omega) | (exfalso; simp_all; done) | (simp_all; done) | (exfalso; simp_all; omega))], hw.below⟩
  simp only [qz]
  (try (have h2a := Int.le_of_eq h2; have h2b := Int.le_of_eq h2.symm; clear h2))
  apply rg_soft_g
  case hg => rfl
  case hy => (intro w hw; have hlk := run_lookup_none i.name w; exact Gy)
  simp only [qz]; apply rg_soft_g
  case hg => rfl
  case hy => (intro w hw; have hlk := run_lookup_none i.name w; exact Gy)
  simp only [qz]; apply rg_soft_g
  case hg => rfl
  case hy => (intro w hw; obtain ⟨hcg1, hfg1⟩ := (Kn.hd0 hw).facts; have hlk := run_lookup_none i.name w; exact Gy)
  simp only [qz]; apply rg_softb_g
  case hg => rfl
  case hy => (intro w hw; have hlk := run_lookup_none i.name w; exact Gy)
  rintro (_ | _) h8 <;> try simp only [qd, ne_eq] at h8
  ·simp only [qz]
   (try (have h8a := Int.le_of_eq h8; have h8b := Int.le_of_eq h8.symm; clear h8))
   apply rg_soft_g
   case hg => rfl
   case hy => (intro w hw; have hlk := run_lookup_none i.name w; exact Gy)
   simp only [qz]; apply rg_soft
   case hy => (intro w hw; have hlk := run_lookup_none i.name w; exact Gy)
   simp only [qz]; refine Zr ?_; refine Wr [0, 0] ?_; apply rg_soft
   case hy => (intro w hw; have hlk := run_lookup_none i.name w; exact Gy)
   simp only [qz]; apply rg_soft
   case hy => (intro w hw; obtain ⟨hcg1, hfg1⟩ := (Kn.hd0 hw).facts; have hlk := run_lookup_none i.name w; exact Gy)
   simp only [qz]; refine Zr ?_; refine Wr [0, 0] ?_; apply rg_softb
   case hy => (intro w hw; have hlk := run_lookup_none i.name w; exact Gy)
   rintro (_ | _) h9 <;> try simp only [qd, ne_eq] at h9
   ·simp only [qz]
    (try (have h9a := Int.le_of_eq h9; have h9b := Int.le_of_eq h9.symm; clear h9))
    refine Zm ?_; refine Zr ?_; refine Wr [0, 0] ?_; apply rg_softb
    case hy => (intro w hw; have hlk := run_lookup_none i.name w; exact Gy)
    rintro (_ | _) h10 <;> try simp only [qd, ne_eq] at h10
    ·simp only [qz]
     (try (have h10a := Int.le_of_eq h10; have h10b := Int.le_of_eq h10.symm; clear h10))
     refine Zm ?_; refine Zr ?_; refine Wr [0, 0] ?_; apply rg_softb
     case hy => (intro w hw; have hlk := run_lookup_none i.name w; exact Gy)
     rintro (_ | _) h11 <;> try simp only [qd, ne_eq] at h11
     ·simp only [qz]
      (try (have h11a := Int.le_of_eq h11; have h11b := Int.le_of_eq h11.symm; clear h11))
      refine Zm ?_; refine Zr ?_; refine Wr [0, 0] ?_; apply rg_softb
      case hy => (intro w hw; have hlk := run_lookup_none i.name w; exact Gy)
      rintro (_ | _) h12 <;> try simp only [qd, ne_eq] at h12
      ·simp only [qz]
       (try (have h12a := Int.le_of_eq h12; have h12b := Int.le_of_eq h12.symm; clear h12))
       refine Zm ?_; refine Zr ?_; refine Wm [0] ?_; refine Zr ?_
       refine Er fun w hw => ?_
       (try simp only [qz])
       exact ⟨by rw [show wd i = 0 from by (unfold wd; (repeat' split) <;> first | rfl | omega | (exfalso; omega) | (exfalso; simp_all; done) | (simp_all; done) | (exfalso; simp_all; omega))], hw.below⟩
      simp only [qz]
      (try (have h12a := Int.le_of_eq h12; have h12b := Int.le_of_eq h12.symm; clear h12))
      refine Zm ?_; refine Zr ?_; refine Wm [0, 0, 0, 0, 0] ?_; apply rg_soft
      case hy => (intro w hw; have hlk := run_lookup_none i.name w; exact Gy)
      simp only [qz]; apply rg_soft
      case hy => (intro w hw; obtain ⟨hcg1, hfg1⟩ := (Kn.hd0 hw).facts; have hlk := run_lookup_none i.name w; exact Gy)
      simp only [qz]; apply rg_soft
      case hy => (intro w hw; have hlk := run_lookup_none i.name w; exact Gy)
      refine Zm ?_; refine Zr ?_
      refine Er fun w hw => ?_
      (try simp only [qz])
      exact ⟨by rw [show wd i = 0 from by (unfold wd; (repeat' split) <;> first | rfl | omega | (exfalso; omega) | (exfalso; simp_all; done) | (simp_all; done) | (exfalso; simp_all; omega))], hw.below⟩
     simp only [qz]
     (try (have h11a := Int.le_of_eq h11; have h11b := Int.le_of_eq h11.symm; clear h11))
     refine Zm ?_; refine Zr ?_; refine Wm [0] ?_; refine Zr ?_
     refine Er fun w hw => ?_
     (try simp only [qz])
     exact ⟨by rw [show wd i = 2 from by (unfold wd; (repeat' split) <;> first | rfl | omega | (exfalso; omega) | (exfalso; simp_all; done) | (simp_all; done) | (exfalso; simp_all; omega))], hw.below⟩
    simp only [qz]
    (try (have h10a := Int.le_of_eq h10; have h10b := Int.le_of_eq h10.symm; clear h10))
    refine Zm ?_; refine Zr ?_; refine Wm [0] ?_; refine Zr ?_
    refine Er fun w hw => ?_
    (try simp only [qz])
    exact ⟨by rw [show wd i = 2 from by (unfold wd; (repeat' split) <;> first | rfl | omega | (exfalso; omega) | (exfalso; simp_all; done) | (simp_all; done) | (exfalso; simp_all; omega))], hw.below⟩
   simp only [qz]
   (try (have h9a := Int.le_of_eq h9; have h9b := Int.le_of_eq h9.symm; clear h9))
   refine Zm ?_; refine Zr ?_; refine Wr [0, 0, 1] ?_; apply rg_soft
   case hy => (intro w hw; have hlk := run_lookup_none i.name w; exact Gy)
   simp only [qz]; apply rg_soft
   case hy => (intro w hw; obtain ⟨hcg1, hfg1⟩ := (Kn.hd0 hw).facts; have hlk := run_lookup_none i.name w; exact Gy)
   simp only [qz]; apply rg_pureb Rx Kx
   case hargs => exact Ax
   case h => exact fun w hw => between_mesh 1 i.n 7 w
   case hz => exact Nz
   rintro (_ | _) h13 <;> try simp only [qd, ne_eq] at h13
   ·simp only [qz]
    have hb29 := betB_false h13
    clear h13; refine Zr ?_; refine Wm [0] ?_; refine Zr ?_
    refine Er fun w hw => ?_
    (try simp only [qz])
    exact ⟨by rw [show wd i = 0 from by (unfold wd; (repeat' split) <;> first | rfl | omega | (exfalso; omega) | (exfalso; simp_all; done) | (simp_all; done) | (exfalso; simp_all; omega))], hw.below⟩
   simp only [qz]
   have hb29 := betB_true h13
   clear h13; refine Zr ?_; refine Wm [0] ?_; refine Zr ?_
   refine Er fun w hw => ?_
   (try simp only [qz])
   exact ⟨by rw [show wd i = 1 from by (unfold wd; (repeat' split) <;> first | rfl | omega | (exfalso; omega) | (exfalso; simp_all; done) | (simp_all; done) | (exfalso; simp_all; omega))], hw.below⟩
  simp only [qz]
  (try (have h8a := Int.le_of_eq h8; have h8b := Int.le_of_eq h8.symm; clear h8))
  apply rg_soft_g
  case hg => rfl
  case hy => (intro w hw; have hlk := run_lookup_none i.name w; exact Gy)
  simp only [qz]; apply rg_soft
  case hy => (intro w hw; have hlk := run_lookup_none i.name w; exact Gy)
  simp only [qz]; refine Zr ?_; refine Wm [0] ?_; refine Zr ?_
  refine Er fun w hw => ?_
  (try simp only [qz])
  exact ⟨by rw [show wd i = 0 from by (unfold wd; (repeat' split) <;> first | rfl | omega | (exfalso; omega) | (exfalso; simp_all; done) | (simp_all; done) | (exfalso; simp_all; omega))], hw.below⟩
 simp only [qz]
 (try (have h1a := Int.le_of_eq h1; have h1b := Int.le_of_eq h1.symm; clear h1))
 refine Zm ?_
 apply rg_soft_g
 case hg => rfl
 case hy => (intro w hw; have hlk := run_lookup_none i.name w; exact Gy)
 simp only [qz]
 apply rg_soft_g
 case hg => rfl
 case hy => (intro w hw; obtain ⟨hcg1, hfg1⟩ := (Kn.hd0 hw).facts; have hlk := run_lookup_none i.name w; exact Gy)
 simp only [qz]
 apply rg_softb_g
 case hg => rfl
 case hy => (intro w hw; have hlk := run_lookup_none i.name w; exact Gy)
 rintro (_ | _) h14 <;> try simp only [qd, ne_eq] at h14
 ·simp only [qz]
  (try (have h14a := Int.le_of_eq h14; have h14b := Int.le_of_eq h14.symm; clear h14))
  apply rg_soft
  case hy => (intro w hw; have hlk := run_lookup_none i.name w; exact Gy)
  refine Zm ?_; apply rg_soft_g
  case hg => rfl
  case hy => (intro w hw; have hlk := run_lookup_none i.name w; exact Gy)
  simp only [qz]; apply rg_soft_g
  case hg => rfl
  case hy => (intro w hw; obtain ⟨hcg1, hfg1⟩ := (Kn.hd0 hw).facts; have hlk := run_lookup_none i.name w; exact Gy)
  simp only [qz]; apply rg_softb_g
  case hg => rfl
  case hy => (intro w hw; have hlk := run_lookup_none i.name w; exact Gy)
  rintro (_ | _) h15 <;> try simp only [qd, ne_eq] at h15
  ·simp only [qz]
   (try (have h15a := Int.le_of_eq h15; have h15b := Int.le_of_eq h15.symm; clear h15))
   apply rg_soft_g
   case hg => rfl
   case hy => (intro w hw; have hlk := run_lookup_none i.name w; exact Gy)
   refine Zm ?_; apply rg_soft_g
   case hg => rfl
   case hy => (intro w hw; have hlk := run_lookup_none i.name w; exact Gy)
   simp only [qz]; apply rg_soft
   case hy => (intro w hw; have hlk := run_lookup_none i.name w; exact Gy)
   simp only [qz]; refine Zr ?_; refine Wr [0, 0] ?_; apply rg_soft
   case hy => (intro w hw; have hlk := run_lookup_none i.name w; exact Gy)
   simp only [qz]; apply rg_soft
   case hy => (intro w hw; obtain ⟨hcg1, hfg1⟩ := (Kn.hd0 hw).facts; have hlk := run_lookup_none i.name w; exact Gy)
   simp only [qz]; refine Zr ?_; refine Wr [0, 0] ?_; apply rg_softb
   case hy => (intro w hw; have hlk := run_lookup_none i.name w; exact Gy)
   rintro (_ | _) h16 <;> try simp only [qd, ne_eq] at h16
   ·simp only [qz]
    (try (have h16a := Int.le_of_eq h16; have h16b := Int.le_of_eq h16.symm; clear h16))
    refine Zm ?_; refine Zr ?_; refine Wr [0, 0] ?_; apply rg_softb
    case hy => (intro w hw; have hlk := run_lookup_none i.name w; exact Gy)
    rintro (_ | _) h17 <;> try simp only [qd, ne_eq] at h17
    ·simp only [qz]
     (try (have h17a := Int.le_of_eq h17; have h17b := Int.le_of_eq h17.symm; clear h17))
     refine Zm ?_; refine Zr ?_; refine Wr [0, 0] ?_; apply rg_softb
     case hy => (intro w hw; have hlk := run_lookup_none i.name w; exact Gy)
     rintro (_ | _) h18 <;> try simp only [qd, ne_eq] at h18
     ·simp only [qz]
      (try (have h18a := Int.le_of_eq h18; have h18b := Int.le_of_eq h18.symm; clear h18))
      refine Zm ?_; refine Zr ?_; refine Wr [0, 0] ?_; apply rg_softb
      case hy => (intro w hw; have hlk := run_lookup_none i.name w; exact Gy)
      rintro (_ | _) h19 <;> try simp only [qd, ne_eq] at h19
      ·simp only [qz]
       (try (have h19a := Int.le_of_eq h19; have h19b := Int.le_of_eq h19.symm; clear h19))
       refine Zm ?_; refine Zr ?_; refine Wm [0] ?_; refine Zr ?_
       refine Er fun w hw => ?_
       (try simp only [qz])
       exact ⟨by rw [show wd i = 0 from by (unfold wd; (repeat' split) <;> first | rfl | omega | (exfalso; omega) | (exfalso; simp_all; done) | (simp_all; done) | (exfalso; simp_all; omega))], hw.below⟩
      simp only [qz]
      (try (have h19a := Int.le_of_eq h19; have h19b := Int.le_of_eq h19.symm; clear h19))
      refine Zm ?_; refine Zr ?_; refine Wm [0, 0, 0, 0, 0] ?_; apply rg_soft
      case hy => (intro w hw; have hlk := run_lookup_none i.name w; exact Gy)
      simp only [qz]; apply rg_soft
      case hy => (intro w hw; obtain ⟨hcg1, hfg1⟩ := (Kn.hd0 hw).facts; have hlk := run_lookup_none i.name w; exact Gy)
      simp only [qz]; apply rg_soft
      case hy => (intro w hw; have hlk := run_lookup_none i.name w; exact Gy)
      refine Zm ?_; refine Zr ?_
      refine Er fun w hw => ?_
      (try simp only [qz])
      exact ⟨by rw [show wd i = 0 from by (unfold wd; (repeat' split) <;> first | rfl | omega | (exfalso; omega) | (exfalso; simp_all; done) | (simp_all; done) | (exfalso; simp_all; omega))], hw.below⟩
     simp only [qz]
     (try (have h18a := Int.le_of_eq h18; have h18b := Int.le_of_eq h18.symm; clear h18))
     refine Zm ?_; refine Zr ?_; refine Wm [0] ?_; refine Zr ?_
     refine Er fun w hw => ?_
     (try simp only [qz])
     exact ⟨by rw [show wd i = 2 from by (unfold wd; (repeat' split) <;> first | rfl | omega | (exfalso; omega) | (exfalso; simp_all; done) | (simp_all; done) | (exfalso; simp_all; omega))], hw.below⟩
    simp only [qz]
    (try (have h17a := Int.le_of_eq h17; have h17b := Int.le_of_eq h17.symm; clear h17))
    refine Zm ?_; refine Zr ?_; refine Wm [0] ?_; refine Zr ?_
    refine Er fun w hw => ?_
    (try simp only [qz])
    exact ⟨by rw [show wd i = 2 from by (unfold wd; (repeat' split) <;> first | rfl | omega | (exfalso; omega) | (exfalso; simp_all; done) | (simp_all; done) | (exfalso; simp_all; omega))], hw.below⟩
   simp only [qz]
   (try (have h16a := Int.le_of_eq h16; have h16b := Int.le_of_eq h16.symm; clear h16))
   refine Zm ?_; refine Zr ?_; refine Wr [0, 0, 1] ?_; apply rg_soft
   case hy => (intro w hw; have hlk := run_lookup_none i.name w; exact Gy)
   simp only [qz]; apply rg_soft
   case hy => (intro w hw; obtain ⟨hcg1, hfg1⟩ := (Kn.hd0 hw).facts; have hlk := run_lookup_none i.name w; exact Gy)
   simp only [qz]; apply rg_pureb Rx Kx
   case hargs => exact Ax
   case h => exact fun w hw => between_mesh 1 i.n 7 w
   case hz => exact Nz
   rintro (_ | _) h20 <;> try simp only [qd, ne_eq] at h20
   ·simp only [qz]
    have hb29 := betB_false h20
    clear h20; refine Zr ?_; refine Wm [0] ?_; refine Zr ?_
    refine Er fun w hw => ?_
    (try simp only [qz])
    exact ⟨by rw [show wd i = 0 from by (unfold wd; (repeat' split) <;> first | rfl | omega | (exfalso; omega) | (exfalso; simp_all; done) | (simp_all; done) | (exfalso; simp_all; omega))], hw.below⟩
   simp only [qz]
   have hb29 := betB_true h20
   clear h20; refine Zr ?_; refine Wm [0] ?_; refine Zr ?_
   refine Er fun w hw => ?_
   (try simp only [qz])
   exact ⟨by rw [show wd i = 1 from by (unfold wd; (repeat' split) <;> first | rfl | omega | (exfalso; omega) | (exfalso; simp_all; done) | (simp_all; done) | (exfalso; simp_all; omega))], hw.below⟩
  simp only [qz]
  (try (have h15a := Int.le_of_eq h15; have h15b := Int.le_of_eq h15.symm; clear h15))
  apply rg_soft_g
  case hg => rfl
  case hy => (intro w hw; have hlk := run_lookup_none i.name w; exact Gy)
  simp only [qz]; apply rg_soft_g
  case hg => rfl
  case hy => (intro w hw; have hlk := run_lookup_none i.name w; exact Gy)
  simp only [qz]; apply rg_soft_g
  case hg => rfl
  case hy => (intro w hw; obtain ⟨hcg1, hfg1⟩ := (Kn.hd0 hw).facts; have hlk := run_lookup_none i.name w; exact Gy)
  simp only [qz]; apply rg_softb_g
  case hg => rfl
  case hy => (intro w hw; have hlk := run_lookup_none i.name w; exact Gy)
  rintro (_ | _) h21 <;> try simp only [qd, ne_eq] at h21
  ·simp only [qz]
   (try (have h21a := Int.le_of_eq h21; have h21b := Int.le_of_eq h21.symm; clear h21))
   apply rg_soft_g
   case hg => rfl
   case hy => (intro w hw; have hlk := run_lookup_none i.name w; exact Gy)
   simp only [qz]; apply rg_soft
   case hy => (intro w hw; have hlk := run_lookup_none i.name w; exact Gy)
   simp only [qz]; refine Zr ?_; refine Wr [0, 0] ?_; apply rg_soft
   case hy => (intro w hw; have hlk := run_lookup_none i.name w; exact Gy)
   simp only [qz]; apply rg_soft
   case hy => (intro w hw; obtain ⟨hcg1, hfg1⟩ := (Kn.hd0 hw).facts; have hlk := run_lookup_none i.name w; exact Gy)
   simp only [qz]; refine Zr ?_; refine Wr [0, 0] ?_; apply rg_softb
   case hy => (intro w hw; have hlk := run_lookup_none i.name w; exact Gy)
   rintro (_ | _) h22 <;> try simp only [qd, ne_eq] at h22
   ·simp only [qz]
    (try (have h22a := Int.le_of_eq h22; have h22b := Int.le_of_eq h22.symm; clear h22))
    refine Zm ?_; refine Zr ?_; refine Wr [0, 0] ?_; apply rg_softb
    case hy => (intro w hw; have hlk := run_lookup_none i.name w; exact Gy)
    rintro (_ | _) h23 <;> try simp only [qd, ne_eq] at h23
    ·simp only [qz]
     (try (have h23a := Int.le_of_eq h23; have h23b := Int.le_of_eq h23.symm; clear h23))
     refine Zm ?_; refine Zr ?_; refine Wr [0, 0] ?_; apply rg_softb
     case hy => (intro w hw; have hlk := run_lookup_none i.name w; exact Gy)
     rintro (_ | _) h24 <;> try simp only [qd, ne_eq] at h24
     ·simp only [qz]
      (try (have h24a := Int.le_of_eq h24; have h24b := Int.le_of_eq h24.symm; clear h24))
      refine Zm ?_; refine Zr ?_; refine Wr [0, 0] ?_; apply rg_softb
      case hy => (intro w hw; have hlk := run_lookup_none i.name w; exact Gy)
      rintro (_ | _) h25 <;> try simp only [qd, ne_eq] at h25
      ·simp only [qz]
       (try (have h25a := Int.le_of_eq h25; have h25b := Int.le_of_eq h25.symm; clear h25))
       refine Zm ?_; refine Zr ?_; refine Wm [0] ?_; refine Zr ?_
       refine Er fun w hw => ?_
       (try simp only [qz])
       exact ⟨by rw [show wd i = 0 from by (unfold wd; (repeat' split) <;> first | rfl | omega | (exfalso; omega) | (exfalso; simp_all; done) | (simp_all; done) | (exfalso; simp_all; omega))], hw.below⟩
      simp only [qz]
      (try (have h25a := Int.le_of_eq h25; have h25b := Int.le_of_eq h25.symm; clear h25))
      refine Zm ?_; refine Zr ?_; refine Wm [0, 0, 0, 0, 0] ?_; apply rg_soft
      case hy => (intro w hw; have hlk := run_lookup_none i.name w; exact Gy)
      simp only [qz]; apply rg_soft
      case hy => (intro w hw; obtain ⟨hcg1, hfg1⟩ := (Kn.hd0 hw).facts; have hlk := run_lookup_none i.name w; exact Gy)
      simp only [qz]; apply rg_soft
      case hy => (intro w hw; have hlk := run_lookup_none i.name w; exact Gy)
      refine Zm ?_; refine Zr ?_
      refine Er fun w hw => ?_
      (try simp only [qz])
      exact ⟨by rw [show wd i = 0 from by (unfold wd; (repeat' split) <;> first | rfl | omega | (exfalso; omega) | (exfalso; simp_all; done) | (simp_all; done) | (exfalso; simp_all; omega))], hw.below⟩
     simp only [qz]
     (try (have h24a := Int.le_of_eq h24; have h24b := Int.le_of_eq h24.symm; clear h24))
     refine Zm ?_; refine Zr ?_; refine Wm [0] ?_; refine Zr ?_
     refine Er fun w hw => ?_
     (try simp only [qz])
     exact ⟨by rw [show wd i = 2 from by (unfold wd; (repeat' split) <;> first | rfl | omega | (exfalso; omega) | (exfalso; simp_all; done) | (simp_all; done) | (exfalso; simp_all; omega))], hw.below⟩
    simp only [qz]
    (try (have h23a := Int.le_of_eq h23; have h23b := Int.le_of_eq h23.symm; clear h23))
    refine Zm ?_; refine Zr ?_; refine Wm [0] ?_; refine Zr ?_
    refine Er fun w hw => ?_
    (try simp only [qz])
    exact ⟨by rw [show wd i = 2 from by (unfold wd; (repeat' split) <;> first | rfl | omega | (exfalso; omega) | (exfalso; simp_all; done) | (simp_all; done) | (exfalso; simp_all; omega))], hw.below⟩
   simp only [qz]
   (try (have h22a := Int.le_of_eq h22; have h22b := Int.le_of_eq h22.symm; clear h22))
   refine Zm ?_; refine Zr ?_; refine Wr [0, 0, 1] ?_; apply rg_soft
   case hy => (intro w hw; have hlk := run_lookup_none i.name w; exact Gy)
   simp only [qz]; apply rg_soft
   case hy => (intro w hw; obtain ⟨hcg1, hfg1⟩ := (Kn.hd0 hw).facts; have hlk := run_lookup_none i.name w; exact Gy)
   simp only [qz]; apply rg_pureb Rx Kx
   case hargs => exact Ax
   case h => exact fun w hw => between_mesh 1 i.n 7 w
   case hz => exact Nz
   rintro (_ | _) h26 <;> try simp only [qd, ne_eq] at h26
   ·simp only [qz]
    have hb29 := betB_false h26
    clear h26; refine Zr ?_; refine Wm [0] ?_; refine Zr ?_
    refine Er fun w hw => ?_
    (try simp only [qz])
    exact ⟨by rw [show wd i = 0 from by (unfold wd; (repeat' split) <;> first | rfl | omega | (exfalso; omega) | (exfalso; simp_all; done) | (simp_all; done) | (exfalso; simp_all; omega))], hw.below⟩
   simp only [qz]
   have hb29 := betB_true h26
   clear h26; refine Zr ?_; refine Wm [0] ?_; refine Zr ?_
   refine Er fun w hw => ?_
   (try simp only [qz])
   exact ⟨by rw [show wd i = 1 from by (unfold wd; (repeat' split) <;> first | rfl | omega | (exfalso; omega) | (exfalso; simp_all; done) | (simp_all; done) | (exfalso; simp_all; omega))], hw.below⟩
  simp only [qz]
  (try (have h21a := Int.le_of_eq h21; have h21b := Int.le_of_eq h21.symm; clear h21))
  apply rg_soft_g
  case hg => rfl
  case hy => (intro w hw; have hlk := run_lookup_none i.name w; exact Gy)
  simp only [qz]; apply rg_soft
  case hy => (intro w hw; have hlk := run_lookup_none i.name w; exact Gy)
  simp only [qz]; refine Zr ?_; refine Wm [0] ?_; refine Zr ?_
  refine Er fun w hw => ?_
  (try simp only [qz])
  exact ⟨by rw [show wd i = 0 from by (unfold wd; (repeat' split) <;> first | rfl | omega | (exfalso; omega) | (exfalso; simp_all; done) | (simp_all; done) | (exfalso; simp_all; omega))], hw.below⟩
 simp only [qz]
 (try (have h14a := Int.le_of_eq h14; have h14b := Int.le_of_eq h14.symm; clear h14))
 apply rg_soft
 case hy => (intro w hw; have hlk := run_lookup_none i.name w; exact Gy)
 refine Zm ?_
 apply rg_soft
 case hy => (intro w hw; have hlk := run_lookup_none i.name w; exact Gy)
 simp only [qz]
 refine Zr ?_
 refine Wm [0] ?_
 refine Zr ?_
 refine Er fun w hw => ?_
 (try simp only [qz])
 exact ⟨by rw [show wd i = 0 from by (unfold wd; (repeat' split) <;> first | rfl | omega | (exfalso; omega) | (exfalso; simp_all; done) | (simp_all; done) | (exfalso; simp_all; omega))], hw.below⟩
theorem wideI_any (i : It) (h4 : i.kind ≠ 4) (w : World) : Calls Tryz.prog 75 #[.slice none 0 0, itV i] w fun e w' => e = .returned (.int .i64 (wd i)) ∧ Below w.heap.size w w' := by
 go_enter Tryz.func75, Tryz.ntmps75
 refine wk_start ?_
 refine wk_seq ?_
 refine Wr [1, 0] ?_
 refine Rgn fun g1 => ?_
 refine Zm ?_
 refine Zr ?_
 refine Wr [0, 0] ?_
 refine Zk ?_
 apply rg_soft
 case hy => (intro w hw; obtain ⟨hcg1, hfg1⟩ := (Kn.hd0 hw).facts; exact Gy)
 simp only [qz]
 refine Zr ?_
 refine Wr [0, 0] ?_
 apply rg_softb
 case hy => (intro w hw; exact Gy)
 rintro (_ | _) h1 <;> try simp only [qd, ne_eq] at h1
 ·simp only [qz]
  (try (have h1a := Int.le_of_eq h1; have h1b := Int.le_of_eq h1.symm; clear h1))
  refine Zm ?_; refine Zr ?_; refine Wr [0, 0] ?_; apply rg_softb
  case hy => (intro w hw; exact Gy)
  rintro (_ | _) h2 <;> try simp only [qd, ne_eq] at h2
  ·simp only [qz]
   (try (have h2a := Int.le_of_eq h2; have h2b := Int.le_of_eq h2.symm; clear h2))
   refine Zm ?_; refine Zr ?_; refine Wr [0, 0] ?_; apply rg_softb
   case hy => (intro w hw; exact Gy)
   rintro (_ | _) h3 <;> try simp only [qd, ne_eq] at h3
   ·simp only [qz]
    (try (have h3a := Int.le_of_eq h3; have h3b := Int.le_of_eq h3.symm; clear h3))
    refine Zm ?_; refine Zr ?_; refine Wr [0, 0] ?_; apply rg_softb
    case hy => (intro w hw; exact Gy)
    intro x h4
    obtain rfl : x = false := Kf h4
    clear h4; refine Zm ?_; refine Zr ?_; refine Wm [0] ?_; refine Zr ?_
    refine Er fun w hw => ?_
    (try simp only [qz])
    exact ⟨by rw [show wd i = 0 from by (unfold wd; (repeat' split) <;> first | rfl | omega | (exfalso; omega) | (exfalso; simp_all; done) | (simp_all; done) | (exfalso; simp_all; omega))], hw.below⟩
   simp only [qz]
   (try (have h3a := Int.le_of_eq h3; have h3b := Int.le_of_eq h3.symm; clear h3))
   refine Zm ?_; refine Zr ?_; refine Wr [0, 0, 0, 0, 0, 0, 0, 0] ?_; refine Zk ?_; apply rg_soft
   case hy => (intro w hw; obtain ⟨hcg1, hfg1⟩ := (Kn.hd0 hw).facts; exact Gy)
   simp only [qz]; apply rg_softb
   case hy => (intro w hw; exact Gy)
   rintro (_ | _) h5 <;> try simp only [qd, ne_eq] at h5
   ·simp only [qz]
    (try (have h5a := Int.le_of_eq h5; have h5b := Int.le_of_eq h5.symm; clear h5))
    refine Zm ?_; refine Zk ?_; refine Zr ?_; refine Wm [0] ?_; refine Zr ?_
    refine Er fun w hw => ?_
    (try simp only [qz])
    exact ⟨by rw [show wd i = 0 from by (unfold wd; (repeat' split) <;> first | rfl | omega | (exfalso; omega) | (exfalso; simp_all; done) | (simp_all; done) | (exfalso; simp_all; omega))], hw.below⟩
   simp only [qz]
   (try (have h5a := Int.le_of_eq h5; have h5b := Int.le_of_eq h5.symm; clear h5))
   refine Zm ?_; apply rg_soft_g
   case hg => rfl
   case hy => (intro w hw; exact Gy)
   simp only [qz]; apply rg_soft_g
   case hg => rfl
   case hy => (intro w hw; obtain ⟨hcg1, hfg1⟩ := (Kn.hd0 hw).facts; exact Gy)
   simp only [qz]; apply rg_softb_g
   case hg => rfl
   case hy => (intro w hw; exact Gy)
   rintro (_ | _) h6 <;> try simp only [qd, ne_eq] at h6
   ·simp only [qz]
    (try (have h6a := Int.le_of_eq h6; have h6b := Int.le_of_eq h6.symm; clear h6))
    refine Zk ?_; refine Zr ?_; refine Wm [0] ?_; refine Zr ?_
    refine Er fun w hw => ?_
    (try simp only [qz])
    exact ⟨by rw [show wd i = 0 from by (unfold wd; (repeat' split) <;> first | rfl | omega | (exfalso; omega) | (exfalso; simp_all; done) | (simp_all; done) | (exfalso; simp_all; omega))], hw.below⟩
   simp only [qz]
   (try (have h6a := Int.le_of_eq h6; have h6b := Int.le_of_eq h6.symm; clear h6))
   refine Zk ?_; refine Zr ?_; refine Wm [0] ?_; refine Zr ?_
   refine Er fun w hw => ?_
   (try simp only [qz])
   exact ⟨by rw [show wd i = 2 from by (unfold wd; (repeat' split) <;> first | rfl | omega | (exfalso; omega) | (exfalso; simp_all; done) | (simp_all; done) | (exfalso; simp_all; omega))], hw.below⟩
  simp only [qz]
  (try (have h2a := Int.le_of_eq h2; have h2b := Int.le_of_eq h2.symm; clear h2))
  refine Zm ?_; refine Zr ?_; refine Wr [0, 0, 0, 0, 0, 0, 0, 0] ?_; refine Zk ?_; apply rg_soft
  case hy => (intro w hw; obtain ⟨hcg1, hfg1⟩ := (Kn.hd0 hw).facts; exact Gy)
  simp only [qz]; apply rg_softb
  case hy => (intro w hw; exact Gy)
  rintro (_ | _) h7 <;> try simp only [qd, ne_eq] at h7
  ·simp only [qz]
   (try (have h7a := Int.le_of_eq h7; have h7b := Int.le_of_eq h7.symm; clear h7))
   refine Zm ?_; refine Zk ?_; refine Zr ?_; refine Wm [0] ?_; refine Zr ?_
   refine Er fun w hw => ?_
   (try simp only [qz])
   exact ⟨by rw [show wd i = 0 from by (unfold wd; (repeat' split) <;> first | rfl | omega | (exfalso; omega) | (exfalso; simp_all; done) | (simp_all; done) | (exfalso; simp_all; omega))], hw.below⟩
  simp only [qz]
  (try (have h7a := Int.le_of_eq h7; have h7b := Int.le_of_eq h7.symm; clear h7))
  refine Zm ?_; apply rg_soft_g
  case hg => rfl
  case hy => (intro w hw; exact Gy)
  simp only [qz]; apply rg_soft_g
  case hg => rfl
  case hy => (intro w hw; obtain ⟨hcg1, hfg1⟩ := (Kn.hd0 hw).facts; exact Gy)
  simp only [qz]; apply rg_softb_g
  case hg => rfl
  case hy => (intro w hw; exact Gy)
  rintro (_ | _) h8 <;> try simp only [qd, ne_eq] at h8
  ·simp only [qz]
   (try (have h8a := Int.le_of_eq h8; have h8b := Int.le_of_eq h8.symm; clear h8))
   refine Zk ?_; refine Zr ?_; refine Wm [0] ?_; refine Zr ?_
   refine Er fun w hw => ?_
   (try simp only [qz])
   exact ⟨by rw [show wd i = 0 from by (unfold wd; (repeat' split) <;> first | rfl | omega | (exfalso; omega) | (exfalso; simp_all; done) | (simp_all; done) | (exfalso; simp_all; omega))], hw.below⟩
  simp only [qz]
  (try (have h8a := Int.le_of_eq h8; have h8b := Int.le_of_eq h8.symm; clear h8))
  refine Zk ?_; refine Zr ?_; refine Wm [0] ?_; refine Zr ?_
  refine Er fun w hw => ?_
  (try simp only [qz])
  exact ⟨by rw [show wd i = 2 from by (unfold wd; (repeat' split) <;> first | rfl | omega | (exfalso; omega) | (exfalso; simp_all; done) | (simp_all; done) | (exfalso; simp_all; omega))], hw.below⟩
 simp only [qz]
 (try (have h1a := Int.le_of_eq h1; have h1b := Int.le_of_eq h1.symm; clear h1))
 refine Zm ?_
 refine Zr ?_
 refine Wr [0, 0, 0, 0, 0, 0, 0, 0, 0, 0, 0, 0, 0] ?_
 refine Zk ?_
 apply rg_soft
 case hy => (intro w hw; obtain ⟨hcg1, hfg1⟩ := (Kn.hd0 hw).facts; exact Gy)
 simp only [qz]
 apply rg_softb
 case hy => (intro w hw; exact Gy)
 rintro (_ | _) h9 <;> try simp only [qd, ne_eq] at h9
 ·simp only [qz]
  (try (have h9a := Int.le_of_eq h9; have h9b := Int.le_of_eq h9.symm; clear h9))
  refine Zm ?_; refine Zk ?_; refine Zk ?_; refine Zr ?_; refine Wm [0] ?_; refine Zr ?_
  refine Er fun w hw => ?_
  (try simp only [qz])
  exact ⟨by rw [show wd i = 0 from by (unfold wd; (repeat' split) <;> first | rfl | omega | (exfalso; omega) | (exfalso; simp_all; done) | (simp_all; done) | (exfalso; simp_all; omega))], hw.below⟩
 simp only [qz]
 (try (have h9a := Int.le_of_eq h9; have h9b := Int.le_of_eq h9.symm; clear h9))
 refine Zm ?_
 apply rg_soft_g
 case hg => rfl
 case hy => (intro w hw; exact Gy)
 simp only [qz]
 apply rg_soft_g
 case hg => rfl
 case hy => (intro w hw; obtain ⟨hcg1, hfg1⟩ := (Kn.hd0 hw).facts; exact Gy)
 simp only [qz]
 apply rg_softb_g
 case hg => rfl
 case hy => (intro w hw; exact Gy)
 rintro (_ | _) h10 <;> try simp only [qd, ne_eq] at h10
 ·simp only [qz]
  (try (have h10a := Int.le_of_eq h10; have h10b := Int.le_of_eq h10.symm; clear h10))
  refine Zk ?_; refine Zk ?_; refine Zr ?_; refine Wm [0] ?_; refine Zr ?_
  refine Er fun w hw => ?_
  (try simp only [qz])
  exact ⟨by rw [show wd i = 0 from by (unfold wd; (repeat' split) <;> first | rfl | omega | (exfalso; omega) | (exfalso; simp_all; done) | (simp_all; done) | (exfalso; simp_all; omega))], hw.below⟩
 simp only [qz]
 (try (have h10a := Int.le_of_eq h10; have h10b := Int.le_of_eq h10.symm; clear h10))
 refine Zk ?_
 apply rg_soft_g
 case hg => rfl
 case hy => (intro w hw; exact Gy)
 simp only [qz]
 apply rg_soft_g
 case hg => rfl
 case hy => (intro w hw; obtain ⟨hcg1, hfg1⟩ := (Kn.hd0 hw).facts; exact Gy)
 simp only [qz]
 apply rg_softb_g
 case hg => rfl
 case hy => (intro w hw; exact Gy)
 rintro (_ | _) h11 <;> try simp only [qd, ne_eq] at h11
 ·simp only [qz]
  (try (have h11a := Int.le_of_eq h11; have h11b := Int.le_of_eq h11.symm; clear h11))
  refine Zk ?_; refine Zr ?_; refine Wm [0] ?_; refine Zr ?_
  refine Er fun w hw => ?_
  (try simp only [qz])
  exact ⟨by rw [show wd i = 0 from by (unfold wd; (repeat' split) <;> first | rfl | omega | (exfalso; omega) | (exfalso; simp_all; done) | (simp_all; done) | (exfalso; simp_all; omega))], hw.below⟩
 simp only [qz]
 (try (have h11a := Int.le_of_eq h11; have h11b := Int.le_of_eq h11.symm; clear h11))
 refine Zk ?_
 refine Zr ?_
 refine Wm [0] ?_
 refine Zr ?_
 refine Er fun w hw => ?_
 (try simp only [qz])
 exact ⟨by rw [show wd i = 1 from by (unfold wd; (repeat' split) <;> first | rfl | omega | (exfalso; omega) | (exfalso; simp_all; done) | (simp_all; done) | (exfalso; simp_all; omega))], hw.below⟩
theorem fits1_any (i : It) (n : Int) (hn : 1 ≤ n ∧ n ≤ 6) (g2 g3 : Nat) (w : World) (H2 : Hd w g2 180 #[.map none]) (H3 : Hd w g3 3 #[.int .i64 n]) : Calls Tryz.prog 139 #[itV i, .pointer (some ⟨g2, 0, none⟩), .pointer (some ⟨g3, 0, none⟩)] w fun e w' => e = .returned (.bool (!fitB n i)) ∧ Below w.heap.size w w' := by
 have hwd := wd_range i
 go_enter Tryz.func139, Tryz.ntmps139
 refine wk_start ?_
 refine wk_seq ?_
 refine Wr [1, 0] ?_
 refine Rgn fun g1 => ?_
 refine Zm ?_
 refine Zr ?_
 refine Wr [0, 0, 1, 0] ?_
 apply rg_soft
 case hy => (intro w hw; obtain ⟨hcg1, hfg1⟩ := (Kn.hd0 hw).facts; have hwd := wd_range i; exact Gy)
 simp only [qz]
 apply rg_soft
 case hy => (intro w hw; obtain ⟨hcM, hfM⟩ := (hw.hdB H2 (by simp)).facts; have hwd := wd_range i; exact Gy)
 simp only [qz]
 apply rg_pure Rx Kx
 case hargs => exact Ax
 case h => exact fun w hw => width_any i w
 case hz => exact Nz
 refine Zm ?_
 refine Zr ?_
 refine Wm [0, 0, 0, 0, 0, 0, 0, 0, 0, 1, 0, 0, 0] ?_
 apply rg_softb
 case hy => (intro w hw; have hwd := wd_range i; exact Gy)
 rintro (_ | _) h1 <;> try simp only [qd, ne_eq] at h1
 ·simp only [qz]
  (try (have h1a := Int.le_of_eq h1; have h1b := Int.le_of_eq h1.symm; clear h1))
  refine Zm ?_; apply rg_soft_g
  case hg => rfl
  case hy => (intro w hw; have hwd := wd_range i; exact Gy)
  simp only [qz]; apply rg_soft_g
  case hg => rfl
  case hy => (intro w hw; obtain ⟨hcg1, hfg1⟩ := (Kn.hd0 hw).facts; have hwd := wd_range i; exact Gy)
  simp only [qz]; apply rg_soft_g
  case hg => rfl
  case hy => (intro w hw; obtain ⟨hcN, hfN⟩ := (hw.hdB H3 (by simp)).facts; have hwd := wd_range i; exact Gy)
  simp only [qz]; apply rg_soft_g
  case hg => rfl
  case hy => (intro w hw; have hwd := wd_range i; exact Gy)
  simp only [qz]; apply rg_soft_g
  case hg => rfl
  case hy => (intro w hw; have hwd := wd_range i; exact Gy)
  simp only [qz]; apply rg_soft_g
  case hg => rfl
  case hy => (intro w hw; have hwd := wd_range i; exact Gy)
  simp only [qz]; apply rg_pureb Rx Kx
  case hargs => exact Ax
  case h => exact fun w hw => between_mesh 1 i.at_ (n - wd i + 1) w
  case hz => exact Nz
  rintro (_ | _) h2 <;> try simp only [qd, ne_eq] at h2
  ·simp only [qz]
   have hb18 := betB_false h2
   clear h2; apply rg_soft_g
   case hg => rfl
   case hy => (intro w hw; have hwd := wd_range i; exact Gy)
   simp only [qz]; apply rg_soft
   case hy => (intro w hw; have hwd := wd_range i; exact Gy)
   refine Zm ?_; refine Zr ?_
   refine Er fun w hw => ?_
   (try simp only [qz])
   exact ⟨by (congr 2; symm; show (!fitB n i) = _; first | (rw [show fitB n i = true from decide_eq_true ⟨by omega, by omega, by omega⟩]; rfl) | (rw [show fitB n i = false from decide_eq_false (fun h => by omega)]; rfl)), hw.below⟩
  simp only [qz]
  have hb18 := betB_true h2
  clear h2; apply rg_soft_g
  case hg => rfl
  case hy => (intro w hw; have hwd := wd_range i; exact Gy)
  simp only [qz]; apply rg_soft
  case hy => (intro w hw; have hwd := wd_range i; exact Gy)
  refine Zm ?_; refine Zr ?_
  refine Er fun w hw => ?_
  (try simp only [qz])
  exact ⟨by (congr 2; symm; show (!fitB n i) = _; first | (rw [show fitB n i = true from decide_eq_true ⟨by omega, by omega, by omega⟩]; rfl) | (rw [show fitB n i = false from decide_eq_false (fun h => by omega)]; rfl)), hw.below⟩
 simp only [qz]
 (try (have h1a := Int.le_of_eq h1; have h1b := Int.le_of_eq h1.symm; clear h1))
 refine Zm ?_
 refine rg_skip_h Rx Nz ?_
 refine Zm ?_
 apply rg_soft
 case hy => (intro w hw; have hwd := wd_range i; exact Gy)
 refine Zm ?_
 refine Zr ?_
 refine Er fun w hw => ?_
 (try simp only [qz])
 exact ⟨by (congr 2; symm; show (!fitB n i) = _; first | (rw [show fitB n i = true from decide_eq_true ⟨by omega, by omega, by omega⟩]; rfl) | (rw [show fitB n i = false from decide_eq_false (fun h => by omega)]; rfl)), hw.below⟩
theorem fits_any (xs : List It) (a : Option Addr) (c : Nat) (n : Int) (hn : 1 ≤ n ∧ n ≤ 6) (hl : xs.length ≤ 100000) (w : World) (hA : AS w a (its xs)) : Calls Tryz.prog 119 #[.int .i64 n, slV a xs.length c, .map none] w fun e w' => e = .returned (.bool (xs.all (fitB n))) ∧ Below w.heap.size w w' := by
 go_enter Tryz.func119, Tryz.ntmps119
 refine wk_start ?_
 refine wk_seq ?_
 refine Wr [1, 1, 0] ?_
 refine Rgn fun g1 => ?_
 simp only [qz]
 refine Rgn fun g2 => ?_
 refine Zm ?_
 refine Zr ?_
 refine Wm [0, 0, 1, 0, 0] ?_
 refine Zk ?_
 apply rg_pure Rx Kx
 case hargs => exact Ax
 case h => exact fun w hw => contains_any xs a c (fun i => !fitB n i) 139 #[.pointer (some ⟨g2, 0, none⟩), .pointer (some ⟨g1, 0, none⟩)] hl Kx w (hA.kn0 hw) (fun w' hb i hi => fits1_any i n hn g2 g1 w' (Kn.hd0 (hw.call hb)) (Kn.hd0 (Kn.tl (hw.call hb))))
 case hz => exact Nz
 simp only [qz]
 refine Zk ?_
 refine Zr ?_
 refine Er fun w hw => ?_
 (try simp only [qz])
 exact ⟨by rw [List.all_eq_not_any_not], hw.below⟩
theorem wd_four {i : It} (h : i.kind = 4) : wd i = 0 := by unfold wd; rw [if_neg Ox, if_neg Ox]
theorem fitB_true {n : Int} {i : It} (h : wd i ≠ 0 ∧ 1 ≤ i.at_ ∧ i.at_ ≤ n - wd i + 1) : fitB n i = true := decide_eq_true h
theorem fitB_false {n : Int} {i : It} (h : ¬ (wd i ≠ 0 ∧ 1 ≤ i.at_ ∧ i.at_ ≤ n - wd i + 1)) : fitB n i = false := decide_eq_false h
theorem mem_it {xs : List It} {x : It} (h : x ∈ xs) : ∃ j, j < xs.length ∧ it xs j = x := by
 obtain ⟨j, hj, e⟩ := List.getElem_of_mem h
 exact ⟨j, hj, by unfold it; rw [List.getD_eq_getElem?_getD, List.getElem?_eq_getElem hj]; exact e⟩
theorem all_it {p : It → Bool} {xs : List It} (h : ∀ j, j < xs.length → p (it xs j) = true) : xs.all p = true := by
 rw [List.all_eq_true]; intro x hx; obtain ⟨j, hj, rfl⟩ := mem_it hx; exact h j hj
theorem not_all_it {p : It → Bool} {xs : List It} {k : Nat} (hk : k < xs.length) (h : p (it xs k) = false) : xs.all p = false := by
 rw [← Bool.not_eq_true, List.all_eq_true]; intro hh; rw [hh _ (it_mem hk)] at h; cases h
theorem validI_true {n : Int} {xs : List It} (h1 : 1 ≤ n) (h2 : n ≤ 6) (h3 : xs.length ≤ 5000) (h4 : xs.all (fitB n) = true) : validI n xs = true := by
 unfold validI; rw [h4]; simp [h1, h2, h3]
theorem validB_false {n : Int} {xs : List It} (h : ¬ (1 ≤ n ∧ n ≤ 6 ∧ xs.length ≤ 5000 ∧ xs.all (fitB n) = true)) : validI n xs = false := by
 unfold validI
 rw [← Bool.not_eq_true]
 intro hh
 simp only [Bool.and_eq_true, decide_eq_true_eq] at hh
 exact h ⟨hh.1.1, hh.1.2, hh.2.1, hh.2.2⟩
theorem validB_all {n : Int} {xs : List It} (h : validI n xs = true) : 1 ≤ n ∧ n ≤ 6 ∧ xs.length ≤ 5000 ∧ ∀ j, j < xs.length → fitB n (it xs j) = true := by
 unfold validI at h
 simp only [Bool.and_eq_true, decide_eq_true_eq] at h
 exact ⟨h.1.1, h.1.2, h.2.1, fun j hj => (List.all_eq_true.1 h.2.2) _ (it_mem hj)⟩
def itemE (n : Int) (xs : List It) : Int := if 1 ≤ n ∧ n ≤ 6 then (if validI n xs = true then 0 else 31) else 2
theorem mvalidI_any (xs : List It) (a : Option Addr) (c : Nat) (n : Int) (w : World) (hA : AS w a (its xs)) : Calls Tryz.prog 77 #[.int .i64 n, slV a xs.length c] w fun e w' => e = .returned (.bool (validI n xs)) ∧ Below w.heap.size w w' := by
 go_enter Tryz.func77, Tryz.ntmps77
 refine wk_start ?_
 refine wk_seq ?_
 refine Wm [0] ?_
 refine Zr ?_
 refine Wm [0, 1, 0, 0, 0, 0, 0, 0, 0, 0, 1, 0, 0] ?_
 apply rg_pureb Rx Kx
 case hargs => exact Ax
 case h => exact fun w hw => between_mesh 1 n 6 w
 case hz => exact Nz
 rintro (_ | _) h1 <;> try simp only [qd, ne_eq] at h1
 ·simp only [qz]
  have hb6 := betB_false h1
  clear h1; refine Zm ?_; refine Zk ?_; refine rg_skip_h Rx Nz ?_; simp only [qz]; refine Zk ?_; refine Zr ?_
  refine Er fun w hw => ?_
  (try simp only [qz])
  exact ⟨by rw [show validI n xs = false from validB_false (fun h => by omega)], hw.below⟩
 simp only [qz]
 have hb6 := betB_true h1
 clear h1
 refine Zm ?_
 apply rg_soft_g
 case hg => rfl
 case hy => (intro w hw; exact Gy)
 simp only [qz]
 apply rg_soft_g
 case hg => rfl
 case hy => (intro w hw; exact Gy)
 simp only [qz]
 apply rg_softb_g
 case hg => rfl
 case hy => (intro w hw; exact Gy)
 rintro (_ | _) h2 <;> try simp only [qd, ne_eq] at h2
 ·simp only [qz]
  refine Zk ?_; refine rg_skip_h Rx Nz ?_; simp only [qz]; refine Zk ?_; refine Zr ?_
  refine Er fun w hw => ?_
  (try simp only [qz])
  exact ⟨by rw [show validI n xs = false from validB_false (fun h => by omega)], hw.below⟩
 simp only [qz]
 refine Zk ?_
 apply rg_soft_g
 case hg => rfl
 case hy => (intro w hw; exact Gy)
 simp only [qz]
 apply rg_soft_g
 case hg => rfl
 case hy => (intro w hw; exact Gy)
 simp only [qz]
 apply rg_pure Rx Kx
 case hargs => exact Ax
 case h => exact fun w hw => fits_any xs a c n hb6 Ox w (hA.kn0 hw)
 case hz => exact Nz
 simp only [qz]
 refine Zk ?_
 refine Zr ?_
 refine Er fun w hw => ?_
 (try simp only [qz])
 exact ⟨by (congr 2; unfold validI; rw [show decide (1 ≤ n ∧ n ≤ 6) = true from decide_eq_true hb6, show decide (xs.length ≤ 5000) = true from decide_eq_true Ox]; rfl), hw.below⟩
theorem placed_any (i : It) (h4 : i.kind ≠ 4) (n : Int) (hn : 1 ≤ n ∧ n ≤ 6) (w : World) : Calls Tryz.prog 29 #[.slice none 0 0, .int .i64 n, itV i] w fun e w' => e = .returned (.bool (fitB n i)) ∧ Below w.heap.size w w' := by
 have hwd := wd_range i
 go_enter Tryz.func29, Tryz.ntmps29
 refine wk_start ?_
 refine wk_seq ?_
 refine Wr [1, 0] ?_
 refine Rgn fun g1 => ?_
 refine Zm ?_
 refine Zr ?_
 refine Wm [0, 0, 1, 0] ?_
 apply rg_soft
 case hy => (intro w hw; obtain ⟨hcg1, hfg1⟩ := (Kn.hd0 hw).facts; exact Gy)
 simp only [qz]
 apply rg_pure Rx Kx
 case hargs => exact Ax
 case h => exact fun w hw => wideI_any i h4 w
 case hz => exact Nz
 refine Zm ?_
 refine Zr ?_
 refine Wm [0, 0, 0, 0, 0, 0, 0, 0, 0, 0, 0, 0, 0, 0, 0, 0, 0, 0, 0, 0, 0, 0, 0] ?_
 apply rg_softb
 case hy => (intro w hw; exact Gy)
 rintro (_ | _) h1 <;> try simp only [qd, ne_eq] at h1
 ·refine Zm ?_
  refine Zk ?_; refine Zk ?_; refine Zk ?_; refine Zr ?_
  refine Er fun w hw => ?_
  (try simp only [qz])
  exact ⟨by (congr 2; symm; first | exact fitB_true ⟨by omega, by omega, by omega⟩ | exact fitB_false (fun h => by omega) | (simp only [fitB]; exact decide_eq_decide.2 Ox)), hw.below⟩
 refine Zm ?_
 apply rg_soft_g
 case hg => rfl
 case hy => (intro w hw; exact Gy)
 simp only [qz]
 apply rg_soft_g
 case hg => rfl
 case hy => (intro w hw; obtain ⟨hcg1, hfg1⟩ := (Kn.hd0 hw).facts; exact Gy)
 simp only [qz]
 apply rg_softb_g
 case hg => rfl
 case hy => (intro w hw; exact Gy)
 rintro (_ | _) h2 <;> try simp only [qd, ne_eq] at h2
 ·simp only [qz]
  refine Zk ?_; refine Zk ?_; refine Zk ?_; refine Zr ?_
  refine Er fun w hw => ?_
  (try simp only [qz])
  exact ⟨by (congr 2; symm; first | exact fitB_true ⟨by omega, by omega, by omega⟩ | exact fitB_false (fun h => by omega) | (simp only [fitB]; exact decide_eq_decide.2 Ox)), hw.below⟩
 simp only [qz]
 refine Zk ?_
 apply rg_soft_g
 case hg => rfl
 case hy => (intro w hw; exact Gy)
 simp only [qz]
 apply rg_soft_g
 case hg => rfl
 case hy => (intro w hw; obtain ⟨hcg1, hfg1⟩ := (Kn.hd0 hw).facts; exact Gy)
 simp only [qz]
 apply rg_soft_g
 case hg => rfl
 case hy => (intro w hw; exact Gy)
 simp only [qz]
 apply rg_softb_g
 case hg => rfl
 case hy => (intro w hw; exact Gy)
 rintro (_ | _) h3 <;> try simp only [qd, ne_eq] at h3
 ·simp only [qz]
  refine Zk ?_; refine Zk ?_; refine Zr ?_
  refine Er fun w hw => ?_
  (try simp only [qz])
  exact ⟨by (congr 2; symm; first | exact fitB_true ⟨by omega, by omega, by omega⟩ | exact fitB_false (fun h => by omega) | (simp only [fitB]; exact decide_eq_decide.2 Ox)), hw.below⟩
 simp only [qz]
 refine Zk ?_
 apply rg_soft_g
 case hg => rfl
 case hy => (intro w hw; exact Gy)
 simp only [qz]
 apply rg_soft_g
 case hg => rfl
 case hy => (intro w hw; obtain ⟨hcg1, hfg1⟩ := (Kn.hd0 hw).facts; exact Gy)
 simp only [qz]
 apply rg_soft_g
 case hg => rfl
 case hy => (intro w hw; exact Gy)
 simp only [qz]
 apply rg_soft_g
 case hg => rfl
 case hy => (intro w hw; exact Gy)
 simp only [qz]
 apply rg_soft_g
 case hg => rfl
 case hy => (intro w hw; exact Gy)
 simp only [qz]
 apply rg_soft_g
 case hg => rfl
 case hy => (intro w hw; exact Gy)
 simp only [qz]
 apply rg_soft_g
 case hg => rfl
 case hy => (intro w hw; exact Gy)
 simp only [qz]
 refine Zk ?_
 refine Zr ?_
 refine Er fun w hw => ?_
 (try simp only [qz])
 exact ⟨by (congr 2; symm; first | exact fitB_true ⟨by omega, by omega, by omega⟩ | exact fitB_false (fun h => by omega) | (simp only [fitB]; exact decide_eq_decide.2 Ox)), hw.below⟩
theorem rvalidItems_any (xs : List It) (a : Option Addr) (c : Nat) (n : Int) (w : World) (hA : AS w a (its xs)) : Calls Tryz.prog 5 #[.int .i64 n, slV a xs.length c] w fun e w' => e = .returned (.bool (validI n xs)) ∧ Below w.heap.size w w' := by
 go_enter Tryz.func5, Tryz.ntmps5
 refine wk_start ?_
 refine wk_seq ?_
 refine Wm [0] ?_
 refine Zr ?_
 refine Wm [0, 0, 0, 0, 0, 0, 0, 0, 0, 0, 0] ?_
 apply rg_softb
 case hy => (intro w hw; exact Gy)
 rintro (_ | _) h1 <;> try simp only [qd, ne_eq] at h1
 ·refine Zm ?_
  apply rg_soft_g
  case hg => rfl
  case hy => (intro w hw; exact Gy)
  simp only [qz]; apply rg_softb_g
  case hg => rfl
  case hy => (intro w hw; exact Gy)
  rintro (_ | _) h2 <;> try simp only [qd, ne_eq] at h2
  ·simp only [qz]
   refine Zk ?_; apply rg_soft_g
   case hg => rfl
   case hy => (intro w hw; exact Gy)
   simp only [qz]; apply rg_soft_g
   case hg => rfl
   case hy => (intro w hw; exact Gy)
   simp only [qz]; apply rg_softb_g
   case hg => rfl
   case hy => (intro w hw; exact Gy)
   rintro (_ | _) h3 <;> try simp only [qd, ne_eq] at h3
   ·simp only [qz]
    refine Zk ?_; refine Zr ?_; refine Wm [0, 0, 0] ?_; refine Zk ?_; refine Zr ?_; refine wk_loopS [4, 6, 20, 21, 22, 23, 24, 25, 26, 27, 28, 29, 30, 31, 32, 33] (fun mz vs s => ∃ (k : Nat) (j6 j21 j22 j23 j24 j25 j26 j27 j28 j29 j30 j31 j32 j33 : Value), vs = [.bool false, j6, .int .i64 k, j21, j22, j23, j24, j25, j26, j27, j28, j29, j30, j31, j32, j33] ∧ s = [] ∧ mz = xs.length - k ∧ k ≤ xs.length ∧ ∀ j, j < k → fitB n (it xs j) = true) ((fun (k : Nat) => xs.length - k) (0)) ?_ Kx ?_
    ·dsimp only [Act.vals, List.map, Array.getD, List.size_toArray, List.length_cons, List.length_nil, Nat.reduceAdd, Nat.reduceLT, ↓reduceDIte, Array.getInternal, List.getElem_toArray, List.getElem_cons_zero, List.getElem_cons_succ]
     exact ⟨0, _, _, _, _, _, _, _, _, _, _, _, _, _, _, rfl, rfl, rfl, by omega, fun i hi => by omega⟩
    rintro mz vs s ⟨k, j6, j21, j22, j23, j24, j25, j26, j27, j28, j29, j30, j31, j32, j33, rfl, rfl, hn, hc1, hc2⟩
    simp only [Act.puts, Act.vals, List.zip_cons_cons, List.zip_nil_right, List.foldl_cons, List.foldl_nil, List.map_cons, List.map_nil, Act.put, Act.eval, List.setIfInBounds_toArray, List.set_cons_zero, List.set_cons_succ, Array.getD_eq_getD_getElem?, List.getElem?_toArray, List.getElem?_cons_zero, List.getElem?_cons_succ, Option.getD_some]; refine wk_seq ?_; refine Wr [0] ?_; apply rg_softb
    case hy => (intro w hw; exact Gy)
    rintro (_ | _) h4 <;> try simp only [qd, ne_eq] at h4
    ·simp only [qz]
     refine Zr ?_; refine Wm [0] ?_; refine Zr ?_
     refine Er fun w hw => ?_
     (try simp only [qz])
     exact ⟨by rw [show validI n xs = true from validI_true Ox Ox Ox (all_it (fun j hj => hc2 j Ox))], hw.below⟩
    simp only [qz]
    obtain ⟨b, off, rfl, hlt, hcell⟩ := AS.openT hA Ox
    have hck := hcell k Ox
    refine Zr ?_; refine Wr [0, 0, 1, 1] ?_; refine Zk ?_; apply rg_soft
    case hy => (intro w hw; obtain ⟨hi0, hi1, hi2, hi3⟩ := hck.kn hw hlt (by simp); exact Gy)
    simp only [qz]
    refine Rgn fun g1 => ?_
    simp only [qz]; apply rg_store
    case hr => (intro w hw; obtain ⟨hcg1, hfg1⟩ := (Kn.hd0 hw).facts; refine ⟨_, by (go_simp; (try go_bits); exact Dne.mk _), ?_⟩; repeat (first | with_reducible exact hw | with_reducible apply Kn.put (Upd.here _ _ _)))
    case hz => (intro z hz; cases hz)
    simp only [qz]; refine Zr ?_; refine Wr [0, 0, 0, 0, 0, 0, 1, 0, 0] ?_; refine Zk ?_; apply rg_soft
    case hy => (intro w hw; obtain ⟨hcg1, hfg1⟩ := (Kn.hd0 hw).facts; exact Gy)
    simp only [qz]; apply rg_softb
    case hy => (intro w hw; exact Gy)
    rintro (_ | _) h5 <;> try simp only [qd, ne_eq] at h5
    ·simp only [qz]
     have hk4 := Lib.hid (show (it xs k).kind ≠ 4 by omega)
     clear h5; refine Zm ?_; apply rg_soft_g
     case hg => rfl
     case hy => (intro w hw; exact Gy)
     simp only [qz]; apply rg_soft_g
     case hg => rfl
     case hy => (intro w hw; obtain ⟨hcg1, hfg1⟩ := (Kn.hd0 hw).facts; exact Gy)
     simp only [qz]; apply rg_pureb Rx Kx
     case hargs => exact Ax
     case h => exact fun w hw => placed_any (it xs k) hk4.out n ⟨by omega, by omega⟩ w
     case hz => exact Nz
     rintro (_ | _) h6 <;> try simp only [qd, ne_eq] at h6
     ·simp only [qz]
      apply rg_soft_g
      case hg => rfl
      case hy => (intro w hw; exact Gy)
      simp only [qz]; refine Zk ?_; refine Zr ?_; refine Wm [0] ?_; refine Zr ?_
      refine Er fun w hw => ?_
      (try simp only [qz])
      exact ⟨by rw [show validI n xs = false from validB_false (fun hh => by rw [not_all_it Ox h6] at hh; exact absurd hh.2.2.2 (by decide))], hw.below⟩
     simp only [qz]; apply rg_soft_g
     case hg => rfl
     case hy => (intro w hw; exact Gy)
     simp only [qz]; refine Zk ?_; refine Zr ?_; refine Wr [0, 0] ?_; refine Zk ?_; refine rg_nil ?_; refine ek_sub (List.Sublist.cons _ List.Sublist.slnil) ?_; refine ek_roundS (xs.length - (k + 1)) Ox Kx ?_
     dsimp only [Act.vals, List.map, Array.getD, List.size_toArray, List.length_cons, List.length_nil, Nat.reduceAdd, Nat.reduceLT, ↓reduceDIte, Array.getInternal, List.getElem_toArray, List.getElem_cons_zero, List.getElem_cons_succ]
     exact ⟨k + 1, _, _, _, _, _, _, _, _, _, _, _, _, _, _, by rfl, by rfl, by rfl, by omega, fun j hj => if e : j = k then e ▸ h6 else hc2 j Ox⟩
    refine Zm ?_; refine rg_skip_h Rx Nz ?_; refine Zm ?_; refine Zk ?_; refine Zr ?_; refine Wm [0] ?_; refine Zr ?_
    refine Er fun w hw => ?_
    (try simp only [qz])
    exact ⟨by rw [show validI n xs = false from validB_false (fun h => by rw [not_all_it Ox (fitB_false (fun h => h.1 (wd_four h5)))] at h; exact absurd h.2.2.2 (by decide))], hw.below⟩
   simp only [qz]; refine Zk ?_; refine Zr ?_; refine Wm [0] ?_; refine Zr ?_
   refine Er fun w hw => ?_
   (try simp only [qz])
   exact ⟨by rw [show validI n xs = false from validB_false (fun h => by omega)], hw.below⟩
  simp only [qz]; refine Zk ?_; refine Zk ?_; refine Zr ?_; refine Wm [0] ?_; refine Zr ?_
  refine Er fun w hw => ?_
  (try simp only [qz])
  exact ⟨by rw [show validI n xs = false from validB_false (fun h => by omega)], hw.below⟩
 refine Zm ?_
 refine Zk ?_
 refine Zk ?_
 refine Zr ?_
 refine Wm [0] ?_
 refine Zr ?_
 refine Er fun w hw => ?_
 (try simp only [qz])
 exact ⟨by rw [show validI n xs = false from validB_false (fun h => by omega)], hw.below⟩
theorem check_any (xs : List It) (a : Option Addr) (c : Nat) (n : Int) (w : World) (hA : AS w a (its xs)) : Calls Tryz.prog 63 #[.int .i64 n, slV a xs.length c] w fun e w' => e = .returned (.int .i64 (itemE n xs)) ∧ Below w.heap.size w w' := by
 go_enter Tryz.func63, Tryz.ntmps63
 refine wk_start ?_
 refine wk_seq ?_
 refine Wm [0] ?_
 refine Zr ?_
 refine Wm [0, 1, 0, 0] ?_
 apply rg_pureb Rx Kx
 case hargs => exact Ax
 case h => exact fun w hw => between_any 1 n 6 w
 case hz => exact Nz
 rintro (_ | _) h1 <;> try simp only [qd, ne_eq] at h1
 ·simp only [qz]
  have hb7 := betB_false h1
  clear h1; refine Zk ?_; refine Zr ?_; refine Wm [0] ?_; refine Zr ?_
  refine Er fun w hw => ?_
  (try simp only [qz])
  exact ⟨by rw [show itemE n xs = 2 from by (unfold itemE; first | rw [if_neg Ox] | rw [if_pos ⟨by omega, by omega⟩, if_pos (by assumption)] | rw [if_pos ⟨by omega, by omega⟩, if_neg (by simp_all)])], hw.below⟩
 simp only [qz]
 have hb7 := betB_true h1
 clear h1
 refine Zk ?_
 refine Zr ?_
 refine Wm [0, 0, 1, 0, 0] ?_
 apply rg_pureb Rx Kx
 case hargs => exact Ax
 case h => exact fun w hw => mvalidI_any xs a c n w (hA.kn0 hw)
 case hz => exact Nz
 rintro (_ | _) h2 <;> try simp only [qd, ne_eq] at h2
 ·simp only [qz]
  refine Zk ?_; refine Zr ?_; refine Wm [0] ?_; refine Zr ?_
  refine Er fun w hw => ?_
  (try simp only [qz])
  exact ⟨by rw [show itemE n xs = 31 from by (unfold itemE; first | rw [if_neg Ox] | rw [if_pos ⟨by omega, by omega⟩, if_pos (by assumption)] | rw [if_pos ⟨by omega, by omega⟩, if_neg (by simp_all)])], hw.below⟩
 simp only [qz]
 refine Zk ?_
 refine Zr ?_
 refine Wm [0] ?_
 refine Zr ?_
 refine Er fun w hw => ?_
 (try simp only [qz])
 exact ⟨by rw [show itemE n xs = 0 from by (unfold itemE; first | rw [if_neg Ox] | rw [if_pos ⟨by omega, by omega⟩, if_pos (by assumption)] | rw [if_pos ⟨by omega, by omega⟩, if_neg (by simp_all)])], hw.below⟩
theorem turn1_ok (z : Nm) (n : Int) (hz : z.Ok) (gn tn : Nat) (w : World) (hn : Hd w gn tn #[.int .i64 n]) : Calls Tryz.prog 131 #[nmV z, .pointer (some ⟨gn, 0, none⟩)] w fun e w' => e = .returned (nmV (Nm.turn (n % 8).toNat z)) ∧ Below w.heap.size w w' := by
 go_enter Tryz.func131, Tryz.ntmps131
 refine wk_start ?_
 refine wk_seq ?_
 refine Wr [1, 1] ?_
 refine Rgn fun g1 => ?_
 simp only [qz]
 refine Rgn fun g2 => ?_
 simp only [qz]
 refine rg_nil ?_
 refine ek_next ?_
 refine wk_seq ?_
 refine wk_seq ?_
 refine Wr [0, 0, 0] ?_
 refine rf_load rfl rfl rfl UU3 rfl (fun w hw => ((Kn.hdB hw hn (by simp)).cell 0).trans rfl) (Nq ?_)
 apply rg_soft
 case hy => (intro w hw; have hand := and7; exact Gy)
 refine Zx ?_
 refine rg_nil ?_
 refine ek_next ?_
 refine wk_block ?_
 refine wk_loopF [6, 7, 8, 9, 10, 11, 12, 13, 14, 15, 16, 17, 18, 19, 20, 21, 22, 23] (fun mz f s => ∃ (j : Nat) (y : Nm), f 6 = .int .i64 j ∧ s = ((g2, .cells #[.int .i64 0, .int .i64 0, .int .i64 0, .int .i64 0, .int .i64 0] 44) :: ((g1, .cells #[.int .i64 y.a, .int .i64 y.b, .int .i64 y.c, .int .i64 y.d, .int .i64 y.k] 44) :: [])) ∧ mz = 8 - j ∧ (j : Int) ≤ n % 8 ∧ Nm.turn j z = y ∧ y.Ok) ((fun (j : Nat) (y : Nm) => 8 - j) (0) (z)) ?_ Kx ?_
 ·exact ⟨0, z, rfl, rfl, rfl, by omega, rfl, hz⟩
 rintro mz f1 s ⟨j, y, hs1_6, rfl, hn, hc1, hc2, hc3⟩
 simp only [Act.putF, List.foldl_cons, List.foldl_nil, hs1_6, Act.put, Act.eval, qW, Nat.reduceAdd, Bool.not_true, Bool.not_false]
 clear hs1_6
 have hy := Lib.hid hc2
 clear hc2
 have hok := hc3
 obtain ⟨⟨fa0, fa1, fb0, fb1, fc0, fc1, fd0, fd1⟩, fk0, fk1, ff⟩ := hc3
 refine wk_seq ?_
 refine Wr [0] ?_
 refine rfb_lss rfl rfl rfl rfl ?_
 rintro (_ | _) h1 <;> try simp only [qd, ne_eq] at h1
 ·simp only [qz]
  refine rg_nil ?_; refine ek_next ?_; refine wk_seq ?_; refine wk_cond_f rfl ?_; refine wk_exit ?_; refine ek_then_exit ?_; refine ek_then_exit ?_; refine ek_block_exit ?_; refine ek_next ?_; refine wk_seq ?_; refine Wr [0, 1] ?_; refine rf_loadR (n := 5) rfl rfl rfl UU44 rfl Kx (fun w hw => Kn.hd0 (Kn.tl hw)) rfl rfl (Nq ?_); refine rf_storeR (n := 5) rfl rfl Kx rfl rfl (UpdR.here _ _ _ Nl) Nz (Nw ?_); refine rg_nil ?_
  refine ek_next ?_; refine wk_ret ?_; refine ek_ret (fun w hw => ⟨rfl, _, run_results1 rfl rfl (Kn.hd0 hw) UU44 rfl Kx, ?_⟩); (try simp only [qz])
  have e : (n % 8).toNat = j := by omega
  exact ⟨by rw [e, hy.out], hw.below⟩
 simp only [qz]
 refine rg_nil ?_
 refine ek_next ?_
 refine wk_seq ?_
 refine wk_cond_t rfl ?_
 refine wk_skip ?_
 refine ek_next ?_
 refine wk_seq ?_
 refine wk_block ?_
 refine Wr [0, 0, 0, 0, 0, 0, 0, 0, 0, 0, 0, 0, 0, 0, 0, 1] ?_
 refine Fd 3 0 UU44 ?_
 refine Ia 3 1 3 UU42 ?_
 refine rf_load rfl rfl rfl UU3 rfl (fun w hw => (Kn.hd0 (Kn.tl hw)).at rfl) (Nq ?_)
 refine rf_neg rfl rfl rfl (wrap_ok Ox Ox) (Nq ?_)
 refine Fd 3 0 UU44 ?_
 refine Ia 0 1 0 UU42 ?_
 refine rf_load rfl rfl rfl UU3 rfl (fun w hw => (Kn.hd0 (Kn.tl hw)).at rfl) (Nq ?_)
 refine Fd 3 0 UU44 ?_
 refine Ia 1 1 1 UU42 ?_
 refine rf_load rfl rfl rfl UU3 rfl (fun w hw => (Kn.hd0 (Kn.tl hw)).at rfl) (Nq ?_)
 refine Fd 3 0 UU44 ?_
 refine Ia 2 1 2 UU42 ?_
 refine rf_load rfl rfl rfl UU3 rfl (fun w hw => (Kn.hd0 (Kn.tl hw)).at rfl) (Nq ?_)
 refine rf_build (cs := fun a => #[a.eval (.tmp 11), a.eval (.tmp 14), a.eval (.tmp 17), a.eval (.tmp 20)]) rfl rfl Kx (Nq ?_)
 refine Fd 3 0 UU44 ?_
 refine rf_storeR (n := 4) rfl rfl Kx rfl rfl (UpdR.there _ (UpdR.here _ _ _ Nl)) Nz (Nw ?_)
 refine rg_nil ?_
 refine ek_block ?_
 refine ek_next ?_
 refine Wr [0, 0] ?_
 refine rf_add rfl rfl rfl rfl (wrap_ok Ox Ox) (Zx ?_)
 refine rg_nil ?_
 refine ek_roundF (8 - (j + 1)) Ox Kx ?_
 exact ⟨j + 1, _, rfl, Rx, by rfl, by omega, (by rw [← hy.out]; rfl), rot_ok hok⟩
theorem amTurn_ok (z : Nm) (n : Int) (hz : z.Ok) (w : World) : Calls Tryz.prog 98 #[nmV z, .int .i64 n] w fun e w' => e = .returned (.tuple #[nmV (Nm.turn (n % 8).toNat z), .int .i64 0]) ∧ Below w.heap.size w w' := by
 go_enter Tryz.func98, Tryz.ntmps98
 refine wk_start ?_
 refine wk_seq ?_
 refine Wr [1, 1, 1, 0] ?_
 refine Rgn fun g1 => ?_
 simp only [qz]
 refine Rgn fun g2 => ?_
 simp only [qz]
 refine Rgn fun g3 => ?_
 refine Zx ?_
 refine rg_nil ?_
 refine ek_next ?_
 refine wk_seq ?_
 refine Wr [0, 0, 1, 0, 0, 1, 0] ?_
 refine rf_loadR (n := 5) rfl rfl rfl UU44 rfl Kx (fun w hw => Kn.hd0 (Kn.tl (Kn.tl hw))) rfl rfl (Nq ?_)
 refine Zk ?_
 apply rg_pure Rx Kx
 case hargs => exact Ax
 case h => exact fun w hw => amchanged_ok z (Nm.turn (n % 8).toNat z) hz 131 #[.pointer (some ⟨g2, 0, none⟩)] Kx w (fun w' hb => turn1_ok z n hz g2 3 w' ((Kn.hd0 (Kn.tl hw)).call hb))
 case hz => exact Nz
 refine Zx ?_
 refine rf_storeR (n := 5) rfl rfl Kx rfl rfl (UpdR.here _ _ _ Nl) Nz (Nw ?_)
 refine Zx ?_
 refine rg_nil ?_
 refine ek_next ?_
 refine wk_ret ?_
 refine ek_ret (fun w hw => ⟨rfl, _, run_results2 rfl rfl (Kn.hd0 hw) UU44 rfl Kx, ?_⟩)
 (try simp only [qz])
 first | exact ⟨rfl, hw.below⟩ | exact ⟨trivial, hw.below⟩ | exact hw.below
set_option maxHeartbeats 1000000
def ownN (x : It) : Nat := if x.kind = 1 then 1 else 2
def halfN : Nm := ⟨1, 0, 0, 0, 1⟩
def sideN : Nm := ⟨0, 0, 1, 0, 1⟩
def ownL (x : It) : List Nm := if x.kind = 1 then [Nm.turn (x.n % 8).toNat Nm.one] else if x.kind = 3 then [Nm.zero, Nm.one, Nm.one, Nm.zero] else [halfN, sideN, sideN, halfN]
def plcS (N p m : Nat) (L l : List Nm) : Nat → List Nm
  | 0 => l
  | t + 1 => (plcS N p m L l t).set ((p + t / m) * N + p + t % m) (nm L t)
def idM (N : Nat) : List Nm := rL (identR N)
def plcL (N p m : Nat) (L : List Nm) : List Nm := plcS N p m L (idM N) (m * m)
def itL (N : Nat) (x : It) : List Nm := plcL N (x.at_ - 1).toNat (ownN x) (ownL x)
def matS (N : Nat) (xs : List It) : Nat → LR
  | 0 => .ok (idM N)
  | j + 1 => match matS N xs j with
    | .error c => .error c
    | .ok l => mulM N N (itL N (it xs j)) l
def matO (n : Int) (xs : List It) : LR := if itemE n xs = 0 then matS n.toNat xs xs.length else .error (itemE n xs)
theorem plcS_len (N p m : Nat) (L l : List Nm) : ∀ t, (plcS N p m L l t).length = l.length
  | 0 => rfl
  | t + 1 => by rw [plcS, List.length_set, plcS_len N p m L l t]
theorem idM_len {N : Nat} (h1 : 1 ≤ N) (h6 : N ≤ 6) : (idM N).length = N * N := by
 unfold idM identR
 rw [if_pos Ox, Int.toNat_natCast]
 show (rL (gather _ _)).length = _
 have : ∃ l, gather (fun t => idR (t / N) (t % N)) (N * N) = .ok l := ⟨_, gather_pure (fun t => if t / N = t % N then Nm.one else Nm.zero) (N * N)⟩
 obtain ⟨l, hl⟩ := this
 rw [hl]
 exact gather_len hl
theorem matS_err {N : Nat} {xs : List It} {j : Nat} {c : Int} (h : matS N xs j = .error c) : ∀ m, j ≤ m → matS N xs m = .error c := by
  intro m hm
  induction m with
  | zero => obtain rfl : j = 0 := by omega
            exact h
  | succ m ih =>
    rcases (by omega : j = m + 1 ∨ j ≤ m) with rfl | hm
    · exact h
    · simp only [matS, ih hm]
theorem OwnN.openM {u : List Blk} {v : Value} {l : List Nm} (h : OwnN u v l) (hn : 0 < l.length) : ∃ g cap rest, u = [(g, .cells (NmE.flat l ++ rest).toArray 44)] ∧ v = .slice (some ⟨g, 0, none⟩) l.length cap ∧ l.length ≤ cap ∧ cap ≤ maxLen ∧ (NmE.flat l ++ rest).length = cap * 5 := by
 obtain ⟨hl, ⟨rfl, rfl, h0⟩ | ⟨g, cap, cur, rfl, rfl, hc, hm, hs, ht⟩⟩ := h
 ·omega
 refine ⟨g, cap, cur.toList.drop (l.length * 5), ?_, rfl, hc, hm, ?_⟩
 ·rw [← ht, List.take_append_drop]
 rw [← ht, List.take_append_drop]; simpa using hs
theorem OwnN.flM {g n cap : Nat} {l : List Nm} {rest : List Value} (h : l.length = n) (hc : n ≤ cap) (hm : cap ≤ maxLen) (hs : (NmE.flat l ++ rest).length = cap * 5) : OwnN [(g, .cells (NmE.flat l ++ rest).toArray 44)] (.slice (some ⟨g, 0, none⟩) n cap) l := by
 subst h
 have hfl := NmE.flat_len l
 exact ⟨hfl, .inr ⟨g, cap, _, rfl, rfl, hc, hm, by simpa using hs, by simp [← hfl]⟩⟩
theorem OwnN.wholeM {g : Nat} {l : List Nm} (h : l.length ≤ 1000000) : OwnN [(g, .cells (nms l).toArray 44)] (.slice (some ⟨g, 0, none⟩) l.length l.length) l :=
  Own.whole (cur := (nms l).toArray) (by simpa using NmE.flat_len l) (by simp only [maxLen]; omega)
theorem nm_flM (xs : List Nm) (k : Nat) (y : Nm) (rest : List Value) (hk : k < xs.length) : setMany (NmE.flat xs ++ rest).toArray (0 + k * 5) (nmC y) = (NmE.flat (xs.set k y) ++ rest).toArray := fl_set (E := NmE) (rest := rest) hk
theorem nm_szM (xs : List Nm) (k : Nat) (y : Nm) (rest : List Value) (hk : k < xs.length) : 0 + k * 5 + (nmC y).length ≤ (NmE.flat xs ++ rest).toArray.size := fl_size (E := NmE) (rest := rest) (y := y) hk
theorem OwnN.asM {u s : List Blk} {av : Option Addr} {m cv : Nat} {xs : List Nm} {B w : World} {F : List Nat} (h : OwnN u (.slice av m cv) xs) (K : Kn B F (u ++ s) w) : AS w av (nms xs) := by
 obtain ⟨a, cap, e, hA⟩ := h.as K
 cases e
 exact hA
theorem ident_okM {N : Nat} (h1 : 1 ≤ N) (h6 : N ≤ 6) : identR N = .ok (idM N) := by
 unfold idM identR
 rw [if_pos Ox, Int.toNat_natCast]
 have : ∃ l, madeR N idR = .ok l := ⟨_, gather_pure (fun t => if t / N = t % N then Nm.one else Nm.zero) (N * N)⟩
 obtain ⟨l, hl⟩ := this
 rw [hl]
 rfl
theorem own_any (x : It) (w : World) : Calls Tryz.prog 58 #[.agg #[.int .i64 x.kind, .int .i64 x.at_, .int .i64 x.n, .string x.name]] w fun e w' => RetM1 w (ownN x) (ownL x) e w' := by
 go_enter Tryz.func58, Tryz.ntmps58
 refine wk_start ?_
 refine wk_seq ?_
 refine Wr [1, 1] ?_
 refine Rgn fun g1 => ?_
 simp only [qz]
 refine Rgn fun g2 => ?_
 simp only [qz]
 refine Zr ?_
 refine Wr [0, 0, 0, 1, 1, 1, 1] ?_
 refine rf_build (cs := fun a => #[.int .i64 0, .int .i64 0, .int .i64 0, .int .i64 0, .int .i64 0]) rfl rfl Kx (Nq ?_)
 refine rf_build (cs := fun a => #[a.eval (.const (.int .i64 1)), .int .i64 0, .int .i64 0, .int .i64 0]) rfl rfl Kx (Nq ?_)
 refine rf_build (cs := fun a => #[cellAt (a.eval (.tmp 10)) 0, cellAt (a.eval (.tmp 10)) 1, cellAt (a.eval (.tmp 10)) 2, cellAt (a.eval (.tmp 10)) 3, .int .i64 0]) rfl rfl Kx (Nq ?_)
 refine Rgn fun g3 => ?_
 simp only [qz]
 refine Rgn fun g4 => ?_
 simp only [qz]
 refine rf_storeR (n := 5) rfl rfl Kx rfl rfl (UpdR.there _ (UpdR.here _ _ _ Nl)) Nz (Nw ?_)
 refine rf_storeR (n := 5) rfl rfl Kx rfl rfl (UpdR.here _ _ _ Nl) Nz (Nw ?_)
 refine Zr ?_
 refine Wr [0, 0] ?_
 refine Fd 0 0 UU72 ?_
 refine rf_load rfl rfl rfl UU3 rfl (fun w hw => (Kn.hd0 (Kn.tl (Kn.tl (Kn.tl hw)))).at rfl) (Nq ?_)
 refine Zr ?_
 refine Wr [0, 0] ?_
 refine rfb_eql rfl rfl rfl rfl ?_
 rintro (_ | _) h1 <;> try simp only [qd, ne_eq] at h1
 ·refine Zx ?_
  refine Zr ?_; refine Wr [0, 0] ?_; refine rfb_eql rfl rfl rfl rfl ?_
  rintro (_ | _) h2 <;> try simp only [qd, ne_eq] at h2
  ·refine Zx ?_
   refine Zr ?_; refine Wr [0, 0, 0, 0, 1, 1, 1, 1] ?_; refine rf_build (cs := fun a => #[a.eval (.const (.int .i64 1)), .int .i64 0, .int .i64 0, .int .i64 0]) rfl rfl Kx (Nq ?_); refine rf_build (cs := fun a => #[cellAt (a.eval (.tmp 34)) 0, cellAt (a.eval (.tmp 34)) 1, cellAt (a.eval (.tmp 34)) 2, cellAt (a.eval (.tmp 34)) 3, a.eval (.const (.int .i64 1))]) rfl rfl Kx (Nq ?_); refine rf_build (cs := fun a => #[a.eval (.const (.int .i64 0)), a.eval (.const (.int .i64 0)), a.eval (.const (.int .i64 1)), .int .i64 0]) rfl rfl Kx (Nq ?_)
   refine rf_build (cs := fun a => #[cellAt (a.eval (.tmp 36)) 0, cellAt (a.eval (.tmp 36)) 1, cellAt (a.eval (.tmp 36)) 2, cellAt (a.eval (.tmp 36)) 3, a.eval (.const (.int .i64 1))]) rfl rfl Kx (Nq ?_)
   refine Rgn fun g5 => ?_
   simp only [qz]
   refine Rgn fun g6 => ?_
   simp only [qz]; refine rf_storeR (n := 5) rfl rfl Kx rfl rfl (UpdR.there _ (UpdR.here _ _ _ Nl)) Nz (Nw ?_); refine rf_storeR (n := 5) rfl rfl Kx rfl rfl (UpdR.here _ _ _ Nl) Nz (Nw ?_); refine Zr ?_; refine Wr [0, 0, 0, 0, 1, 0, 1] ?_; refine rf_loadR (n := 5) rfl rfl rfl UU44 rfl Kx (fun w hw => Kn.hd0 (Kn.tl hw)) rfl rfl (Nq ?_); refine rf_loadR (n := 5) rfl rfl rfl UU44 rfl Kx (fun w hw => Kn.hd0 hw) rfl rfl (Nq ?_)
   refine rf_loadR (n := 5) rfl rfl rfl UU44 rfl Kx (fun w hw => Kn.hd0 hw) rfl rfl (Nq ?_); refine rf_loadR (n := 5) rfl rfl rfl UU44 rfl Kx (fun w hw => Kn.hd0 (Kn.tl hw)) rfl rfl (Nq ?_)
   refine rg_newS (cs := ?_) (ty := ?_) (n := 4) (c := 4) Rx (fun w => ?_) Nz (fun g7 => ?_); rotate_left 2
   focus (go_simp; rfl)
   simp only [qz]; refine rf_build (cs := fun a => #[a.eval (.const (.int .i64 2)), a.eval (.tmp 42)]) rfl rfl Kx (Nq ?_); refine rf_storeR (n := 2) rfl rfl Kx rfl rfl (UpdR.there _ (UpdR.there _ (UpdR.there _ (UpdR.there _ (UpdR.there _ (UpdR.here _ _ _ Nl)))))) Nz (Nw ?_); refine Zr ?_; refine ek_ret (fun w hw => ⟨rfl, _, run_results1 rfl rfl (Kn.hd0 (Kn.tl (Kn.tl (Kn.tl (Kn.tl (Kn.tl hw)))))) UU28 rfl Kx, ?_⟩)
   (try simp only [qz])
   have e1 : ownN x = 2 := by (unfold ownN; rw [if_neg Ox])
   have e2 : ownL x = [halfN, sideN, sideN, halfN] := by (unfold ownL; rw [if_neg Ox, if_neg Ox])
   rw [e1, e2]
   exact ⟨_, _, rfl, OwnN.wholeM (g := g7) (l := [halfN, sideN, sideN, halfN]) (by simp), hw.made (sc _ (sk _ (sk _ (sk _ (sk _ (sk _ (sk _ sn)))))))⟩
  refine Zx ?_; refine Zr ?_; refine Wr [0, 0, 0, 0, 1, 0, 1] ?_; refine rf_loadR (n := 5) rfl rfl rfl UU44 rfl Kx (fun w hw => Kn.hd0 (Kn.tl hw)) rfl rfl (Nq ?_); refine rf_loadR (n := 5) rfl rfl rfl UU44 rfl Kx (fun w hw => Kn.hd0 hw) rfl rfl (Nq ?_); refine rf_loadR (n := 5) rfl rfl rfl UU44 rfl Kx (fun w hw => Kn.hd0 hw) rfl rfl (Nq ?_); refine rf_loadR (n := 5) rfl rfl rfl UU44 rfl Kx (fun w hw => Kn.hd0 (Kn.tl hw)) rfl rfl (Nq ?_)
  refine rg_newS (cs := ?_) (ty := ?_) (n := 4) (c := 4) Rx (fun w => ?_) Nz (fun g8 => ?_); rotate_left 2
  focus (go_simp; rfl)
  simp only [qz]; refine rf_build (cs := fun a => #[a.eval (.const (.int .i64 2)), a.eval (.tmp 32)]) rfl rfl Kx (Nq ?_); refine rf_storeR (n := 2) rfl rfl Kx rfl rfl (UpdR.there _ (UpdR.there _ (UpdR.there _ (UpdR.here _ _ _ Nl)))) Nz (Nw ?_); refine Zr ?_; refine ek_ret (fun w hw => ⟨rfl, _, run_results1 rfl rfl (Kn.hd0 (Kn.tl (Kn.tl (Kn.tl hw)))) UU28 rfl Kx, ?_⟩); (try simp only [qz])
  have e1 : ownN x = 2 := by (unfold ownN; rw [if_neg Ox])
  have e2 : ownL x = [Nm.zero, Nm.one, Nm.one, Nm.zero] := by (unfold ownL; rw [if_neg Ox, if_pos Ox])
  rw [e1, e2]
  exact ⟨_, _, rfl, OwnN.wholeM (g := g8) (l := [Nm.zero, Nm.one, Nm.one, Nm.zero]) (by simp), hw.made (sc _ (sk _ (sk _ (sk _ (sk _ sn)))))⟩
 refine Zx ?_
 refine Zr ?_
 refine Wr [0, 0, 0, 1, 0, 0, 0, 1, 1, 0] ?_
 refine rf_loadR (n := 5) rfl rfl rfl UU44 rfl Kx (fun w hw => Kn.hd0 hw) rfl rfl (Nq ?_)
 refine Fd 0 2 UU72 ?_
 refine rf_load rfl rfl rfl UU3 rfl (fun w hw => (Kn.hd0 (Kn.tl (Kn.tl (Kn.tl hw)))).at rfl) (Nq ?_)
 apply rg_pure Rx Kx
 case hargs => exact Ax
 case h => exact fun w hw => amTurn_ok Nm.one x.n one_ok w
 case hz => exact Nz
 refine Zx ?_
 refine Rgn fun g9 => ?_
 simp only [qz]
 refine rf_storeR (n := 5) rfl rfl Kx rfl rfl (UpdR.here _ _ _ Nl) Nz (Nw ?_)
 refine Zx ?_
 refine Zr ?_
 refine Wr [0, 1, 0, 1] ?_
 refine rf_loadR (n := 5) rfl rfl rfl UU44 rfl Kx (fun w hw => Kn.hd0 hw) rfl rfl (Nq ?_)
 refine rg_newS (cs := ?_) (ty := ?_) (n := 1) (c := 1) Rx (fun w => ?_) Nz (fun g10 => ?_); rotate_left 2
 focus (go_simp; rfl)
 simp only [qz]
 refine rf_build (cs := fun a => #[a.eval (.const (.int .i64 1)), a.eval (.tmp 24)]) rfl rfl Kx (Nq ?_)
 refine rf_storeR (n := 2) rfl rfl Kx rfl rfl (UpdR.there _ (UpdR.there _ (UpdR.there _ (UpdR.there _ (UpdR.here _ _ _ Nl))))) Nz (Nw ?_)
 refine Zr ?_
 refine ek_ret (fun w hw => ⟨rfl, _, run_results1 rfl rfl (Kn.hd0 (Kn.tl (Kn.tl (Kn.tl (Kn.tl hw))))) UU28 rfl Kx, ?_⟩)
 (try simp only [qz])
 have e1 : ownN x = 1 := by (unfold ownN; rw [if_pos Ox])
 have e2 : ownL x = [Nm.turn (x.n % 8).toNat Nm.one] := by (unfold ownL; rw [if_pos Ox])
 rw [e1, e2]
 exact ⟨_, _, rfl, OwnN.wholeM (g := g10) (l := [Nm.turn (x.n % 8).toNat Nm.one]) (by simp), hw.made (sc _ (sk _ (sk _ (sk _ (sk _ (sk _ sn))))))⟩
theorem mplaced_any (N p m : Nat) (L : List Nm) (a : Option Addr) (c : Nat) (hN1 : 1 ≤ N) (hN6 : N ≤ 6) (hm1 : 1 ≤ m) (hpm : p + m ≤ N) (hL : Hid (L.length = m * m)) (w : World) (hA : AS w a (nms L)) : Calls Tryz.prog 57 #[.int .i64 N, .int .i64 ((p : Int) + 1), .agg #[.int .i64 m, .slice a L.length c]] w fun e w' => RetM1 w N (plcL N p m L) e w' := by
 obtain ⟨b, off, rfl, hlt, hcell⟩ := AS.openN hA (by rw [hL.out]; exact Nat.mul_pos Ox Ox)
 have hz1 : 1 ≤ N * N := Nat.mul_pos Ox Ox
 have hidl := idM_len (N := N) Ox hN6
 obtain ⟨z0, hz0⟩ : ∃ r, idM N = r := ⟨_, rfl⟩
 go_enter Tryz.func57, Tryz.ntmps57
 refine wk_start ?_
 refine wk_seq ?_
 refine Wr [1, 1] ?_
 refine Rgn fun g1 => ?_
 simp only [qz]
 refine Rgn fun g2 => ?_
 simp only [qz]
 refine Zr ?_
 refine Wx [0, 1, 0, 0, 0, 1, 1, 0] ?_
 apply (rg_retM (n := (N : Int)) (zs := z0) (c := 0)) Rx Kx
 case hargs => exact Ax
 case h => exact fun w hw => by have := identity_any N w; rw [ident_okM Ox hN6, Int.toNat_natCast] at this; rw [hz0] at this; exact this
 case hz => exact Nz
 intro va3 vc3 u3 hO3
 refine Zx ?_
 refine Rgn fun g4 => ?_
 simp only [qz]
 refine rf_storeR (n := 2) rfl rfl Kx rfl rfl (UpdR.here _ _ _ Nl) Nz (Nw ?_)
 refine Zx ?_
 refine Zr ?_
 have hzl : z0.length = N * N := by rw [← hz0]; exact hidl
 rw [hzl]
 clear hidl
 replace hzl := Lib.hid hzl
 replace hz0 := Lib.hid hz0
 refine Wr [0, 0, 0] ?_
 refine Fd 0 0 UU28 ?_
 refine rf_load rfl rfl rfl UU3 rfl (fun w hw => (Kn.hd0 (Kn.tl (Kn.tlU (Kn.tl hw)))).at rfl) (Zx ?_)
 refine Zr ?_
 refine wk_loopF [9, 10, 18, 19, 20, 21, 22, 23, 24, 25, 26, 27, 28, 29, 30, 31, 32, 33, 34, 35, 36, 37, 38, 39, 40, 41, 42, 43, 44, 45, 46, 47, 48, 49, 50, 51] (fun mz f s => ∃ (i : Nat) (u : List Blk), f 18 = .int .i64 i ∧ s = ((g4, .cells #[.int .i64 N, .slice va3 (N * N) vc3] 28) :: (u ++ ((g2, .cells #[.int .i64 0, .slice none 0 0] 28) :: ((g1, .cells #[.int .i64 m, .slice (some ⟨b, off, none⟩) L.length c] 28) :: [])))) ∧ mz = m - i ∧ i ≤ m ∧ OwnN u (.slice va3 (N * N) vc3) (plcS N p m L z0 (i * m))) ((fun (i : Nat) (u : List Blk) => m - i) (0) (u3)) ?_ Kx ?_
 ·exact ⟨0, u3, rfl, rfl, rfl, by omega, by rw [Nat.zero_mul]; show OwnN u3 (.slice va3 (N * N) vc3) z0; rw [← hzl.out]; exact hO3⟩
 rintro mz f1 s ⟨i, u, hs1_18, rfl, hn, hd1, hd2⟩
 simp only [Act.putF, List.foldl_cons, List.foldl_nil, hs1_18, Act.put, Act.eval, qW, Nat.reduceAdd, Bool.not_true, Bool.not_false]
 clear hs1_18
 refine wk_seq ?_
 refine Wr [0] ?_
 refine rfb_lss rfl rfl rfl rfl ?_
 rintro (_ | _) h1 <;> try simp only [qd, ne_eq] at h1
 ·simp only [qz]
  refine Zr ?_; refine Wr [0, 1] ?_; refine rf_loadR (n := 2) rfl rfl rfl UU28 rfl Kx (fun w hw => Kn.hd0 hw) rfl rfl (Nq ?_); refine rf_storeR (n := 2) rfl rfl Kx rfl rfl (UpdR.there _ (UpdR.app _ (UpdR.here _ _ _ Nl))) Nz (Nw ?_); refine Zr ?_; refine ek_ret (fun w hw => ⟨rfl, _, run_results1 rfl rfl (Kn.hd0 (Kn.tlU (Kn.tl hw))) UU28 rfl Kx, ?_⟩); (try simp only [qz])
  obtain rfl : i = m := by omega
  have e1 : plcL N p i L = plcS N p i L z0 (i * i) := by (unfold plcL; rw [hz0.out])
  rw [e1]
  exact ⟨_, u, rfl, hd2, hw.made (List.Sublist.cons _ (List.sublist_append_left _ _))⟩
 simp only [qz]
 refine Zr ?_
 refine Wx [0, 0] ?_
 refine Zr ?_
 refine Wr [0, 0, 0] ?_
 refine Fd 0 0 UU28 ?_
 refine rf_load rfl rfl rfl UU3 rfl (fun w hw => (Kn.hd0 (Kn.tl (Kn.tlU (Kn.tl hw)))).at rfl) (Zx ?_)
 refine Zr ?_
 refine wk_loopF [10, 23, 24, 25, 26, 27, 28, 29, 30, 31, 32, 33, 34, 35, 36, 37, 38, 39, 40, 41, 42, 43, 44, 45, 46, 47, 48, 49, 50] (fun mz f s => ∃ (k : Nat) (u2 : List Blk), f 23 = .int .i64 k ∧ s = ((g4, .cells #[.int .i64 N, .slice va3 (N * N) vc3] 28) :: (u2 ++ ((g2, .cells #[.int .i64 0, .slice none 0 0] 28) :: ((g1, .cells #[.int .i64 m, .slice (some ⟨b, off, none⟩) L.length c] 28) :: [])))) ∧ mz = m - k ∧ k ≤ m ∧ OwnN u2 (.slice va3 (N * N) vc3) (plcS N p m L z0 (i * m + k))) ((fun (k : Nat) (u2 : List Blk) => m - k) (0) (u)) ?_ Kx ?_
 ·exact ⟨0, u, rfl, rfl, rfl, by omega, hd2⟩
 rintro mz f2 s ⟨k, u2, hs2_23, rfl, hn, he1, he2⟩
 simp only [Act.putF, List.foldl_cons, List.foldl_nil, hs2_23, Act.put, Act.eval, qW, Nat.reduceAdd, Bool.not_true, Bool.not_false]
 clear hs2_23
 refine wk_seq ?_
 refine Wr [0] ?_
 refine rfb_lss rfl rfl rfl rfl ?_
 rintro (_ | _) h2 <;> try simp only [qd, ne_eq] at h2
 ·simp only [qz]
  refine Zr ?_; refine Wr [0, 0] ?_; refine rf_add rfl rfl rfl rfl (wrap_ok Ox Ox) (Zx ?_); refine rg_nil ?_
  obtain rfl : m = k := by omega
  refine ek_roundF (m - (i + 1)) Ox Kx ?_
  exact ⟨i + 1, u2, rfl, by rfl, by rfl, Ox, (by rw [show (i + 1) * m = i * m + m by rw [Nat.add_mul, Nat.one_mul]]; exact he2)⟩
 simp only [qz]
 refine Zr ?_
 refine Wx [0, 0] ?_
 refine rg_nil (ek_next ?_)
 have hpl := plcS_len N p m L z0 (i * m + k)
 obtain ⟨go, capo, resto, hu, hvo, hco1, hco2, hco3⟩ := he2.openM (by rw [hpl, hzl.out]; omega)
 subst hu
 rw [hpl, hzl.out] at hvo hco1
 cases hvo
 have hix := ix_lt (N := N) (show p + i < N by omega) (show p + k < N by omega)
 have hmx := ix_lt (N := m) (show i < m by omega) (show k < m by omega)
 have hLm := hL.out
 have hm36 := Nat.mul_le_mul (show m ≤ 6 by omega) (show m ≤ 6 by omega)
 have hN36 := Nat.mul_le_mul hN6 hN6
 have hcst : (((p + i : Nat) : Int) * N) = (((p + i) * N : Nat) : Int) := (Int.natCast_mul _ _).symm
 have hcst2 : ((i : Int) * m) = ((i * m : Nat) : Int) := (Int.natCast_mul _ _).symm
 obtain ⟨ix, hixe⟩ : ∃ r, (p + i) * N + p + k = r := ⟨_, rfl⟩
 have hixl : ix < N * N := by omega
 obtain ⟨jx, hjxe⟩ : ∃ r, i * m + k = r := ⟨_, rfl⟩
 have hjxl : jx < L.length := by omega
 simp only [List.cons_append, List.nil_append]
 refine wk_draws_m (hz1 := (sc _ (sk _ (sc _ (sc _ sn))))) [(0, 0), (1, 0), (2, 0), (3, 0), (4, 0), (5, 0), (6, 0), (7, 0), (8, 0), (9, 0), (10, 0), (11, 0), (12, 0), (13, 0), (14, 0), (15, 0), (16, 0), (17, 0), (18, 0), (19, 0), (20, 0), (21, 0), (22, 0), (23, 0), (24, 2)] 24 Kx Kx (fun c d v a w h => by cases d <;> exact h) ?_
 simp only [List.map_cons, List.map_nil, List.getD_cons_zero, List.getD_cons_succ]
 refine Fd 0 1 UU28 ?_
 refine rf_load rfl rfl rfl UU26 rfl (fun w hw => (Kn.hd0 hw).at rfl) (Zx ?_)
 refine rf_sub (r := (p : Int)) rfl rfl rfl rfl (wrap_eqB Ox Ox Ox) (Zx ?_)
 refine rf_add (r := ((p + i : Nat) : Int)) rfl rfl rfl rfl (wrap_eqB Ox Ox Ox) (Zx ?_)
 refine rf_mul (r := (((p + i) * N : Nat) : Int)) rfl rfl rfl rfl (wrap_eqB hcst Ox Ox) (Zx ?_)
 refine rf_add (r := ((p + i) * N : Nat) + ((p : Int) + 1)) rfl rfl rfl rfl (wrap_eqB Ox Ox Ox) (Nq ?_)
 refine rf_sub (r := (((p + i) * N + p : Nat) : Int)) rfl rfl rfl rfl (wrap_eqB Ox Ox Ox) (Zx ?_)
 refine rf_add (r := ((ix : Nat) : Int)) rfl rfl rfl rfl (wrap_eqB Ox Ox Ox) (Nq ?_)
 refine Fd 0 1 UU28 ?_
 refine rf_load rfl rfl rfl UU26 rfl (fun w hw => (Kn.hd0 (Kn.tl (Kn.tl (Kn.tl hw)))).at rfl) (Zx ?_)
 refine Fd 0 0 UU28 ?_
 refine rf_load rfl rfl rfl UU3 rfl (fun w hw => (Kn.hd0 (Kn.tl (Kn.tl (Kn.tl hw)))).at rfl) (Nq ?_)
 refine rf_mul (r := ((i * m : Nat) : Int)) rfl rfl rfl rfl (wrap_eqB hcst2 Ox Ox) (Zx ?_)
 refine rf_add (r := ((jx : Nat) : Int)) rfl rfl rfl rfl (wrap_eqB Ox Ox Ox) (Nq ?_)
 refine rf_indexS (n := jx) (sz := 5) (j := off + jx * 5) rfl rfl rfl rfl UU26 Kx Ox Ox rfl (Nq ?_)
 refine rf_loadC (n := 5) (vs := nmC (nm L jx)) rfl rfl rfl UU44 rfl Kx rfl (fun w hw => atN_range ((hcell jx hjxl).kn hw hlt (by simp))) (Nq ?_)
 refine rf_indexS (n := ix) (sz := 5) (j := 0 + ix * 5) rfl rfl rfl rfl UU26 Kx Ox Ox rfl (Nq ?_)
 have hsz := nm_szM (plcS N p m L z0 jx) ix (nm L jx) resto (by rw [← hjxe, hpl, hzl.out]; exact hixl)
 rw [hjxe]
 refine rf_storeRM (n := 5) (vs := nmC (nm L jx)) rfl rfl Kx rfl rfl (UpdR.there _ (UpdR.here _ _ _ hsz)) (sc _ (sk _ (sc _ (sc _ sn)))) ?_
 have hstep : (plcS N p m L z0 jx).set ix (nm L jx) = plcS N p m L z0 (i * m + (k + 1)) := by
  rw [← Nat.add_assoc, plcS, hjxe, ← hixe, ← hjxe, ix_div (show k < m by omega), ix_mod (show k < m by omega)]
 rw [nm_flM _ _ _ _ (by rw [← hjxe, hpl, hzl.out]; exact hixl), hstep]
 have hON := OwnN.flM (g := go) (n := N * N) (l := plcS N p m L z0 (i * m + (k + 1))) (rest := resto) (by rw [plcS_len, hzl.out]) hco1 hco2 (by rw [List.length_append, El.flat_len, plcS_len, hzl.out] at hco3 ⊢; exact hco3)
 simp only [qz]
 refine Zr ?_
 refine Wr [0, 0] ?_
 refine rf_add rfl rfl rfl rfl (wrap_ok Ox Ox) (Zx ?_)
 refine rg_nil ?_
 refine ek_roundF (m - (k + 1)) Ox Kx ?_
 exact ⟨k + 1, [(go, _)], rfl, by rfl, by rfl, Ox, hON⟩
theorem mplaced_int (N p m : Nat) (z : Int) (L : List Nm) (a : Option Addr) (c : Nat) (hz : z = p + 1) (hN1 : 1 ≤ N) (hN6 : N ≤ 6) (hm1 : 1 ≤ m) (hpm : p + m ≤ N) (hL : Hid (L.length = m * m)) (w : World) (hA : AS w a (nms L)) : Calls Tryz.prog 57 #[.int .i64 N, .int .i64 z, .agg #[.int .i64 m, .slice a L.length c]] w fun e w' => RetM1 w N (plcL N p m L) e w' := by
 subst hz
 exact mplaced_any N p m L a c hN1 hN6 hm1 hpm hL w hA
theorem fit_own {N : Nat} {x : It} (h : fitB N x = true) : 1 ≤ x.at_ ∧ (x.at_ - 1).toNat + ownN x ≤ N ∧ 1 ≤ ownN x ∧ ownN x ≤ 2 ∧ x.at_ = ((x.at_ - 1).toNat : Int) + 1 := by
 unfold fitB at h
 rw [decide_eq_true_eq] at h
 obtain ⟨h1, h2, h3⟩ := h
 unfold wd at h1 h3
 unfold ownN
 by_cases hk : x.kind = 1
 ·rw [if_pos hk] at h1 h3 ⊢
  split at h1
  ·next hn => rw [if_pos hn] at h3; omega
  exact absurd rfl h1
 rw [if_neg hk] at h1 h3 ⊢
 split at h1
 ·next hn =>
  rw [if_pos hn] at h3
  split at h1
  ·next hm => rw [if_pos hm] at h3; omega
  exact absurd rfl h1
 exact absurd rfl h1
theorem itemE_zero {n : Int} {xs : List It} (h : itemE n xs = 0) : validI n xs = true := by
 unfold itemE at h
 split at h
 ·split at h
  ·assumption
  cases h
 cases h
theorem ownL_len (x : It) : (ownL x).length = ownN x * ownN x := by
 unfold ownL ownN
 by_cases hk : x.kind = 1
 ·rw [if_pos hk, if_pos hk]; rfl
 rw [if_neg hk, if_neg hk]
 split <;> rfl
theorem itL_len {N : Nat} (h1 : 1 ≤ N) (h6 : N ≤ 6) (x : It) : (itL N x).length = N * N := by
 unfold itL plcL
 rw [plcS_len, idM_len h1 h6]
theorem mulM_code {n m : Int} {xs ys : List Nm} {c : Int} (h : mulM n m xs ys = .error c) : c ≠ 0 := by
 unfold mulM at h
 split at h
 ·split at h
  ·obtain ⟨i, hi, he⟩ := gather_err_mem h
   have := prodsR_code he
   omega
  cases h; decide
 cases h; decide
theorem matS_code {N : Nat} {xs : List It} : ∀ {j : Nat} {c : Int}, matS N xs j = .error c → c ≠ 0
  | 0, c, h => by cases h
  | j + 1, c, h => by
    simp only [matS] at h
    split at h
    · next c' hc => cases h; exact matS_code hc
    · exact mulM_code h
theorem rC_ok {r : LR} (hc : ∀ c, r = .error c → c ≠ 0) (h : rC r = 0) : ∃ l, r = .ok l := by
 cases r with
 | ok l => exact ⟨l, rfl⟩
 | error c => exact absurd h (hc c rfl)
theorem matS_len {N : Nat} {xs : List It} (h1 : 1 ≤ N) (h6 : N ≤ 6) : ∀ {j : Nat} {l : List Nm}, matS N xs j = .ok l → l.length = N * N
  | 0, l, h => by cases h; exact idM_len h1 h6
  | j + 1, l, h => by
    simp only [matS] at h
    split at h
    · cases h
    · unfold mulM at h
      split at h
      · rw [if_pos rfl, Int.toNat_natCast] at h
        exact made_len h
      · cases h
theorem itAt_range {w : World} {b off : Nat} {i : It} (h : ItAt w b off i) : w.rangeAt b off [.int .i64 i.kind, .int .i64 i.at_, .int .i64 i.n, .string i.name] := by
 intro j v hj
 match j, hj with
 | 0, hj => injection hj with hj; subst hj; exact h.c0
 | 1, hj => injection hj with hj; subst hj; exact h.c1
 | 2, hj => injection hj with hj; subst hj; exact h.c2
 | 3, hj => injection hj with hj; subst hj; exact h.c3
 | n + 4, hj => cases hj
theorem run_lookup_noneM (s : ByteArray) (w : World) : (Instr.lookup 126 (.map none) (.string s) true).run Tryz.prog w = .ok (.tuple #[.agg #[.int .i64 0, .slice none 0 0], .bool false]) w := by
 kernel_rfl
section
variable {R : Option Nat} {ops : Array Oper} {Q : Exit → Act → World → Prop} {B : World} {F : List Nat} {s0 : Option (List Blk × List Blk)}
variable {l : List (Oper × Nat)} {a : Act} {s : List Blk} {d : Option Tmp} {t : TypeId} {p : String} {af : Array Edge} {gd : Option (Nat × Bool)} {m : Nat}
theorem rf_lookM {x y : Operand} {nm_ : ByteArray} (hm : soft03 m = true) (hg : Region.wanted ⟨d, .lookup 126 x y true, t, p, af, gd⟩ (yielded ops a.tmps) = true)
    (hx : a.eval x = .map none) (hy : a.eval y = .string nm_) (h : Rg R Tryz.prog ops Q B F s0 l (a.put d (.tuple #[.agg #[.int .i64 0, .slice none 0 0], .bool false])) s) : Rg R Tryz.prog ops Q B F s0 ((⟨d, .lookup 126 x y true, t, p, af, gd⟩, m) :: l) a s := by
  refine rg_any hm hg (fun w => ?_) h
  unfold Yld
  have := run_lookup_noneM nm_ w
  simp [execOp, hx, hy, this]
end
theorem mcheck_any (n : Int) (xs : List It) (a : Option Addr) (c : Nat) (w : World) (hA : AS w a (its xs)) : Calls Tryz.prog 31 #[.int .i64 n, .slice a xs.length c] w fun e w' => e = .returned (.int .i64 (itemE n xs)) ∧ Below w.heap.size w w' := by
 go_enter Tryz.func31, Tryz.ntmps31
 refine wk_start ?_
 refine wk_seq ?_
 refine Wx [0] ?_
 refine Zr ?_
 refine Wx [0, 1, 0, 0] ?_
 apply rg_pureb Rx Kx
 case hargs => exact Ax
 case h => exact fun w hw => between_mesh 1 n 6 w
 case hz => exact Nz
 rintro (_ | _) h1 <;> try simp only [qd, ne_eq] at h1
 ·simp only [qz]
  have hbt := betB_false h1
  clear h1; refine Zx ?_; refine Zr ?_; refine Wx [0] ?_; refine Zr ?_
  refine Er fun w hw => ?_
  (try simp only [qz])
  exact ⟨by unfold itemE; rw [if_neg hbt], hw.below⟩
 simp only [qz]
 have hbt := betB_true h1
 clear h1
 refine Zx ?_
 refine Zr ?_
 refine Wx [0, 0, 1, 0, 0] ?_
 apply rg_pureb Rx Kx
 case hargs => exact Ax
 case h => exact fun w hw => mvalidI_any xs a c n w (hA.kn0 hw)
 case hz => exact Nz
 rintro (_ | _) h2 <;> try simp only [qd, ne_eq] at h2
 ·refine Zx ?_
  refine Zr ?_; refine Wx [0] ?_; refine Zr ?_
  refine Er fun w hw => ?_
  (try simp only [qz])
  exact ⟨by unfold itemE; rw [if_pos hbt, if_neg (by rw [h2]; decide)], hw.below⟩
 refine Zx ?_
 refine Zr ?_
 refine Wx [0] ?_
 refine Zr ?_
 refine Er fun w hw => ?_
 (try simp only [qz])
 exact ⟨by unfold itemE; rw [if_pos hbt, if_pos h2], hw.below⟩
theorem made_items (N : Nat) (xs : List It) (a : Option Addr) (c : Nat) (hN1 : 1 ≤ N) (hN6 : N ≤ 6) (hlx : xs.length ≤ 5000) (hfit : ∀ j, j < xs.length → fitB N (it xs j) = true) (w : World) (hA : AS w a (its xs)) : Calls Tryz.prog 32 #[.int .i64 N, .slice a xs.length c, .map none] w fun e w' => RetM w (rN N (matS N xs xs.length)) (rL (matS N xs xs.length)) (rC (matS N xs xs.length)) e w' := by
 go_enter Tryz.func32, Tryz.ntmps32
 refine wk_start ?_
 refine wk_seq ?_
 refine Wr [1, 0] ?_
 refine Rgn fun g1 => ?_
 refine Zx ?_
 refine Zr ?_
 refine Wx [0, 1, 0, 0, 0, 1, 1, 0] ?_
 apply (rg_retM (n := (N : Int)) (zs := idM N) (c := 0)) Rx Kx
 case hargs => exact Ax
 case h => exact fun w hw => by have := identity_any N w; rw [ident_okM hN1 hN6, Int.toNat_natCast] at this; exact this
 case hz => exact Nz
 intro va2 vc2 u2 hO2
 refine Zx ?_
 refine Rgn fun g3 => ?_
 simp only [qz]
 refine rf_storeR (n := 2) rfl rfl Kx rfl rfl (UpdR.here _ _ _ Nl) Nz (Nw ?_)
 refine Zx ?_
 refine Zr ?_
 refine Wx [0, 0, 0] ?_
 refine rf_len rfl rfl rfl UU22 (Zx ?_)
 refine Zr ?_
 refine wk_loopF [7, 9, 11, 12, 13, 21, 22, 23, 24, 25, 26, 27, 28, 29, 30, 31, 32, 33, 34, 35, 36, 37, 38, 39, 40, 41, 42, 43, 44, 45, 46, 47, 48, 49, 50] (fun mz f s => ∃ (i : Nat) (r : LR) (va : Option Addr) (vc : Nat) (u : List Blk), f 9 = .int .i64 (rC r) ∧ f 21 = .int .i64 i ∧ s = ((g3, .cells #[.int .i64 (rN N r), .slice va (rL r).length vc] 28) :: (u ++ ((g1, .cells #[.int .i64 0, .slice none 0 0] 28) :: []))) ∧ mz = xs.length - i ∧ i ≤ xs.length ∧ Hid (matS N xs i = r) ∧ OwnN u (.slice va (rL r).length vc) (rL r)) ((fun (i : Nat) (r : LR) (va : Option Addr) (vc : Nat) (u : List Blk) => xs.length - i) (0) (.ok (idM N)) (va2) (vc2) (u2)) ?_ Kx ?_
 ·exact ⟨0, .ok (idM N), va2, vc2, u2, rfl, rfl, rfl, rfl, by omega, Lib.hid rfl, hO2⟩
 rintro mz f1 s ⟨i, r, va, vc, u, hs1_9, hs1_21, rfl, hn, hd1, hd2, hd3⟩
 simp only [Act.putF, List.foldl_cons, List.foldl_nil, hs1_9, hs1_21, Act.put, Act.eval, qW, Nat.reduceAdd, Bool.not_true, Bool.not_false]
 clear hs1_9 hs1_21
 refine wk_seq ?_
 refine Wr [0] ?_
 refine rfb_lss rfl rfl rfl rfl ?_
 rintro (_ | _) h1 <;> try simp only [qd, ne_eq] at h1
 ·simp only [qz]
  refine Zr ?_; refine Wr [0, 0, 1, 0] ?_; refine rf_loadR (n := 2) rfl rfl rfl UU28 rfl Kx (fun w hw => Kn.hd0 hw) rfl rfl (Zx ?_); refine rf_storeR (n := 2) rfl rfl Kx rfl rfl (UpdR.there _ (UpdR.app _ (UpdR.here _ _ _ Nl))) Nz (Nw ?_); refine Zx ?_; refine Zr ?_; refine ek_ret (fun w hw => ⟨rfl, _, run_results2 rfl rfl (Kn.hd0 (Kn.tlU (Kn.tl hw))) UU28 rfl Kx, ?_⟩); (try simp only [qz])
  obtain rfl : i = xs.length := by omega
  rw [hd2.out]
  exact ⟨_, u, rfl, hd3, hw.made (List.Sublist.cons _ (List.sublist_append_left _ _))⟩
 simp only [qz]
 refine Zr ?_
 obtain ⟨b, off, rfl, hlt, hcell⟩ := AS.openT hA Ox
 obtain ⟨x, hx⟩ : ∃ x, it xs i = x := ⟨_, rfl⟩
 have hit := hcell i Ox
 have hfx := hfit i Ox
 rw [hx] at hit hfx
 have hfo := fit_own hfx
 replace hx := Lib.hid hx
 refine Wr [0, 0, 1, 1] ?_
 refine rf_indexS (n := i) (sz := 4) (j := off + i * 4) rfl rfl rfl rfl UU22 Kx Ox Ox rfl (Nq ?_)
 refine rf_loadC (n := 4) (vs := itC x) rfl rfl rfl UU72 rfl Kx rfl (fun w hw => itAt_range (hit.kn hw hlt (by simp))) (Nq ?_)
 refine Rgn fun g4 => ?_
 simp only [qz]
 refine rf_storeR (n := 4) rfl rfl Kx rfl rfl (UpdR.here _ _ _ Nl) Nz (Nw ?_)
 refine Zr ?_
 refine Wx [0, 0] ?_
 refine rfb_neq rfl rfl rfl rfl ?_
 rintro (_ | _) h2 <;> try simp only [qd, ne_eq] at h2
 ·simp only [qz]
  obtain ⟨l, hr⟩ := rC_ok (fun c h => matS_code (hd2.out.trans h)) (by simpa using h2)
  subst hr
  clear h2
  have hll := matS_len hN1 hN6 hd2.out
  have hil := itL_len hN1 hN6 x
  have hN36 := Nat.mul_le_mul hN6 hN6
  simp only [rN, rL, rC] at hd3 ⊢; refine Zr ?_; refine Wx [0, 0, 0, 0, 0, 0, 0, 1, 1, 0] ?_; refine Fd 0 3 UU72 ?_; refine rf_load rfl rfl rfl Tryz.underlying9 rfl (fun w hw => (Kn.hd0 hw).at rfl) (Nq ?_); refine rf_lookM rfl rfl rfl rfl (Zx ?_)
  refine Rgn fun g5 => ?_
  simp only [qz]; refine rf_storeR (n := 2) rfl rfl Kx rfl rfl (UpdR.here _ _ _ Nl) Nz (Nw ?_); refine Zx ?_; refine Zr ?_; refine Wx [0, 0] ?_; refine Zr ?_; refine Wr [0, 1, 1] ?_; refine rf_loadR (n := 4) rfl rfl rfl UU72 rfl Kx (fun w hw => Kn.hd0 (Kn.tl hw)) rfl rfl (Nq ?_); apply rg_retM1 Rx Kx
  case hargs => exact Ax
  case h => exact fun w hw => own_any x w
  case hz => exact Nz
  intro va6 vc6 u6 hO6; simp only [qz]; refine rf_storeR (n := 2) rfl rfl Kx rfl rfl (UpdR.app _ (UpdR.here _ _ _ Nl)) Nz (Nw ?_); refine rg_nil (ek_next ?_); refine wk_draws_m (hz1 := (Sa (sc _ (sc _ (sk _ (Sa (sc _ sn) _)))) _)) [(0, 0), (1, 0), (2, 0), (3, 0), (5, 0), (4, 1), (6, 1), (7, 0), (8, 0), (9, 3), (10, 2), (11, 0)] 10 Kx Kx (fun c d v a w h => by cases d <;> exact h) ?_; simp only [List.map_cons, List.map_nil, List.getD_cons_zero, List.getD_cons_succ]
  refine Zx ?_; refine Fd 0 1 UU72 ?_; refine rf_load rfl rfl rfl UU3 rfl (fun w hw => (Kn.hd0 (Kn.tl (Kn.tlU hw))).at rfl) (Nq ?_); refine rf_loadR (n := 2) rfl rfl rfl UU28 rfl Kx (fun w hw => Kn.hd0 (Kn.tlU hw)) rfl rfl (Nq ?_); refine rf_loadR (n := 2) rfl rfl rfl UU28 rfl Kx (fun w hw => Kn.hd0 (Kn.tl (Kn.tl (Kn.tlU hw)))) rfl rfl (Nq ?_)
  apply (rg_retM1 (n := (N : Int)) (zs := itL N x)) Rx Kx
  case hargs => exact Ax
  case h => exact fun w hw => mplaced_int N (x.at_ - 1).toNat (ownN x) x.at_ (ownL x) va6 vc6 hfo.2.2.2.2 hN1 hN6 hfo.2.2.1 hfo.2.1 (Lib.hid (ownL_len x)) w (hO6.asM (hw.perm (List.Perm.refl _)))
  case hz => exact (fun _ h => by cases h; exact (Sa (sc _ (sc _ (sc _ (Sa (sc _ sn) _)))) _))
  intro va7 vc7 u7 hO7; simp only [qz]
  apply (rg_retM (n := rN N (mulM N N (itL N x) l)) (zs := rL (mulM N N (itL N x) l)) (c := rC (mulM N N (itL N x) l))) Rx Kx
  case hargs => exact Ax
  case h => exact fun w hw => by have := mul_any N N (itL N x) l va7 va vc7 vc Ox Ox w (hO7.asM (hw.perm (List.Perm.refl _))) (hd3.asM (hw.perm ((((((((((((List.Perm.refl _).cons _).trans (List.perm_middle (l₁ := u)).symm).cons _).trans (List.perm_middle (l₁ := u)).symm).cons _).trans (List.perm_middle (l₁ := u)).symm).append_left _).trans (List.perm_append_comm_assoc u6 u _)).append_left _).trans (List.perm_append_comm_assoc u7 u _)).trans ((List.Perm.refl _).append_left _)))); rw [Int.toNat_natCast] at this; exact this
  case hz => exact (fun _ h => by cases h; exact ((Sa (sc _ (sc _ (sc _ (Sa (sc _ sn) _)))) _).trans (Sr _ _)))
  intro va8 vc8 u8 hO8; refine Zx ?_; refine rf_storeRM (n := 2) rfl rfl Kx rfl rfl (UpdR.app _ (UpdR.app _ (UpdR.app _ (UpdR.there _ (UpdR.there _ (UpdR.here _ _ _ Nl)))))) (((Sa (sc _ (sc _ (sk _ (Sa (sc _ sn) _)))) _).trans (Sr _ _)).trans (Sr _ _)) (Nw ?_); refine Zx ?_; refine Zr ?_; refine Wr [0, 0] ?_; refine rf_add rfl rfl rfl rfl (wrap_ok Ox Ox) (Zx ?_); refine rg_nil ?_; refine ek_sub (Sa (((sk _ (sk _ (sc _ ((sc _ sn).trans (Sr _ _))))).trans (Sr _ _)).trans (Sr _ _)) _) ?_
  refine ek_perm ((((List.Perm.refl _).append_left _).trans (List.perm_middle (l₁ := u8))).trans ((List.Perm.refl _).cons _)) ?_; refine ek_roundF (xs.length - (i + 1)) Ox Kx ?_
  exact ⟨i + 1, mulM N N (itL N x) l, va8, vc8, u8, rfl, rfl, by rfl, by rfl, Ox, (Lib.hid (by rw [matS, hd2.out, hx.out])), hO8⟩
 simp only [qz]
 refine Zr ?_
 refine Wr [0, 0, 1, 0] ?_
 refine rf_build (cs := fun a => #[.int .i64 0, .slice none 0 0]) rfl rfl Kx (Zx ?_)
 refine rf_storeR (n := 2) rfl rfl Kx rfl rfl (UpdR.there _ (UpdR.there _ (UpdR.app _ (UpdR.here _ _ _ Nl)))) Nz (Nw ?_)
 refine Zx ?_
 refine Zr ?_
 refine ek_ret (fun w hw => ⟨rfl, _, run_results2 rfl rfl (Kn.hd0 (Kn.tlU (Kn.tl (Kn.tl hw)))) UU28 rfl Kx, ?_⟩)
 (try simp only [qz])
 cases r with
 | ok l => exact absurd rfl h2
 | error cc =>
  rw [matS_err hd2.out xs.length Ox]
  exact ⟨.slice none 0 0, [], rfl, OwnG.nil, .nil hw.below⟩
theorem matrixOf_any (n : Int) (xs : List It) (a : Option Addr) (c : Nat) (w : World) (hA : AS w a (its xs)) : Calls Tryz.prog 7 #[.int .i64 n, .slice a xs.length c] w fun e w' => RetM w (rN n.toNat (matO n xs)) (rL (matO n xs)) (rC (matO n xs)) e w' := by
 go_enter Tryz.func7, Tryz.ntmps7
 refine wk_start ?_
 refine wk_seq ?_
 refine Wr [1, 0] ?_
 refine Rgn fun g1 => ?_
 refine Zx ?_
 refine Zr ?_
 refine Wx [0, 0, 1, 0] ?_
 apply rg_pure Rx Kx
 case hargs => exact Ax
 case h => exact fun w hw => mcheck_any n xs a c w (hA.kn0 hw)
 case hz => exact Nz
 refine Zx ?_
 refine Zr ?_
 refine Wx [0, 0] ?_
 refine rfb_neq rfl rfl rfl rfl ?_
 rintro (_ | _) h1 <;> try simp only [qd, ne_eq] at h1
 ·simp only [qz]
  have hie : itemE n xs = 0 := by simpa using h1
  refine Zr ?_; refine Wx [0, 0, 1, 0, 0, 1, 0] ?_
  obtain ⟨hn1, hn6, hl5, hft⟩ := validB_all (n := n) (xs := xs) (itemE_zero hie)
  obtain ⟨N, rfl⟩ : ∃ N : Nat, n = N := ⟨n.toNat, by omega⟩
  have hmo : matO (N : Int) xs = matS N xs xs.length := by (unfold matO; rw [if_pos hie, Int.toNat_natCast])
  replace hmo := Lib.hid hmo
  apply rg_retM Rx Kx
  case hargs => exact Ax
  case h => exact fun w hw => made_items N xs a c Ox Ox hl5 hft w (hA.kn0 hw)
  case hz => exact Nz
  intro va2 vc2 u2 hO2; refine Zx ?_; refine rf_storeR (n := 2) rfl rfl Kx rfl rfl (UpdR.app _ (UpdR.here _ _ _ Nl)) Nz (Nw ?_); refine Zx ?_; refine Zr ?_; refine ek_ret (fun w hw => ⟨rfl, _, run_results2 rfl rfl (Kn.hd0 (Kn.tlU hw)) UU28 rfl Kx, ?_⟩); (try simp only [qz]); rw [hmo.out, Int.toNat_natCast]
  exact ⟨_, u2, rfl, hO2, hw.made (List.sublist_append_left _ _)⟩
 simp only [qz]
 have hie : itemE n xs ≠ 0 := by simpa using h1
 refine Zr ?_
 refine Wr [0, 0, 1, 0] ?_
 refine rf_build (cs := fun a => #[.int .i64 0, .slice none 0 0]) rfl rfl Kx (Zx ?_)
 refine rf_storeR (n := 2) rfl rfl Kx rfl rfl (UpdR.here _ _ _ Nl) Nz (Nw ?_)
 refine Zx ?_
 refine Zr ?_
 refine ek_ret (fun w hw => ⟨rfl, _, run_results2 rfl rfl (Kn.hd0 hw) UU28 rfl Kx, ?_⟩)
 (try simp only [qz])
 have hmo : matO n xs = .error (itemE n xs) := by (unfold matO; rw [if_neg hie])
 rw [hmo]
 exact ⟨.slice none 0 0, [], rfl, OwnG.nil, .nil hw.below⟩
def cplI (at_ : Int) : It := ⟨2, at_, 0, ⟨#[]⟩⟩
def phsI (at_ n : Int) : It := ⟨1, at_, n, ⟨#[]⟩⟩
def RetS (w : World) (L : List It) (cc : Int) (e : Ending) (w' : World) : Prop := ∃ v u, e = .returned (.tuple #[v, .int .i64 cc]) ∧ OwnT u v L ∧ Made w u w'
theorem OwnT.asT {B w : World} {F : List Nat} {u s : List Blk} {a : Option Addr} {n c : Nat} {xs : List It} (h : OwnT u (.slice a n c) xs) (K : Kn B F (u ++ s) w) : AS w a (its xs) := by
 obtain ⟨a', c', e, h'⟩ := Own.as h K
 cases e
 exact h'
section
variable {R : Option Nat} {ops : Array Oper} {Q : Exit → Act → World → Prop} {B : World} {F : List Nat} {s0 : Option (List Blk × List Blk)}
variable {l : List (Oper × Nat)} {a : Act} {s S : List Blk} {d : Option Tmp} {op : Op} {t : TypeId} {p : String} {af : Array Edge} {v : Value}
end
set_option maxHeartbeats 1000000
def omQ : Q4 := ⟨0, 1, 0, 0⟩
def imQ : Q4 := ⟨0, 0, 1, 0⟩
def hhQ : Q4 := ⟨0, 1 / 2, 0, -1 / 2⟩
def omP : Nat → Q4
  | 0 => 1
  | n + 1 => omQ * omP n
theorem dh_hh (x : Q4) : Q4.dh x = hhQ * x := by
 apply Q4.ext' <;> simp only [Q4.dh, hhQ, Q4.ma, Q4.mb, Q4.mc, Q4.md] <;> grind
theorem Q4.neg_neg (x : Q4) : -(-x) = x := by apply Q4.ext' <;> simp only [Q4.na, Q4.nb, Q4.nc, Q4.nd] <;> grind
theorem om_unit : Q4.conj omQ * omQ = 1 := by
 apply Q4.ext' <;> simp only [omQ, Q4.ma, Q4.mb, Q4.mc, Q4.md, Q4.ca, Q4.cb, Q4.cc, Q4.cd, Q4.oa, Q4.ob, Q4.oc, Q4.od] <;> grind
theorem mul4c (a b c d : Q4) : a * b * (c * d) = a * c * (b * d) := by
 rw [Q4.mul_assoc, ← Q4.mul_assoc b c d, Q4.mul_comm b c, Q4.mul_assoc c b d, ← Q4.mul_assoc]
theorem omP_unit : ∀ n, Q4.conj (omP n) * omP n = 1
  | 0 => by show Q4.conj 1 * 1 = 1; rw [Q4.mul_one, Q4.conj_one]
  | n + 1 => by
    show Q4.conj (omQ * omP n) * (omQ * omP n) = 1
    rw [Q4.conj_mul, mul4c, om_unit, omP_unit n, Q4.mul_one]
theorem conj_unit_mul {u x y : Q4} (h : Q4.conj u * u = 1) : Q4.conj (u * x) * (u * y) = Q4.conj x * y := by
 rw [Q4.conj_mul, mul4c, h, Q4.one_mul]
abbrev Tb := Nat → Nat → Q4
def swq (p c : Nat) : Nat := if c = p then p + 1 else if c = p + 1 then p else c
def phQ (p : Nat) (u : Q4) (m : Tb) : Tb := fun i k => if i = p then u * m i k else m i k
def crQ (p : Nat) (m : Tb) : Tb := fun i k => m (swq p i) k
def cpQ (p : Nat) (m : Tb) : Tb := fun i k => if i = p then hhQ * (m p k + imQ * m (p + 1) k) else if i = p + 1 then hhQ * (imQ * m p k + m (p + 1) k) else m i k
theorem sumQ_two {p : Nat} {f g : Nat → Q4} (h : ∀ i, i ≠ p → i ≠ p + 1 → f i = g i) (h2 : f p + f (p + 1) = g p + g (p + 1)) : ∀ n, p + 1 < n → sumQ n f = sumQ n g
  | 0, hn => absurd hn Ox
  | n + 1, hn => by
    by_cases e : n = p + 1
    · subst e
      simp only [sumQ]; rw [Q4.add_assoc, Q4.add_assoc, h2, sumQ_congr fun i hi => h i Ox Ox]
    · simp only [sumQ]; rw [sumQ_two h h2 n Ox, h n Ox Ox]
theorem ph_un {n p : Nat} {u : Q4} {m : Tb} (hu : Q4.conj u * u = 1) (h : UnC n m) : UnC n (phQ p u m) := fun i j hi hj => by
  rw [← h i j hi hj]
  refine sumQ_congr fun k _ => ?_
  unfold phQ
  split
  · exact conj_unit_mul hu
  · rfl
theorem cr_un {n p : Nat} {m : Tb} (hp : p + 1 < n) (h : UnC n m) : UnC n (crQ p m) := fun i j hi hj => by
  rw [← h i j hi hj]
  have e1 : swq p p = p + 1 := if_pos rfl
  have e2 : swq p (p + 1) = p := by unfold swq; rw [if_neg Ox, if_pos rfl]
  refine sumQ_two (p := p) (fun k h1 h2 => ?_) ?_ n hp
  · unfold crQ swq
    rw [if_neg h1, if_neg h2]
  · unfold crQ
    rw [e1, e2, Q4.add_comm]
theorem cp_norm (a b c d : Q4) : Q4.conj (hhQ * (a + imQ * b)) * (hhQ * (c + imQ * d)) + Q4.conj (hhQ * (imQ * a + b)) * (hhQ * (imQ * c + d)) = Q4.conj a * c + Q4.conj b * d := by
 have e1 : Q4.conj hhQ * hhQ = ⟨1 / 2, 0, 0, 0⟩ := by
  apply Q4.ext' <;> simp only [hhQ, Q4.ma, Q4.mb, Q4.mc, Q4.md, Q4.ca, Q4.cb, Q4.cc, Q4.cd] <;> grind
 have e2 : ∀ x y : Q4, Q4.conj (hhQ * x) * (hhQ * y) = ⟨1 / 2, 0, 0, 0⟩ * (Q4.conj x * y) := fun x y => by rw [Q4.conj_mul, mul4c, e1]
 rw [e2, e2]
 have e3 : Q4.conj imQ * imQ = 1 := by
  apply Q4.ext' <;> simp only [imQ, Q4.ma, Q4.mb, Q4.mc, Q4.md, Q4.ca, Q4.cb, Q4.cc, Q4.cd, Q4.oa, Q4.ob, Q4.oc, Q4.od] <;> grind
 have e4 : Q4.conj imQ = -imQ := by
  apply Q4.ext' <;> simp only [imQ, Q4.ca, Q4.cb, Q4.cc, Q4.cd, Q4.na, Q4.nb, Q4.nc, Q4.nd] <;> grind
 have e5 : Q4.conj (a + imQ * b) * (c + imQ * d) + Q4.conj (imQ * a + b) * (imQ * c + d) = (Q4.conj a * c + Q4.conj b * d) + (Q4.conj a * c + Q4.conj b * d) := by
  rw [Q4.conj_add, Q4.conj_add, Q4.add_mul, Q4.add_mul, Q4.mul_add, Q4.mul_add, Q4.mul_add, Q4.mul_add, conj_unit_mul e3, conj_unit_mul e3, Q4.conj_mul, Q4.conj_mul, e4]
  generalize Q4.conj a = a'
  generalize Q4.conj b = b'
  have f1 : a' * (imQ * d) = imQ * (a' * d) := by rw [← Q4.mul_assoc, Q4.mul_comm a', Q4.mul_assoc]
  have f2 : b' * (imQ * c) = imQ * (b' * c) := by rw [← Q4.mul_assoc, Q4.mul_comm b', Q4.mul_assoc]
  rw [f1, f2, Q4.neg_mul, Q4.neg_mul, Q4.neg_mul, Q4.neg_mul, Q4.mul_assoc, Q4.mul_assoc]
  generalize a' * c = x
  generalize b' * d = y
  generalize imQ * (a' * d) = s
  generalize imQ * (b' * c) = t
  apply Q4.ext' <;> simp only [Q4.aa, Q4.ab, Q4.ac, Q4.ad, Q4.na, Q4.nb, Q4.nc, Q4.nd] <;> grind
 rw [← Q4.mul_add, e5]
 generalize Q4.conj a * c + Q4.conj b * d = z
 apply Q4.ext' <;> simp only [Q4.aa, Q4.ab, Q4.ac, Q4.ad, Q4.ma, Q4.mb, Q4.mc, Q4.md] <;> grind
theorem cp_un {n p : Nat} {m : Tb} (hp : p + 1 < n) (h : UnC n m) : UnC n (cpQ p m) := fun i j hi hj => by
  rw [← h i j hi hj]; refine sumQ_two (p := p) (fun k h1 h2 => ?_) ?_ n hp
  · unfold cpQ
    rw [if_neg h1, if_neg h2, if_neg h1, if_neg h2]
  · unfold cpQ
    rw [if_pos rfl, if_pos rfl, if_neg (show ¬ p + 1 = p by omega), if_pos rfl, if_neg (show ¬ p + 1 = p by omega), if_pos rfl]
    exact cp_norm _ _ _ _
def InQ (K : Nat) (v : Q4) : Prop := ∃ z : Nm, z.k = K ∧ z.val = v
theorem InQ.up {K : Nat} {v : Q4} (h : InQ K v) : InQ (K + 1) v := by
 obtain ⟨z, hk, hv⟩ := h
 exact ⟨z.tr, by show z.k + 1 = _; omega, by rw [val_tr Ox]; exact hv⟩
theorem InQ.mono {K L : Nat} {v : Q4} (h : InQ K v) (hl : K ≤ L) : InQ L v := by
 obtain ⟨d, rfl⟩ := Nat.le.dest hl
 clear hl
 induction d with
 | zero => exact h
 | succ d ih => exact ih.up
theorem InQ.zero (K : Nat) : InQ K 0 := InQ.mono (K := 0) ⟨Nm.zero, rfl, val_zero⟩ (Nat.zero_le _)
theorem InQ.one (K : Nat) : InQ K 1 := InQ.mono (K := 0) ⟨Nm.one, rfl, val_one⟩ (Nat.zero_le _)
theorem valK (K : Nat) (z : Nm) (h : z.k = K) : z.val = Q4.dn K z.co := by unfold Nm.val; rw [h, Int.toNat_natCast]
theorem InQ.add {K : Nat} {u v : Q4} (hu : InQ K u) (hv : InQ K v) : InQ K (u + v) := by
 obtain ⟨x, hx, rfl⟩ := hu
 obtain ⟨y, hy, rfl⟩ := hv
 refine ⟨⟨x.a + y.a, x.b + y.b, x.c + y.c, x.d + y.d, K⟩, rfl, ?_⟩
 rw [valK K _ rfl, valK K x hx, valK K y hy, ← Q4.dn_add]
 congr 1
 apply Q4.ext' <;> simp only [Nm.co, Q4.aa, Q4.ab, Q4.ac, Q4.ad, Rat.intCast_add]
theorem rot_val (z : Nm) : z.rot.val = omQ * z.val := by
 have hk : z.rot.k = z.k := rfl
 unfold Nm.val
 rw [hk, Q4.mul_comm, ← Q4.dn_mul]
 congr 1
 apply Q4.ext' <;> simp only [Nm.co, Nm.rot, omQ, Q4.ma, Q4.mb, Q4.mc, Q4.md, Rat.intCast_neg] <;> grind
theorem InQ.om {K : Nat} {v : Q4} (h : InQ K v) : InQ K (omQ * v) := by
 obtain ⟨z, hk, rfl⟩ := h
 exact ⟨z.rot, hk, rot_val z⟩
theorem InQ.omn {K : Nat} {v : Q4} (h : InQ K v) : ∀ n, InQ K (omP n * v)
  | 0 => by show InQ K (1 * v); rw [Q4.one_mul]; exact h
  | n + 1 => by
    show InQ K (omQ * omP n * v)
    rw [Q4.mul_assoc]
    exact (InQ.omn h n).om
theorem om_im : omQ * omQ = imQ := by
 apply Q4.ext' <;> simp only [omQ, imQ, Q4.ma, Q4.mb, Q4.mc, Q4.md] <;> grind
theorem InQ.im {K : Nat} {v : Q4} (h : InQ K v) : InQ K (imQ * v) := by
 rw [← om_im, Q4.mul_assoc]
 exact h.om.om
theorem dn_hh : ∀ (n : Nat) (x : Q4), Q4.dn (n + 1) x = hhQ * Q4.dn n x
  | n, x => by
    show Q4.dn n (Q4.dh x) = _
    rw [dh_hh, Q4.mul_comm, Q4.dn_mul, Q4.mul_comm]
theorem val_hh (a b c d : Int) (K : Nat) : (⟨a, b, c, d, (K : Int) + 1⟩ : Nm).val = hhQ * (⟨a, b, c, d, K⟩ : Nm).val := by
 rw [valK (K + 1) ⟨a, b, c, d, (K : Int) + 1⟩ (by show (K : Int) + 1 = _; omega), valK K ⟨a, b, c, d, K⟩ rfl, dn_hh]
 rfl
theorem InQ.hh {K : Nat} {v : Q4} (h : InQ K v) : InQ (K + 1) (hhQ * v) := by
 obtain ⟨z, hk, rfl⟩ := h
 refine ⟨⟨z.a, z.b, z.c, z.d, (K : Int) + 1⟩, by show (K : Int) + 1 = _; omega, ?_⟩
 rw [val_hh, ← hk]
theorem nf_in {K : Nat} {v : Q4} (h : InQ K v) : ∃ z : Nm, z.Nf ∧ 0 ≤ z.k ∧ z.k ≤ K ∧ z.val = v := by
 obtain ⟨z, hk, rfl⟩ := h
 have h0 : 0 ≤ z.k := by omega
 have h1 := nf_k h0
 exact ⟨z.nf, nf_form z, h1.1, by omega, val_eqv h1.1 h0 (nf_eqv z)⟩
theorem nf_val {x y : Nm} (hx : x.Nf) (hx0 : 0 ≤ x.k) (hy : y.Nf) (hy0 : 0 ≤ y.k) (h : x.val = y.val) : x = y := form_unique hx hy hx0 hy0 (eqv_val hx0 hy0 h)
theorem le_in {K : Nat} {z : Nm} (hz : z.Nf) (h0 : 0 ≤ z.k) (h : InQ K z.val) : z.k ≤ K := by
 obtain ⟨x, hx, hx0, hxK, hv⟩ := nf_in h
 rw [← nf_val hx hx0 hz h0 hv]
 exact hxK
theorem in_le {K : Nat} {z : Nm} (h0 : 0 ≤ z.k) (h : z.k ≤ K) : InQ K z.val := InQ.mono (K := z.k.toNat) ⟨z, by omega, rfl⟩ Ox
set_option maxHeartbeats 1000000
def sumE (z : Nm) : Int := z.a + z.b + z.c + z.d
def kindN (z : Nm) (K : Int) : Int := if z.k < K then 0 else if sumE z % 2 = 1 then 1 else 2
def dexp (z : Nm) : Nat := if z.k ≤ 0 then 0 else if sumE z % 2 = 1 then (2 * z.k).toNat else (2 * z.k - 1).toNat
theorem dexp_le (z : Nm) {K : Int} (h : z.k ≤ K) (h0 : 0 ≤ K) : (dexp z : Int) ≤ 2 * K := by
 unfold dexp
 split
 ·omega
 ·split <;> omega
theorem nf_dexp {z : Nm} {K : Int} (h0 : 0 ≤ z.k) (hk : z.k ≤ K) : (dexp z.nf : Int) ≤ 2 * K := dexp_le _ (by have := nf_k h0; omega) Ox
theorem nf_dexp1 {z : Nm} {K : Int} (h0 : 0 ≤ z.k) (hk : z.k ≤ K) (hK : 0 < K) (he : sumE z % 2 = 0) : (dexp z.nf : Int) ≤ 2 * K - 1 := by
 by_cases hn : 0 < z.k ∧ z.even
 ·have h1 := nf_step hn.1 hn.2
  rw [h1]
  have := nf_dexp (z := z.step) (K := K - 1) (by show 0 ≤ z.k - 1; omega) (by show z.k - 1 ≤ _; omega)
  omega
 ·rw [nf_stop hn]
  unfold dexp
  rw [if_neg (show ¬ sumE z % 2 = 1 by omega)]
  split <;> omega
def AllE (z : Nm) : Prop := z.a % 2 = 0 ∧ z.b % 2 = 0 ∧ z.c % 2 = 0 ∧ z.d % 2 = 0
def AllO (z : Nm) : Prop := z.a % 2 = 1 ∧ z.b % 2 = 1 ∧ z.c % 2 = 1 ∧ z.d % 2 = 1
theorem drop_core {s : Nm} {K : Int} (hK : 0 < K) (hs : s.k = K + 1) :
    (AllE s → ∃ t : Nm, 0 ≤ t.k ∧ t.k = K - 1 ∧ t.val = s.val) ∧ (AllO s → ∃ t : Nm, t.k = K ∧ sumE t % 2 = 0 ∧ t.val = s.val) := by
  obtain ⟨a, b, c, d, k⟩ := s
  simp only at hs
  subst hs
  constructor
  · rintro ⟨h1, h2, h3, h4⟩
    simp only at h1 h2 h3 h4
    refine ⟨⟨a / 2, b / 2, c / 2, d / 2, K - 1⟩, by show 0 ≤ K - 1; omega, rfl, ?_⟩
    have e : (⟨a, b, c, d, K + 1⟩ : Nm) = (⟨a / 2, b / 2, c / 2, d / 2, K - 1⟩ : Nm).tr.tr := by
      rw [Nm.tr2]; simp only [Nm.mk.injEq]
      omega
    rw [e, val_tr (by show 0 ≤ K - 1 + 1; omega), val_tr (by show 0 ≤ K - 1; omega)]
  · rintro ⟨h1, h2, h3, h4⟩
    simp only at h1 h2 h3 h4
    refine ⟨(⟨a, b, c, d, K + 1⟩ : Nm).step, by show K + 1 - 1 = K; omega, ?_, ?_⟩
    · unfold sumE Nm.step
      simp only
      omega
    · have he : (⟨a, b, c, d, K + 1⟩ : Nm).even := ⟨by show (a + c) % 2 = 0; omega, by show (b + d) % 2 = 0; omega⟩
      rw [← val_tr (z := (⟨a, b, c, d, K + 1⟩ : Nm).step) (by show 0 ≤ K + 1 - 1; omega), Nm.tr_step he]
def wtE (z : Nm) : Int := z.a % 2 + z.b % 2 + z.c % 2 + z.d % 2
def okM (x y : Nm) : Bool := if wtE x = wtE y then decide (x.a % 2 = y.a % 2 ∧ x.b % 2 = y.b % 2 ∧ x.c % 2 = y.c % 2 ∧ x.d % 2 = y.d % 2) else decide (x.a % 2 = 1 - y.a % 2 ∧ x.b % 2 = 1 - y.b % 2 ∧ x.c % 2 = 1 - y.c % 2 ∧ x.d % 2 = 1 - y.d % 2)
def turnN (n : Nat) (z : Nm) : Nm := match n with
  | 0 => z
  | 1 => z.rot
  | 2 => z.rot.rot
  | _ => z.rot.rot.rot
def matchN (x y : Nm) : Nat := if okM x (turnN 0 y) then 0 else if okM x (turnN 1 y) then 1 else if okM x (turnN 2 y) then 2 else if okM x (turnN 3 y) then 3 else 0
theorem mod2 (a : Int) : a % 2 = 0 ∨ a % 2 = 1 := by omega
theorem neg2 (a : Int) : (-a) % 2 = a % 2 := by omega
def okF (A B C D A' B' C' D' : Fin 2) : Bool := if A.val + B.val + C.val + D.val = A'.val + B'.val + C'.val + D'.val then decide (A = A') && decide (B = B') && decide (C = C') && decide (D = D') else decide (A ≠ A') && decide (B ≠ B') && decide (C ≠ C') && decide (D ≠ D')
theorem okF_key : ∀ A B C D A' B' C' D' : Fin 2, (A.val + B.val + C.val + D.val) % 2 = (A'.val + B'.val + C'.val + D'.val) % 2 → ¬ (A = C ∧ B = D) → ¬ (A' = C' ∧ B' = D') →
    okF A B C D A' B' C' D' = true ∨ okF A B C D D' A' B' C' = true ∨ okF A B C D C' D' A' B' = true ∨ okF A B C D B' C' D' A' = true := by decide
theorem res2 (a : Int) : ∃ A : Fin 2, a % 2 = (A.val : Int) := by
 rcases mod2 a with h | h
 ·exact ⟨0, h⟩
 ·exact ⟨1, h⟩
theorem okM_F {x y : Nm} {A B C D A' B' C' D' : Fin 2} (h1 : x.a % 2 = (A.val : Int)) (h2 : x.b % 2 = (B.val : Int)) (h3 : x.c % 2 = (C.val : Int)) (h4 : x.d % 2 = (D.val : Int))
    (k1 : y.a % 2 = (A'.val : Int)) (k2 : y.b % 2 = (B'.val : Int)) (k3 : y.c % 2 = (C'.val : Int)) (k4 : y.d % 2 = (D'.val : Int)) (h : okF A B C D A' B' C' D' = true) : okM x y = true := by
  have f1 := A.isLt; have f2 := B.isLt; have f3 := C.isLt; have f4 := D.isLt
  have g1 := A'.isLt; have g2 := B'.isLt; have g3 := C'.isLt; have g4 := D'.isLt
  unfold okF at h
  unfold okM wtE
  rw [h1, h2, h3, h4, k1, k2, k3, k4]
  split at h
  · rename_i e
    simp only [Bool.and_eq_true, decide_eq_true_eq] at h
    obtain ⟨⟨⟨rfl, rfl⟩, rfl⟩, rfl⟩ := h
    rw [if_pos rfl]
    exact decide_eq_true ⟨rfl, rfl, rfl, rfl⟩
  · rename_i e
    simp only [Bool.and_eq_true, decide_eq_true_eq, ne_eq, Fin.ext_iff] at h; rw [if_neg Ox]
    exact decide_eq_true ⟨by omega, by omega, by omega, by omega⟩
theorem match_ok {x y : Nm} (h : sumE x % 2 = sumE y % 2) (hx : ¬ x.even) (hy : ¬ y.even) : okM x (turnN (matchN x y) y) = true := by
 have key : okM x (turnN 0 y) = true ∨ okM x (turnN 1 y) = true ∨ okM x (turnN 2 y) = true ∨ okM x (turnN 3 y) = true := by
  obtain ⟨A, h1⟩ := res2 x.a
  obtain ⟨B, h2⟩ := res2 x.b
  obtain ⟨C, h3⟩ := res2 x.c
  obtain ⟨D, h4⟩ := res2 x.d
  obtain ⟨A', k1⟩ := res2 y.a
  obtain ⟨B', k2⟩ := res2 y.b
  obtain ⟨C', k3⟩ := res2 y.c
  obtain ⟨D', k4⟩ := res2 y.d
  have n1 : (-y.a) % 2 = (A'.val : Int) := by rw [neg2]; exact k1
  have n2 : (-y.b) % 2 = (B'.val : Int) := by rw [neg2]; exact k2
  have n3 : (-y.c) % 2 = (C'.val : Int) := by rw [neg2]; exact k3
  have n4 : (-y.d) % 2 = (D'.val : Int) := by rw [neg2]; exact k4
  have hx' : ¬ ((x.a + x.c) % 2 = 0 ∧ (x.b + x.d) % 2 = 0) := hx
  have hy' : ¬ ((y.a + y.c) % 2 = 0 ∧ (y.b + y.d) % 2 = 0) := hy
  unfold sumE at h
  have f1 := A.isLt; have f2 := B.isLt; have f3 := C.isLt; have f4 := D.isLt
  have g1 := A'.isLt; have g2 := B'.isLt; have g3 := C'.isLt; have g4 := D'.isLt
  rcases okF_key A B C D A' B' C' D' Ox (by rw [Fin.ext_iff, Fin.ext_iff]; omega) (by rw [Fin.ext_iff, Fin.ext_iff]; omega) with e | e | e | e
  ·exact .inl (okM_F h1 h2 h3 h4 k1 k2 k3 k4 e)
  ·exact .inr (.inl (okM_F h1 h2 h3 h4 n4 k1 k2 k3 e))
  ·exact .inr (.inr (.inl (okM_F h1 h2 h3 h4 n3 n4 k1 k2 e)))
  ·exact .inr (.inr (.inr (okM_F h1 h2 h3 h4 n2 n3 n4 k1 e)))
 unfold matchN
 by_cases h0 : okM x (turnN 0 y) = true
 ·rw [if_pos h0]; exact h0
 ·rw [if_neg h0]
  by_cases h1 : okM x (turnN 1 y) = true
  ·rw [if_pos h1]; exact h1
  ·rw [if_neg h1]
   by_cases h2 : okM x (turnN 2 y) = true
   ·rw [if_pos h2]; exact h2
   ·rw [if_neg h2]
    have h3 : okM x (turnN 3 y) = true := by
     rcases key with h | h | h | h
     ·exact absurd h h0
     ·exact absurd h h1
     ·exact absurd h h2
     ·exact h
    rw [if_pos h3]; exact h3
theorem turnN_k (n : Nat) (z : Nm) : (turnN n z).k = z.k := by
 match n with
 | 0 => rfl
 | 1 => rfl
 | 2 => rfl
 | _ + 3 => rfl
theorem turnN_val {n : Nat} (h : n < 4) (z : Nm) : (turnN n z).val = omP n * z.val := by
 match n, h with
 | 0, _ => show z.val = 1 * z.val; rw [Q4.one_mul]
 | 1, _ => show z.rot.val = omQ * 1 * z.val; rw [Q4.mul_one, rot_val]
 | 2, _ => show z.rot.rot.val = omQ * (omQ * 1) * z.val; rw [Q4.mul_one, rot_val, rot_val, Q4.mul_assoc]
 | 3, _ => show z.rot.rot.rot.val = omQ * (omQ * (omQ * 1)) * z.val; rw [Q4.mul_one, rot_val, rot_val, rot_val, Q4.mul_assoc, Q4.mul_assoc]
theorem match_lt (x y : Nm) : matchN x y < 4 := by
 unfold matchN
 split
 ·omega
 ·split
  ·omega
  ·split
   ·omega
   ·split <;> omega
theorem om_back : ∀ n, n < 4 → imQ * omP ((n + 6) % 8) = omP n ∧ omP ((n + 6) % 8) = -(imQ * omP n) := by
 intro n hn
 have e2 : omP 2 = imQ := by show omQ * (omQ * 1) = _; rw [Q4.mul_one, om_im]
 have ii : imQ * imQ = -1 := by apply Q4.ext' <;> simp only [imQ, Q4.ma, Q4.mb, Q4.mc, Q4.md, Q4.na, Q4.nb, Q4.nc, Q4.nd, Q4.oa, Q4.ob, Q4.oc, Q4.od] <;> grind
 have st : ∀ n, omP (n + 2) = imQ * omP n := fun n => by show omQ * (omQ * omP n) = _; rw [← Q4.mul_assoc, om_im]
 have s6 : ∀ n, omP (n + 6) = -(imQ * omP n) := fun n => by
  rw [st (n + 4), st (n + 2), st n, ← Q4.mul_assoc imQ imQ, ii, Q4.neg_mul, Q4.one_mul]
 have s8 : ∀ n, omP (n + 8) = omP n := fun n => by
  rw [st (n + 6), s6, Q4.mul_neg, ← Q4.mul_assoc, ii, Q4.neg_mul, Q4.one_mul, Q4.neg_neg]
 have key : omP ((n + 6) % 8) = -(imQ * omP n) := by
  rcases (by omega : n < 2 ∨ (n + 6) = (n - 2) + 8 ∧ n - 2 < 8) with h | h
  ·rw [Nat.mod_eq_of_lt Ox, s6]
  ·rw [h.1, Nat.add_mod_right, Nat.mod_eq_of_lt Ox, ← s8, ← h.1, s6]
 refine ⟨?_, key⟩
 rw [key, Q4.mul_neg, ← Q4.mul_assoc, ii, Q4.neg_mul, Q4.one_mul, Q4.neg_neg]
theorem nm_valN {z : Nm} {K : Nat} (h : z.k = K) : z = ⟨z.a, z.b, z.c, z.d, K⟩ := by rw [← h]
theorem val_neg4 (a b c d : Int) (k : Int) : (⟨-a, -b, -c, -d, k⟩ : Nm).val = -(⟨a, b, c, d, k⟩ : Nm).val := val_neg ⟨a, b, c, d, k⟩
theorem val_addK (a b c d a' b' c' d' : Int) (K : Nat) : (⟨a + a', b + b', c + c', d + d', K⟩ : Nm).val = (⟨a, b, c, d, K⟩ : Nm).val + (⟨a', b', c', d', K⟩ : Nm).val := by
 rw [valK K _ rfl, valK K _ rfl, valK K _ rfl, ← Q4.dn_add]
 congr 1
 apply Q4.ext' <;> simp only [Nm.co, Q4.aa, Q4.ab, Q4.ac, Q4.ad, Rat.intCast_add]
theorem pair_drop {x y : Nm} {K : Nat} (hK : 0 < K) (hx : x.k = K) (hy : y.k = K) (fx : x.Nf) (fy : y.Nf) (hs : sumE x % 2 = sumE y % 2) :
    (∃ t : Nm, 0 ≤ t.k ∧ t.val = hhQ * (x.val + imQ * (omP ((matchN x y + 6) % 8) * y.val)) ∧ dexp t.nf + 1 ≤ dexp x ∧ t.k ≤ K) ∧
    (∃ t : Nm, 0 ≤ t.k ∧ t.val = hhQ * (imQ * x.val + omP ((matchN x y + 6) % 8) * y.val) ∧ dexp t.nf + 1 ≤ dexp x ∧ t.k ≤ K) := by
  have nx : ¬ x.even := fx.resolve_left Ox
  have ny : ¬ y.even := fy.resolve_left Ox
  have hm := match_ok hs nx ny
  obtain ⟨ob, ob2⟩ := om_back _ (match_lt x y)
  have hv := turnN_val (match_lt x y) y
  have hyk := turnN_k (matchN x y) y
  generalize turnN (matchN x y) y = y' at hm hv hyk
  generalize matchN x y = n at ob ob2 hv
  have hdx : (dexp x : Int) = if sumE x % 2 = 1 then 2 * (K : Int) else 2 * K - 1 := by
    unfold dexp
    rw [if_neg Ox, hx]
    split <;> omega
  have core : ∀ s : Nm, s.k = (K : Int) + 1 → (AllE s ∨ AllO s ∧ sumE x % 2 = 1) → ∃ t : Nm, 0 ≤ t.k ∧ t.val = s.val ∧ dexp t.nf + 1 ≤ dexp x ∧ t.k ≤ K := by
    intro s hsk h
    obtain ⟨d1, d2⟩ := drop_core (s := s) (K := K) Ox hsk
    rcases h with h | ⟨h, h1⟩
    · obtain ⟨t, t0, tk, tv⟩ := d1 h
      have := nf_dexp (z := t) (K := K - 1) t0 Ox
      refine ⟨t, t0, tv, ?_, by omega⟩
      split at hdx <;> omega
    · obtain ⟨t, tk, ts, tv⟩ := d2 h
      have := nf_dexp1 (z := t) (K := K) Ox Ox Ox ts
      refine ⟨t, by omega, tv, ?_, by omega⟩; rw [if_pos h1] at hdx
      omega
  have par : (x.a % 2 = y'.a % 2 ∧ x.b % 2 = y'.b % 2 ∧ x.c % 2 = y'.c % 2 ∧ x.d % 2 = y'.d % 2) ∨
      (x.a % 2 = 1 - y'.a % 2 ∧ x.b % 2 = 1 - y'.b % 2 ∧ x.c % 2 = 1 - y'.c % 2 ∧ x.d % 2 = 1 - y'.d % 2) ∧ sumE x % 2 = 1 := by
    unfold okM at hm
    split at hm
    · exact .inl (of_decide_eq_true hm)
    · rename_i hw
      have h1 := of_decide_eq_true hm
      refine .inr ⟨h1, ?_⟩
      unfold wtE at hw
      have nx' : ¬ ((x.a + x.c) % 2 = 0 ∧ (x.b + x.d) % 2 = 0) := nx
      obtain ⟨c1, c2, c3, c4⟩ := h1
      unfold sumE
      rcases mod2 x.a with a1 | a1 <;> rcases mod2 x.b with a2 | a2 <;> rcases mod2 x.c with a3 | a3 <;> rcases mod2 x.d with a4 | a4 <;> omega
  have ex := nm_valN hx
  have ey := nm_valN (hyk.trans hy)
  constructor
  · obtain ⟨t, t0, tv, td, tk⟩ := core ⟨x.a + y'.a, x.b + y'.b, x.c + y'.c, x.d + y'.d, (K : Int) + 1⟩ rfl (by
      rcases par with ⟨h1, h2, h3, h4⟩ | ⟨⟨h1, h2, h3, h4⟩, h5⟩
      · exact .inl ⟨by show (x.a + y'.a) % 2 = 0; omega, by show (x.b + y'.b) % 2 = 0; omega, by show (x.c + y'.c) % 2 = 0; omega, by show (x.d + y'.d) % 2 = 0; omega⟩
      · exact .inr ⟨⟨by show (x.a + y'.a) % 2 = 1; omega, by show (x.b + y'.b) % 2 = 1; omega, by show (x.c + y'.c) % 2 = 1; omega, by show (x.d + y'.d) % 2 = 1; omega⟩, h5⟩)
    refine ⟨t, t0, tv.trans ?_, td, tk⟩; rw [val_hh, val_addK, ← ex, ← ey, hv, ← Q4.mul_assoc imQ, ob]
  · obtain ⟨t, t0, tv, td, tk⟩ := core ⟨-(x.c - y'.c), -(x.d - y'.d), x.a - y'.a, x.b - y'.b, (K : Int) + 1⟩ rfl (by
      rcases par with ⟨h1, h2, h3, h4⟩ | ⟨⟨h1, h2, h3, h4⟩, h5⟩
      · exact .inl ⟨by show (-(x.c - y'.c)) % 2 = 0; omega, by show (-(x.d - y'.d)) % 2 = 0; omega, by show (x.a - y'.a) % 2 = 0; omega, by show (x.b - y'.b) % 2 = 0; omega⟩
      · exact .inr ⟨⟨by show (-(x.c - y'.c)) % 2 = 1; omega, by show (-(x.d - y'.d)) % 2 = 1; omega, by show (x.a - y'.a) % 2 = 1; omega, by show (x.b - y'.b) % 2 = 1; omega⟩, h5⟩)
    refine ⟨t, t0, tv.trans ?_, td, tk⟩
    have e1 : (⟨-(x.c - y'.c), -(x.d - y'.d), x.a - y'.a, x.b - y'.b, (K : Int)⟩ : Nm) = (⟨x.a + -y'.a, x.b + -y'.b, x.c + -y'.c, x.d + -y'.d, (K : Int)⟩ : Nm).rot.rot := by
      unfold Nm.rot
      simp only [Nm.mk.injEq]
      exact ⟨by omega, by omega, by omega, by omega, trivial⟩
    rw [val_hh, e1, rot_val, rot_val, val_addK, val_neg4, ← ex, ← ey, hv, ob2, ← Q4.mul_assoc omQ, om_im, Q4.mul_add, Q4.mul_neg, Q4.neg_mul, Q4.mul_assoc]
set_option maxHeartbeats 1000000
def sqE (z : Nm) : Int := z.a * z.a + z.b * z.b + z.c * z.c + z.d * z.d
def crE' (z : Nm) : Int := z.a * z.b + z.b * z.c + z.c * z.d - z.d * z.a
theorem sqE_tr (z : Nm) : sqE z.tr = 2 * sqE z := by unfold sqE Nm.tr; simp only; grind
theorem crE_tr (z : Nm) : crE' z.tr = 2 * crE' z := by unfold crE' Nm.tr; simp only; grind
theorem sq2 (a : Int) : a * a % 2 = a % 2 := by
 rcases mod2 a with h | h <;> rw [Int.mul_emod, h] <;> rfl
theorem sqE_mod (z : Nm) : sqE z % 2 = sumE z % 2 := by
 unfold sqE sumE
 have h1 := sq2 z.a; have h2 := sq2 z.b; have h3 := sq2 z.c; have h4 := sq2 z.d
 generalize z.a * z.a = p at *
 generalize z.b * z.b = q at *
 generalize z.c * z.c = r at *
 generalize z.d * z.d = s at *
 omega
theorem crE_eq (z : Nm) : crE' z = (z.a + z.c) * (z.b + z.d) - 2 * (z.d * z.a) := by unfold crE'; grind
theorem crE_mod1 (z : Nm) (h : sumE z % 2 = 1) : crE' z % 2 = 0 := by
 rw [crE_eq]
 have h1 : (z.a + z.c) * (z.b + z.d) % 2 = 0 := by
  unfold sumE at h
  rcases (by omega : (z.a + z.c) % 2 = 0 ∨ (z.b + z.d) % 2 = 0) with e | e
  ·rw [Int.mul_emod, e, Int.zero_mul]; rfl
  ·rw [Int.mul_emod, e, Int.mul_zero]; rfl
 generalize (z.a + z.c) * (z.b + z.d) = p at *
 generalize z.d * z.a = q at *
 omega
theorem crE_mod2 (z : Nm) (h : sumE z % 2 = 0) (he : ¬ z.even) : crE' z % 2 = 1 := by
 rw [crE_eq]
 have h1 : (z.a + z.c) * (z.b + z.d) % 2 = 1 := by
  have he' : ¬ ((z.a + z.c) % 2 = 0 ∧ (z.b + z.d) % 2 = 0) := he
  unfold sumE at h
  have e1 : (z.a + z.c) % 2 = 1 := by omega
  have e2 : (z.b + z.d) % 2 = 1 := by omega
  rw [Int.mul_emod, e1, e2]; rfl
 generalize (z.a + z.c) * (z.b + z.d) = p at *
 generalize z.d * z.a = q at *
 omega
def pwQ (v : Q4) : Q4 := Q4.conj v * v
def pcQ (p q : Rat) : Q4 := ⟨p, q, 0, -q⟩
theorem pw_val {z : Nm} {K : Nat} (h : z.k = K) : pwQ z.val = Q4.dn (K + K) (pcQ (sqE z : Int) (crE' z : Int)) := by
 unfold pwQ
 rw [valK K z h, ← Q4.dn_conj, ← Q4.dn_mul2]
 congr 1
 apply Q4.ext' <;> simp only [Nm.co, pcQ, sqE, crE', Q4.ma, Q4.mb, Q4.mc, Q4.md, Q4.ca, Q4.cb, Q4.cc, Q4.cd, Rat.intCast_add, Rat.intCast_mul, Rat.intCast_sub] <;> grind
theorem dn_two' : ∀ K : Nat, Q4.dn (K + K) (pcQ (((2 : Int) ^ K : Int) : Rat) ((0 : Int) : Rat)) = 1
  | 0 => by
    show pcQ _ _ = 1
    apply Q4.ext' <;> simp only [pcQ, Q4.oa, Q4.ob, Q4.oc, Q4.od] <;> rfl
  | K + 1 => by
    rw [show K + 1 + (K + 1) = (K + K) + 1 + 1 by omega]
    show Q4.dn (K + K) (Q4.dh (Q4.dh _)) = 1
    rw [← dn_two' K]
    congr 1
    have e : ((2 : Int) ^ (K + 1) : Int) = 2 * 2 ^ K := by rw [Int.pow_succ]; omega
    rw [e]
    apply Q4.ext' <;> simp only [Q4.dh, pcQ, Rat.intCast_mul] <;> grind
def sumI : Nat → (Nat → Int) → Int
  | 0, _ => 0
  | n + 1, f => sumI n f + f n
theorem sumI_even {f : Nat → Int} : ∀ {n : Nat}, (∀ i, i < n → f i % 2 = 0) → sumI n f % 2 = 0
  | 0, _ => rfl
  | n + 1, h => by
    have := sumI_even fun i (hi : i < n) => h i Ox
    have := h n Ox
    simp only [sumI]
    omega
theorem sumI_odd {f : Nat → Int} {a : Nat} (ha : f a % 2 = 1) : ∀ {n : Nat}, a < n → (∀ i, i < n → i ≠ a → f i % 2 = 0) → sumI n f % 2 = 1
  | 0, h, _ => absurd h Ox
  | n + 1, h, h2 => by
    simp only [sumI]
    rcases (by omega : n = a ∨ a < n) with rfl | hn
    · have := sumI_even fun i (hi : i < n) => h2 i Ox Ox
      omega
    · have := sumI_odd ha hn fun i hi => h2 i Ox
      have := h2 n Ox Ox
      omega
theorem sumI_nonneg {f : Nat → Int} : ∀ {n : Nat}, (∀ i, i < n → 0 ≤ f i) → 0 ≤ sumI n f
  | 0, _ => Int.le_refl _
  | n + 1, h => by
    have := sumI_nonneg fun i (hi : i < n) => h i Ox
    have := h n Ox
    simp only [sumI]
    omega
theorem sumI_one {f : Nat → Int} : ∀ {n : Nat}, (∀ i, i < n → 0 ≤ f i) → sumI n f = 1 → ∃ a, a < n ∧ f a = 1 ∧ ∀ i, i < n → i ≠ a → f i = 0
  | 0, _, h => by simp [sumI] at h
  | n + 1, h, h1 => by
    simp only [sumI] at h1
    have h2 := sumI_nonneg fun i (hi : i < n) => h i Ox
    have h3 := h n Ox
    rcases (by omega : f n = 1 ∧ sumI n f = 0 ∨ f n = 0 ∧ sumI n f = 1) with ⟨e1, e2⟩ | ⟨e1, e2⟩
    · refine ⟨n, by omega, e1, fun i hi hne => ?_⟩
      exact sumI_zero (fun i hi => h i Ox) e2 i Ox
    · obtain ⟨a, ha, hf, hz⟩ := sumI_one (fun i hi => h i Ox) e2
      refine ⟨a, by omega, hf, fun i hi hne => ?_⟩
      rcases (by omega : i = n ∨ i < n) with rfl | hi
      · exact e1
      · exact hz i hi hne
where
  sumI_zero {f : Nat → Int} : ∀ {n : Nat}, (∀ i, i < n → 0 ≤ f i) → sumI n f = 0 → ∀ i, i < n → f i = 0
  | 0, _, _, i, hi => absurd hi Ox
  | n + 1, h, h1, i, hi => by
    simp only [sumI] at h1
    have h2 := sumI_nonneg fun i (hi : i < n) => h i Ox
    have h3 := h n Ox
    rcases (by omega : i = n ∨ i < n) with rfl | hi
    · omega
    · exact sumI_zero (fun i hi => h i Ox) Ox i hi
theorem sum_dn (K : Nat) (p q : Nat → Int) : ∀ n, sumQ n (fun i => Q4.dn K (pcQ (p i : Int) (q i : Int))) = Q4.dn K (pcQ (sumI n p : Int) (sumI n q : Int))
  | 0 => by
    have e : pcQ ((0 : Int) : Rat) ((0 : Int) : Rat) = 0 := by apply Q4.ext' <;> simp only [pcQ, Q4.za, Q4.zb, Q4.zc, Q4.zd] <;> rfl
    show (0 : Q4) = Q4.dn K (pcQ ((0 : Int) : Rat) ((0 : Int) : Rat))
    rw [e]; clear e
    induction K with
    | zero => rfl
    | succ K ih =>
      show 0 = Q4.dn K (Q4.dh 0)
      have : Q4.dh 0 = 0 := by apply Q4.ext' <;> simp only [Q4.dh, Q4.za, Q4.zb, Q4.zc, Q4.zd] <;> grind
      rw [this]; exact ih
  | n + 1 => by
    simp only [sumQ, sumI]; rw [sum_dn K p q n, ← Q4.dn_add]
    congr 1
    apply Q4.ext' <;> simp only [pcQ, Q4.aa, Q4.ab, Q4.ac, Q4.ad, Rat.intCast_add] <;> grind
theorem col_sums {n : Nat} {z : Nat → Nm} {K : Nat} (h0 : ∀ i, i < n → 0 ≤ (z i).k ∧ (z i).k ≤ K) (h : sumQ n (fun i => pwQ (z i).val) = 1) :
    sumI n (fun i => sqE ((z i).to K)) = 2 ^ K ∧ sumI n (fun i => crE' ((z i).to K)) = 0 := by
  have e : sumQ n (fun i => pwQ (z i).val) = sumQ n (fun i => Q4.dn (K + K) (pcQ (sqE ((z i).to K) : Int) (crE' ((z i).to K) : Int))) :=
    sumQ_congr fun i hi => by rw [← to_up (m := (K : Int)) (h0 i hi).1, pw_val (Nm.to_k (h0 i hi).2)]
  rw [e, sum_dn, ← dn_two' K] at h
  have h2 := Q4.dn_inj _ h
  have h3 : ((sumI n fun i => sqE ((z i).to K) : Int) : Rat) = ((2 ^ K : Int) : Rat) := congrArg Q4.a h2
  have h4 : ((sumI n fun i => crE' ((z i).to K) : Int) : Rat) = ((0 : Int) : Rat) := congrArg Q4.b h2
  exact ⟨Rat.intCast_inj.1 h3, Rat.intCast_inj.1 h4⟩
theorem to_tr {z : Nm} {K : Nat} (h : z.k < K) : ∃ y : Nm, z.to K = y.tr := by
 unfold Nm.to
 obtain ⟨m, hm⟩ : ∃ m, ((K : Int) - z.k).toNat = m + 1 := ⟨((K : Int) - z.k).toNat - 1, by omega⟩
 rw [hm, Nm.up_succ1]
 exact ⟨_, rfl⟩
theorem to_self {z : Nm} {K : Nat} (h : z.k = K) : z.to K = z := by
 unfold Nm.to
 rw [h, Int.sub_self]; rfl
theorem kind_cases (z : Nm) (K : Int) (h : z.k ≤ K) : (kindN z K = 0 ∧ z.k < K) ∨ (kindN z K = 1 ∧ z.k = K ∧ sumE z % 2 = 1) ∨ (kindN z K = 2 ∧ z.k = K ∧ sumE z % 2 = 0) := by
 unfold kindN
 split
 ·exact .inl ⟨rfl, by assumption⟩
 ·split
  ·exact .inr (.inl ⟨rfl, by omega, by assumption⟩)
  ·exact .inr (.inr ⟨rfl, by omega, by omega⟩)
theorem ex_pair {n : Nat} {z : Nat → Nm} {K : Nat} (hK : 0 < K) (h0 : ∀ i, i < n → (z i).Nf ∧ 0 ≤ (z i).k ∧ (z i).k ≤ K) (h : sumQ n (fun i => pwQ (z i).val) = 1) {a : Nat} (ha : a < n) (hka : (z a).k = K) :
    ∃ b, b < n ∧ b ≠ a ∧ kindN (z b) K = kindN (z a) K := by
  obtain ⟨s1, s2⟩ := col_sums (K := K) (fun i hi => (h0 i hi).2) h
  refine Decidable.byContradiction fun hno => ?_
  have hno' : ∀ b, b < n → b ≠ a → kindN (z b) K ≠ kindN (z a) K := fun b hb hne he => hno ⟨b, hb, hne, he⟩
  have h2K : (2 : Int) ^ K % 2 = 0 := by
    obtain ⟨m, rfl⟩ : ∃ m, K = m + 1 := ⟨K - 1, by omega⟩
    rw [Int.pow_succ]; omega
  have hz : ∀ i, i < n → (z i).k < K → sqE ((z i).to K) % 2 = 0 ∧ crE' ((z i).to K) % 2 = 0 := fun i hi hlt => by
    obtain ⟨y, hy⟩ := to_tr hlt
    rw [hy, sqE_tr, crE_tr]
    omega
  rcases kind_cases (z a) K (h0 a ha).2.2 with ⟨_, h1⟩ | ⟨k1, -, o1⟩ | ⟨k2, -, o2⟩
  · omega
  · have := sumI_odd (f := fun i => sqE ((z i).to K)) (a := a) (by show sqE ((z a).to K) % 2 = 1; rw [to_self hka, sqE_mod]; exact o1) ha fun i hi hne => by
      show sqE ((z i).to K) % 2 = 0
      rcases kind_cases (z i) K (h0 i hi).2.2 with ⟨_, h1⟩ | ⟨k1', -, -⟩ | ⟨-, e, o⟩
      · exact (hz i hi h1).1
      · exact absurd (k1'.trans k1.symm) (hno' i hi hne)
      · rw [to_self e, sqE_mod]; exact o
    omega
  · have := sumI_odd (f := fun i => crE' ((z i).to K)) (a := a) (by show crE' ((z a).to K) % 2 = 1; rw [to_self hka]; exact crE_mod2 _ o2 ((h0 a ha).1.resolve_left Ox)) ha fun i hi hne => by
      show crE' ((z i).to K) % 2 = 0
      rcases kind_cases (z i) K (h0 i hi).2.2 with ⟨_, h1⟩ | ⟨-, e, o⟩ | ⟨k2', -, -⟩
      · exact (hz i hi h1).2
      · rw [to_self e]; exact crE_mod1 _ o
      · exact absurd (k2'.trans k2.symm) (hno' i hi hne)
    omega
theorem sq_one {a : Int} (h : a * a ≤ 1) : a = -1 ∨ a = 0 ∨ a = 1 := by
 rcases (by omega : a ≤ -2 ∨ 2 ≤ a ∨ a = -1 ∨ a = 0 ∨ a = 1) with e | e | e
 ·have h1 := Int.mul_le_mul_of_nonneg_right (a := 2) (b := -a) (c := -a) Ox Ox
  rw [show -a * -a = a * a from Int.neg_mul_neg a a] at h1
  omega
 ·have h1 := Int.mul_le_mul_of_nonneg_right (a := 2) (b := a) (c := a) Ox Ox
  omega
 ·exact e
theorem sqs (a : Int) : 0 ≤ a * a := by
 rcases Int.le_total 0 a with h | h
 ·exact Int.mul_nonneg h h
 ·rw [← Int.neg_mul_neg]; exact Int.mul_nonneg Ox Ox
theorem unit_of {z : Nm} (hk : z.k = 0) (h : sqE z = 1) : z = ⟨1, 0, 0, 0, 0⟩ ∨ z = ⟨0, 1, 0, 0, 0⟩ ∨ z = ⟨0, 0, 1, 0, 0⟩ ∨ z = ⟨0, 0, 0, 1, 0⟩ ∨ z = ⟨-1, 0, 0, 0, 0⟩ ∨ z = ⟨0, -1, 0, 0, 0⟩ ∨ z = ⟨0, 0, -1, 0, 0⟩ ∨ z = ⟨0, 0, 0, -1, 0⟩ := by
 obtain ⟨a, b, c, d, k⟩ := z
 simp only at hk
 subst hk
 have h' : a * a + b * b + c * c + d * d = 1 := h
 have ha := sqs a; have hb := sqs b; have hc := sqs c; have hd := sqs d
 rcases sq_one (a := a) Ox with rfl | rfl | rfl <;> rcases sq_one (a := b) Ox with rfl | rfl | rfl <;>
  rcases sq_one (a := c) Ox with rfl | rfl | rfl <;> rcases sq_one (a := d) Ox with rfl | rfl | rfl <;>
  first | (exfalso; omega) | simp
theorem sq_zero {z : Nm} (hk : z.k = 0) (h : sqE z = 0) : z = Nm.zero := by
 obtain ⟨a, b, c, d, k⟩ := z
 simp only at hk
 subst hk
 have h' : a * a + b * b + c * c + d * d = 0 := h
 have ha := sqs a; have hb := sqs b; have hc := sqs c; have hd := sqs d
 have key : ∀ x : Int, x * x = 0 → x = 0 := fun x hx => by rcases Int.mul_eq_zero.1 hx with h | h <;> exact h
 rw [key a Ox, key b Ox, key c Ox, key d Ox]; rfl
theorem col_unit {n : Nat} {z : Nat → Nm} (h0 : ∀ i, i < n → (z i).k = 0) (h : sumQ n (fun i => pwQ (z i).val) = 1) :
    ∃ a, a < n ∧ sqE (z a) = 1 ∧ ∀ i, i < n → i ≠ a → z i = Nm.zero := by
  obtain ⟨s1, -⟩ := col_sums (K := 0) (fun i hi => by have := h0 i hi; omega) h
  have s1' : sumI n (fun i => sqE ((z i).to (0 : Nat))) = 1 := s1
  obtain ⟨a, ha, h1, h2⟩ := sumI_one (fun i hi => by show 0 ≤ sqE ((z i).to (0 : Nat)); unfold sqE; have := sqs ((z i).to (0 : Nat)).a; have := sqs ((z i).to (0 : Nat)).b; have := sqs ((z i).to (0 : Nat)).c; have := sqs ((z i).to (0 : Nat)).d; omega) s1'
  refine ⟨a, ha, by rw [← h1, to_self (h0 a ha)], fun i hi hne => ?_⟩
  have := h2 i hi hne
  rw [to_self (h0 i hi)] at this
  exact sq_zero (h0 i hi) this
theorem dn_a : ∀ (K : Nat) (x : Q4), (Q4.dn (K + K) x).a * ((2 : Int) ^ K : Int) = x.a
  | 0, x => by show x.a * ((1 : Int) : Rat) = x.a; grind
  | K + 1, x => by
    rw [show K + 1 + (K + 1) = (K + K) + 1 + 1 by omega]
    show (Q4.dn (K + K) (Q4.dh (Q4.dh x))).a * _ = _
    have e : ((2 : Int) ^ (K + 1) : Int) = 2 ^ K * 2 := Int.pow_succ ..
    rw [e, Rat.intCast_mul, ← Rat.mul_assoc, dn_a K]; simp only [Q4.dh]
    grind
theorem sq_big {a B : Int} (hB : 0 ≤ B) (h : a * a ≤ B * B) : -B ≤ a ∧ a ≤ B := by
 have key : ∀ x : Int, B + 1 ≤ x → x * x ≤ B * B → False := fun x hx h => by
  have h1 := Int.mul_le_mul hx hx Ox Ox
  have h2 : (B + 1) * (B + 1) = B * B + 2 * B + 1 := by grind
  omega
 constructor
 ·refine Decidable.byContradiction fun hn => key (-a) Ox (by rw [Int.neg_mul_neg]; exact h)
 ·exact Decidable.byContradiction fun hn => key a Ox h
theorem fit_pw {z : Nm} (h0 : 0 ≤ z.k) (h1 : z.k ≤ 40) (h : (pwQ z.val).a ≤ 2) : z.Fit 1000000000 := by
 obtain ⟨K, hK⟩ : ∃ K : Nat, z.k = K := ⟨z.k.toNat, by omega⟩
 rw [pw_val hK] at h
 have e := dn_a K (pcQ (sqE z : Int) (crE' z : Int))
 generalize (Q4.dn (K + K) (pcQ (sqE z : Int) (crE' z : Int))).a = r at *
 have e' : r * ((2 : Int) ^ K : Int) = (sqE z : Rat) := e
 have h2 : (0 : Rat) ≤ (((2 : Int) ^ K : Int) : Rat) := by exact_mod_cast (Int.pow_nonneg Ox : (0 : Int) ≤ 2 ^ K)
 have h3 : (sqE z : Rat) ≤ 2 * (((2 : Int) ^ K : Int) : Rat) := by rw [← e']; exact Rat.mul_le_mul_of_nonneg_right h h2
 have h4 : sqE z ≤ 2 * 2 ^ K := by exact_mod_cast h3
 have h5 : (2 : Int) ^ K ≤ 2 ^ 40 := by exact_mod_cast (Nat.pow_le_pow_right Ox Ox : (2 : Nat) ^ K ≤ 2 ^ 40)
 have h6 : (2 : Int) ^ 40 = 1099511627776 := by decide
 have h7 : sqE z ≤ 1000000000 * 1000000000 := by omega
 unfold sqE at h7
 have ha := sqs z.a; have hb := sqs z.b; have hc := sqs z.c; have hd := sqs z.d
 have := sq_big (a := z.a) (B := 1000000000) Ox Ox
 have := sq_big (a := z.b) (B := 1000000000) Ox Ox
 have := sq_big (a := z.c) (B := 1000000000) Ox Ox
 have := sq_big (a := z.d) (B := 1000000000) Ox Ox
 constructor <;> omega
theorem pw_a (v : Q4) : 0 ≤ (pwQ v).a := by
 unfold pwQ; rw [Q4.mul_comm]; exact Q4.norm_nonneg v
theorem sumQ_le {f : Nat → Q4} : ∀ {n : Nat}, (∀ i, i < n → 0 ≤ (f i).a) → ∀ {j : Nat}, j < n → (f j).a ≤ (sumQ n f).a
  | 0, _, _, h => absurd h Ox
  | n + 1, h, j, hj => by
    simp only [sumQ, Q4.aa]
    have h1 := h n Ox
    have h2 := sumQ_a_nonneg fun i (hi : i < n) => h i Ox
    rcases (by omega : j = n ∨ j < n) with rfl | hj
    · grind
    · have := sumQ_le (fun i hi => h i Ox) hj
      grind
theorem un_pw {n : Nat} {m : Tb} (h : UnC n m) {i k : Nat} (hi : i < n) (hk : k < n) : (pwQ (m i k)).a ≤ 1 := by
 have h1 := h k k hk hk
 have e : dl k k = 1 := if_pos rfl
 rw [e] at h1
 have := sumQ_le (n := n) (f := fun j => pwQ (m j k)) (fun j _ => pw_a _) hi
 have h2 : (sumQ n fun j => pwQ (m j k)).a = 1 := by
  have : (sumQ n fun j => pwQ (m j k)) = 1 := h1
  rw [this]; rfl
 rw [h2] at this
 exact this
theorem un_col {n : Nat} {m : Tb} (h : UnC n m) {k : Nat} (hk : k < n) : sumQ n (fun i => pwQ (m i k)) = 1 := by
 have h1 := h k k hk hk
 have e : dl k k = 1 := if_pos rfl
 rw [e] at h1
 exact h1
theorem pw_mul (u v : Q4) : pwQ (u * v) = pwQ u * pwQ v := by
 unfold pwQ
 rw [Q4.conj_mul, mul4c]
theorem pw_conj (u : Q4) : pwQ (Q4.conj u) = pwQ u := by unfold pwQ; rw [Q4.conj_conj, Q4.mul_comm]
theorem pw_neg (u : Q4) : pwQ (-u) = pwQ u := by unfold pwQ; rw [Q4.conj_neg, Q4.neg_mul, Q4.mul_neg, Q4.neg_neg]
theorem two_pw {p s q t : Q4} (h1 : pwQ p + pwQ s = 1) (h2 : pwQ q + pwQ t = 1) (h3 : Q4.conj p * q + Q4.conj s * t = 0) : pwQ p = pwQ t ∧ pwQ q = pwQ s := by
 have e1 : Q4.conj p * q = -(Q4.conj s * t) := by
  have : Q4.conj p * q + Q4.conj s * t + -(Q4.conj s * t) = 0 + -(Q4.conj s * t) := congrArg (fun x => x + -(Q4.conj s * t)) h3
  rw [Q4.add_assoc, Q4.add_neg, Q4.add_zero, Q4.zero_add] at this
  exact this
 have e2 : pwQ p * pwQ q = pwQ s * pwQ t := by
  have := congrArg pwQ e1
  rw [pw_neg, pw_mul, pw_mul, pw_conj, pw_conj] at this
  exact this
 have e3 : pwQ q = 1 + -pwQ t := by rw [← h2, Q4.add_assoc, Q4.add_neg, Q4.add_zero]
 have e4 : pwQ s = 1 + -pwQ p := by rw [← h1, Q4.add_comm (pwQ p), Q4.add_assoc, Q4.add_neg, Q4.add_zero]
 rw [e3, e4, Q4.mul_add, Q4.mul_one, Q4.add_mul, Q4.one_mul, Q4.mul_neg, Q4.neg_mul] at e2
 have e5 : pwQ p = pwQ t := by
  have h5 : pwQ p + -(pwQ p * pwQ t) + pwQ p * pwQ t = pwQ t + -(pwQ p * pwQ t) + pwQ p * pwQ t := congrArg (fun x => x + pwQ p * pwQ t) e2
  rw [Q4.add_assoc, Q4.add_assoc, Q4.add_comm (-(pwQ p * pwQ t)), Q4.add_neg, Q4.add_zero, Q4.add_zero] at h5
  exact h5
 exact ⟨e5, by rw [e3, e4, e5]⟩
theorem pw_kle {x y : Nm} (hx : x.Nf) (hx0 : 0 ≤ x.k) (hy : y.Nf) (hy0 : 0 ≤ y.k) (h : pwQ x.val = pwQ y.val) : x.k ≤ y.k := by
 refine Decidable.byContradiction fun hn => ?_
 obtain ⟨K, hK⟩ : ∃ K : Nat, x.k = K := ⟨x.k.toNat, by omega⟩
 obtain ⟨w, hw⟩ := to_tr (z := y) (K := K) Ox
 have e := pw_val hK
 rw [h, ← to_up (m := (K : Int)) hy0, pw_val (Nm.to_k Ox), hw, sqE_tr, crE_tr] at e
 have e1 := Q4.dn_inj _ e
 have e2 : (2 * sqE w : Int) = sqE x := Rat.intCast_inj.1 (congrArg Q4.a e1 : ((2 * sqE w : Int) : Rat) = ((sqE x : Int) : Rat))
 have e3 : (2 * crE' w : Int) = crE' x := Rat.intCast_inj.1 (congrArg Q4.b e1 : ((2 * crE' w : Int) : Rat) = ((crE' x : Int) : Rat))
 have ne : ¬ x.even := hx.resolve_left Ox
 have m1 := sqE_mod x
 rcases mod2 (sumE x) with h0 | h1
 ·have := crE_mod2 x h0 ne
  omega
 ·omega
end Go.Proofs.YthjjkajjpejcdaaGreat
