/- Texts in one: Mx1, Mx2, Ws4, Mt1, Mt2a, VaPl, AlPl. -/
import Derived.Test.YtccbinnlnkpplaaGreatLProgramsB
namespace Go.Proofs.YtccbinnlnkpplaaGreat
set_option linter.all false
set_option maxRecDepth 100000
set_option maxHeartbeats 1000000
open Go.RowKit
def allOk (xs : List Nm) : Bool := xs.all Nm.okB
def validB (n : Int) (xs : List Nm) : Bool := decide (1 ≤ n) && (decide (n ≤ 6) && (decide ((xs.length : Int) = n * n) && allOk xs))
theorem allOk_false {xs : List Nm} {k : Nat} (hk : k < xs.length) (h : (nm xs k).okB = false) : allOk xs = false := by
  unfold allOk
  rw [List.all_eq_false]
  exact ⟨nm xs k, NmE.at_mem hk, by rw [h]; decide⟩
theorem allOk_true {xs : List Nm} (h : ∀ k, k < xs.length → (nm xs k).okB = true) : allOk xs = true := by
  unfold allOk
  rw [List.all_eq_true]; intro z hz
  obtain ⟨k, hk, rfl⟩ := List.getElem_of_mem hz
  have := h k hk
  unfold nm El.at at this
  rwa [List.getD_eq_getElem?_getD, List.getElem?_eq_getElem hk] at this
theorem ok_at {xs : List Nm} (h : allOk xs = true) {k : Nat} (hk : k < xs.length) : (nm xs k).Ok := okB_iff.1 (List.all_eq_true.1 h _ (NmE.at_mem hk))
def evB (z : Nm) : Bool := decide ((z.a + z.c) % 2 = 0) && decide ((z.b + z.d) % 2 = 0)
theorem okB_alt (z : Nm) : z.okB = (decide (-1000000000 ≤ z.a ∧ z.a ≤ 1000000000 ∧ -1000000000 ≤ z.b ∧ z.b ≤ 1000000000 ∧ -1000000000 ≤ z.c ∧ z.c ≤ 1000000000 ∧ -1000000000 ≤ z.d ∧ z.d ≤ 1000000000) && (decide (0 ≤ z.k) && (decide (z.k ≤ 40) && (decide (z.k = 0) || !evB z)))) := by
  rw [Bool.eq_iff_iff, okB_iff]; simp only [evB, Bool.and_eq_true, Bool.or_eq_true, decide_eq_true_eq, Bool.not_eq_true', Bool.and_eq_false_iff, decide_eq_false_iff_not]
  constructor
  · rintro ⟨⟨h1, h2, h3, h4, h5, h6, h7, h8⟩, h9, h10, h11⟩
    refine ⟨⟨h1, h2, h3, h4, h5, h6, h7, h8⟩, h9, h10, ?_⟩; simp only [Nm.even] at h11
    omega
  rintro ⟨⟨h1, h2, h3, h4, h5, h6, h7, h8⟩, h9, h10, h11⟩
  refine ⟨⟨h1, h2, h3, h4, h5, h6, h7, h8⟩, h9, h10, ?_⟩; simp only [Nm.even]
  omega
abbrev rngP (z : Nm) : Prop := -1000000000 ≤ z.a ∧ z.a ≤ 1000000000 ∧ -1000000000 ≤ z.b ∧ z.b ≤ 1000000000 ∧ -1000000000 ≤ z.c ∧ z.c ≤ 1000000000 ∧ -1000000000 ≤ z.d ∧ z.d ≤ 1000000000
theorem okB_rest {z : Nm} (h : rngP z) (h0 : 0 ≤ z.k) (h1 : z.k ≤ 40) : z.okB = (decide (z.k = 0) || !evB z) := by
  rw [okB_alt, decide_eq_true h, decide_eq_true h0, decide_eq_true h1]; rfl
theorem okB_no {z : Nm} (h : ¬ (rngP z ∧ 0 ≤ z.k ∧ z.k ≤ 40)) : z.okB = false := by
  rw [okB_alt]
  by_cases h1 : rngP z
  · by_cases h2 : 0 ≤ z.k
    · rw [decide_eq_false (p := z.k ≤ 40) (fun h3 => h ⟨h1, h2, h3⟩)]; simp
    rw [decide_eq_false h2]; simp
  rw [decide_eq_false h1]; rfl
theorem tmod2 (n : Int) : n.tmod 2 = 0 ↔ n % 2 = 0 := by
 rcases Int.le_total 0 n with h | h
 ·rw [Int.tmod_eq_emod_of_nonneg h]
 have e := Int.neg_tmod (-n) 2
 rw [Int.neg_neg, Int.tmod_eq_emod_of_nonneg (show 0 ≤ -n by omega)] at e
 omega
theorem rValidNum_any (z : Nm) (w : World) : Calls Tryz.prog 44 #[nmV z] w fun e w' => e = .returned (.bool z.okB) ∧ Below w.heap.size w w' := by
 go_enter Tryz.func44, Tryz.ntmps44
 refine wk_start ?_
 refine wk_seq ?_
 refine wk_region [1, 0] rfl Kx ?_
 simp only [qy]
 refine Rgn fun g1 => ?_
 refine Zm ?_
 refine rg_nil (ek_next (wk_seq (wk_seq ?_)))
 refine wk_region [0] rfl Kx ?_
 refine Zm ?_
 refine rg_nil (ek_next (wk_block ?_))
 refine wk_unroll 4 ?_
 refine wk_seq (wk_seq ?_)
 refine wk_region [0, 0] rfl Kx ?_
 refine Zm ?_
 refine rf_lss (b := true) rfl rfl rfl rfl (by decide) ?_
 simp only [qz]
 refine rg_nil (ek_next (wk_cond_t rfl (wk_skip (ek_next (wk_seq (wk_block (wk_seq ?_)))))))
 refine wk_region [0, 0, 0, 0, 0, 0, 0, 0, 0, 0, 0, 0] rfl Kx ?_
 refine Zm ?_
 refine rf_field (n := 3) (j := 0) rfl rfl rfl Tryz.underlying55 rfl Kx rfl ?_
 simp only [qz]
 refine rf_indexA (n := 0) (sz := 1) (j := 0) rfl rfl rfl rfl Tryz.underlying53 Kx (by decide) rfl ?_
 simp only [qz]
 refine rf_load rfl rfl rfl Tryz.underlying3 rfl (fun w hw => (Kn.hd0 hw).at rfl) ?_
 simp only [qz]
 refine rfb_lss rfl rfl rfl rfl ?_
 intro x h1
 cases x
 ·(try simp only [qd, ne_eq] at h1)
  refine Zm ?_; apply rg_soft_g
  case hg => rfl
  case hy => (intro w hw; go_simp; (try go_bits); exact Yld.mk _ _)
  simp only [qz]; refine rf_field (n := 3) (j := 0) rfl rfl rfl Tryz.underlying55 rfl Kx rfl ?_; simp only [qz]; refine rf_indexA (n := 0) (sz := 1) (j := 0) rfl rfl rfl rfl Tryz.underlying53 Kx (by decide) rfl ?_; simp only [qz]; refine rf_load rfl rfl rfl Tryz.underlying3 rfl (fun w hw => (Kn.hd0 hw).at rfl) ?_; simp only [qz]; refine rfb_gtr rfl rfl rfl rfl ?_; intro x h2; cases x
  ·(try simp only [qd, ne_eq] at h2)
   simp only [qz]; refine rf_pick rfl rfl rfl ?_; simp only [qz]; refine rg_nil (ek_next (wk_cond_f rfl (wk_skip (ek_block (ek_next ?_))))); refine wk_region [0, 0, 0] rfl Kx ?_; refine Zm ?_; refine rf_add (r := 1) rfl rfl rfl rfl (by decide) ?_; refine Zm ?_; refine rg_nil (ek_again (wk_seq (wk_seq ?_))); refine wk_region [0, 0] rfl Kx ?_; refine Zm ?_; refine rf_lss (b := true) rfl rfl rfl rfl (by decide) ?_; simp only [qz]
   refine rg_nil (ek_next (wk_cond_t rfl (wk_skip (ek_next (wk_seq (wk_block (wk_seq ?_))))))); refine wk_region [0, 0, 0, 0, 0, 0, 0, 0, 0, 0, 0, 0] rfl Kx ?_; refine Zm ?_; refine rf_field (n := 3) (j := 0) rfl rfl rfl Tryz.underlying55 rfl Kx rfl ?_; simp only [qz]; refine rf_indexA (n := 1) (sz := 1) (j := 1) rfl rfl rfl rfl Tryz.underlying53 Kx (by decide) rfl ?_; simp only [qz]; refine rf_load rfl rfl rfl Tryz.underlying3 rfl (fun w hw => (Kn.hd0 hw).at rfl) ?_
   simp only [qz]; refine rfb_lss rfl rfl rfl rfl ?_; intro x h3; cases x
   ·(try simp only [qd, ne_eq] at h3)
    refine Zm ?_; apply rg_soft_g
    case hg => rfl
    case hy => (intro w hw; go_simp; (try go_bits); exact Yld.mk _ _)
    simp only [qz]; refine rf_field (n := 3) (j := 0) rfl rfl rfl Tryz.underlying55 rfl Kx rfl ?_; simp only [qz]; refine rf_indexA (n := 1) (sz := 1) (j := 1) rfl rfl rfl rfl Tryz.underlying53 Kx (by decide) rfl ?_; simp only [qz]; refine rf_load rfl rfl rfl Tryz.underlying3 rfl (fun w hw => (Kn.hd0 hw).at rfl) ?_; simp only [qz]; refine rfb_gtr rfl rfl rfl rfl ?_; intro x h4; cases x
    ·(try simp only [qd, ne_eq] at h4)
     simp only [qz]; refine rf_pick rfl rfl rfl ?_; simp only [qz]; refine rg_nil (ek_next (wk_cond_f rfl (wk_skip (ek_block (ek_next ?_))))); refine wk_region [0, 0, 0] rfl Kx ?_; refine Zm ?_; refine rf_add (r := 2) rfl rfl rfl rfl (by decide) ?_; refine Zm ?_; refine rg_nil (ek_again (wk_seq (wk_seq ?_))); refine wk_region [0, 0] rfl Kx ?_; refine Zm ?_; refine rf_lss (b := true) rfl rfl rfl rfl (by decide) ?_; simp only [qz]
     refine rg_nil (ek_next (wk_cond_t rfl (wk_skip (ek_next (wk_seq (wk_block (wk_seq ?_))))))); refine wk_region [0, 0, 0, 0, 0, 0, 0, 0, 0, 0, 0, 0] rfl Kx ?_; refine Zm ?_; refine rf_field (n := 3) (j := 0) rfl rfl rfl Tryz.underlying55 rfl Kx rfl ?_; simp only [qz]; refine rf_indexA (n := 2) (sz := 1) (j := 2) rfl rfl rfl rfl Tryz.underlying53 Kx (by decide) rfl ?_; simp only [qz]; refine rf_load rfl rfl rfl Tryz.underlying3 rfl (fun w hw => (Kn.hd0 hw).at rfl) ?_
     simp only [qz]; refine rfb_lss rfl rfl rfl rfl ?_; intro x h5; cases x
     ·(try simp only [qd, ne_eq] at h5)
      refine Zm ?_; apply rg_soft_g
      case hg => rfl
      case hy => (intro w hw; go_simp; (try go_bits); exact Yld.mk _ _)
      simp only [qz]; refine rf_field (n := 3) (j := 0) rfl rfl rfl Tryz.underlying55 rfl Kx rfl ?_; simp only [qz]; refine rf_indexA (n := 2) (sz := 1) (j := 2) rfl rfl rfl rfl Tryz.underlying53 Kx (by decide) rfl ?_; simp only [qz]; refine rf_load rfl rfl rfl Tryz.underlying3 rfl (fun w hw => (Kn.hd0 hw).at rfl) ?_; simp only [qz]; refine rfb_gtr rfl rfl rfl rfl ?_; intro x h6; cases x
      ·(try simp only [qd, ne_eq] at h6)
       simp only [qz]; refine rf_pick rfl rfl rfl ?_; simp only [qz]; refine rg_nil (ek_next (wk_cond_f rfl (wk_skip (ek_block (ek_next ?_))))); refine wk_region [0, 0, 0] rfl Kx ?_; refine Zm ?_; refine rf_add (r := 3) rfl rfl rfl rfl (by decide) ?_; refine Zm ?_; refine rg_nil (ek_again (wk_seq (wk_seq ?_))); refine wk_region [0, 0] rfl Kx ?_; refine Zm ?_; refine rf_lss (b := true) rfl rfl rfl rfl (by decide) ?_; simp only [qz]
       refine rg_nil (ek_next (wk_cond_t rfl (wk_skip (ek_next (wk_seq (wk_block (wk_seq ?_))))))); refine wk_region [0, 0, 0, 0, 0, 0, 0, 0, 0, 0, 0, 0] rfl Kx ?_; refine Zm ?_; refine rf_field (n := 3) (j := 0) rfl rfl rfl Tryz.underlying55 rfl Kx rfl ?_; simp only [qz]; refine rf_indexA (n := 3) (sz := 1) (j := 3) rfl rfl rfl rfl Tryz.underlying53 Kx (by decide) rfl ?_; simp only [qz]; refine rf_load rfl rfl rfl Tryz.underlying3 rfl (fun w hw => (Kn.hd0 hw).at rfl) ?_
       simp only [qz]; refine rfb_lss rfl rfl rfl rfl ?_; intro x h7; cases x
       ·(try simp only [qd, ne_eq] at h7)
        refine Zm ?_; apply rg_soft_g
        case hg => rfl
        case hy => (intro w hw; go_simp; (try go_bits); exact Yld.mk _ _)
        simp only [qz]; refine rf_field (n := 3) (j := 0) rfl rfl rfl Tryz.underlying55 rfl Kx rfl ?_; simp only [qz]; refine rf_indexA (n := 3) (sz := 1) (j := 3) rfl rfl rfl rfl Tryz.underlying53 Kx (by decide) rfl ?_; simp only [qz]; refine rf_load rfl rfl rfl Tryz.underlying3 rfl (fun w hw => (Kn.hd0 hw).at rfl) ?_; simp only [qz]; refine rfb_gtr rfl rfl rfl rfl ?_; intro x h8; cases x
        ·(try simp only [qd, ne_eq] at h8)
         simp only [qz]; refine rf_pick rfl rfl rfl ?_; simp only [qz]; refine rg_nil (ek_next (wk_cond_f rfl (wk_skip (ek_block (ek_next ?_))))); refine wk_region [0, 0, 0] rfl Kx ?_; refine Zm ?_; refine rf_add (r := 4) rfl rfl rfl rfl (by decide) ?_; refine Zm ?_; refine rg_nil (ek_again (wk_seq (wk_seq ?_))); refine wk_region [0, 0] rfl Kx ?_; refine Zm ?_; refine rf_lss (b := false) rfl rfl rfl rfl (by decide) ?_; simp only [qz]
         refine rg_nil (ek_next (wk_cond_f rfl (wk_exit (ek_then_exit (ek_then_exit (ek_block_exit (ek_next (wk_seq (wk_seq ?_))))))))); refine wk_region [0, 0, 0, 0, 0, 0, 0, 0] rfl Kx ?_; simp only [qy]; refine rf_field (n := 0) (j := 4) rfl rfl rfl Tryz.underlying55 rfl Kx rfl ?_; simp only [qz]; refine rf_load rfl rfl rfl Tryz.underlying3 rfl (fun w hw => (Kn.hd0 hw).at rfl) ?_; simp only [qz]; refine rfb_lss rfl rfl rfl rfl ?_
         intro x h9; cases x
         ·(try simp only [qd, ne_eq] at h9)
          refine Zm ?_; refine rf_field (n := 0) (j := 4) rfl rfl rfl Tryz.underlying55 rfl Kx rfl ?_; simp only [qz]; refine rf_load rfl rfl rfl Tryz.underlying3 rfl (fun w hw => (Kn.hd0 hw).at rfl) ?_; simp only [qz]; refine rfb_gtr rfl rfl rfl rfl ?_; intro x h10; cases x
          ·(try simp only [qd, ne_eq] at h10)
           simp only [qz]; refine rf_pick rfl rfl rfl ?_; simp only [qz]; refine rg_nil (ek_next (wk_cond_f rfl (wk_skip (ek_next (wk_seq ?_))))); refine wk_region [0, 0, 0, 0, 0, 0, 0, 0, 0, 0, 0, 0, 0, 0, 0, 0, 0, 0, 0, 0, 0, 0, 0, 0, 0, 0] rfl Kx ?_; simp only [qy]; refine rf_field (n := 0) (j := 4) rfl rfl rfl Tryz.underlying55 rfl Kx rfl ?_; simp only [qz]; refine rf_load rfl rfl rfl Tryz.underlying3 rfl (fun w hw => (Kn.hd0 hw).at rfl) ?_
           simp only [qz]; refine rfb_eql rfl rfl rfl rfl ?_; intro x h11; cases x
           ·(try simp only [qd, ne_eq] at h11)
            refine Zm ?_; refine rf_field (n := 3) (j := 0) rfl rfl rfl Tryz.underlying55 rfl Kx rfl ?_; simp only [qz]; refine rf_indexA (n := 0) (sz := 1) (j := 0) rfl rfl rfl rfl Tryz.underlying53 Kx (by decide) rfl ?_; simp only [qz]; refine rf_load rfl rfl rfl Tryz.underlying3 rfl (fun w hw => (Kn.hd0 hw).at rfl) ?_; simp only [qz]; refine rf_field (n := 3) (j := 0) rfl rfl rfl Tryz.underlying55 rfl Kx rfl ?_; simp only [qz]
            refine rf_indexA (n := 2) (sz := 1) (j := 2) rfl rfl rfl rfl Tryz.underlying53 Kx (by decide) rfl ?_; simp only [qz]; refine rf_load rfl rfl rfl Tryz.underlying3 rfl (fun w hw => (Kn.hd0 hw).at rfl) ?_; simp only [qz]; refine rf_add rfl rfl rfl rfl (wrap_ok Ox Ox) ?_; simp only [qz]; refine rf_rem (r := (z.a + z.c).tmod 2) rfl rfl rfl rfl (by decide) rfl ?_; simp only [qz]; refine rfb_neq rfl rfl rfl rfl ?_; intro x h12
            cases x
            ·(try simp only [qd, ne_eq] at h12)
             simp only [qz]; refine rf_pick rfl rfl rfl ?_; refine Zm ?_; refine rf_field (n := 3) (j := 0) rfl rfl rfl Tryz.underlying55 rfl Kx rfl ?_; simp only [qz]; refine rf_indexA (n := 1) (sz := 1) (j := 1) rfl rfl rfl rfl Tryz.underlying53 Kx (by decide) rfl ?_; simp only [qz]; refine rf_load rfl rfl rfl Tryz.underlying3 rfl (fun w hw => (Kn.hd0 hw).at rfl) ?_; simp only [qz]; refine rf_field (n := 3) (j := 0) rfl rfl rfl Tryz.underlying55 rfl Kx rfl ?_
             simp only [qz]; refine rf_indexA (n := 3) (sz := 1) (j := 3) rfl rfl rfl rfl Tryz.underlying53 Kx (by decide) rfl ?_; simp only [qz]; refine rf_load rfl rfl rfl Tryz.underlying3 rfl (fun w hw => (Kn.hd0 hw).at rfl) ?_; simp only [qz]; refine rf_add rfl rfl rfl rfl (wrap_ok Ox Ox) ?_; simp only [qz]; refine rf_rem (r := (z.b + z.d).tmod 2) rfl rfl rfl rfl (by decide) rfl ?_; simp only [qz]; refine rf_neq rfl rfl rfl rfl rfl ?_
             simp only [qz]; refine rf_pick rfl rfl rfl ?_; refine Zm ?_; refine rg_nil (ek_next (wk_ret ?_)); refine ek_ret (fun w hw => ⟨rfl, _, res_t _ rfl, ?_⟩); (try simp only [qz])
             exact ⟨by first | rw [okB_no Ox] | (rw [okB_rest Ox Ox Ox]; unfold evB; (try simp only [ne_eq, tmod2] at *); by_cases hA : (z.a + z.c) % 2 = 0 <;> by_cases hB : (z.b + z.d) % 2 = 0 <;> simp_all [tmod2]), hw.below⟩
            (try simp only [qd, ne_eq] at h12); simp only [qz]; refine rf_pick rfl rfl rfl ?_; refine Zm ?_; refine rf_pick rfl rfl rfl ?_; refine Zm ?_; refine rg_nil (ek_next (wk_ret ?_)); refine ek_ret (fun w hw => ⟨rfl, _, res_t _ rfl, ?_⟩); (try simp only [qz])
            exact ⟨by first | rw [okB_no Ox] | (rw [okB_rest Ox Ox Ox]; unfold evB; (try simp only [ne_eq, tmod2] at *); by_cases hA : (z.a + z.c) % 2 = 0 <;> by_cases hB : (z.b + z.d) % 2 = 0 <;> simp_all [tmod2]), hw.below⟩
           (try simp only [qd, ne_eq] at h11); refine Zm ?_; refine rf_pick rfl rfl rfl ?_; refine Zm ?_; refine rf_pick rfl rfl rfl ?_; refine Zm ?_; refine rg_nil (ek_next (wk_ret ?_)); refine ek_ret (fun w hw => ⟨rfl, _, res_t _ rfl, ?_⟩); (try simp only [qz])
           exact ⟨by first | rw [okB_no Ox] | (rw [okB_rest Ox Ox Ox]; unfold evB; (try simp only [ne_eq, tmod2] at *); by_cases hA : (z.a + z.c) % 2 = 0 <;> by_cases hB : (z.b + z.d) % 2 = 0 <;> simp_all [tmod2]), hw.below⟩
          (try simp only [qd, ne_eq] at h10); simp only [qz]; refine rf_pick rfl rfl rfl ?_; simp only [qz]; refine rg_nil (ek_next (wk_cond_t rfl (wk_seq ?_))); refine wk_region [0] rfl Kx ?_; refine Zm ?_; refine rg_nil (ek_next (wk_ret (ek_then_ret ?_))); refine ek_ret (fun w hw => ⟨rfl, _, res_t _ rfl, ?_⟩); (try simp only [qz])
          exact ⟨by first | rw [okB_no Ox] | (rw [okB_rest Ox Ox Ox]; unfold evB; (try simp only [ne_eq, tmod2] at *); by_cases hA : (z.a + z.c) % 2 = 0 <;> by_cases hB : (z.b + z.d) % 2 = 0 <;> simp_all [tmod2]), hw.below⟩
         (try simp only [qd, ne_eq] at h9); refine Zm ?_; refine rf_pick rfl rfl rfl ?_; simp only [qz]; refine rg_nil (ek_next (wk_cond_t rfl (wk_seq ?_))); refine wk_region [0] rfl Kx ?_; refine Zm ?_; refine rg_nil (ek_next (wk_ret (ek_then_ret ?_))); refine ek_ret (fun w hw => ⟨rfl, _, res_t _ rfl, ?_⟩); (try simp only [qz])
         exact ⟨by first | rw [okB_no Ox] | (rw [okB_rest Ox Ox Ox]; unfold evB; (try simp only [ne_eq, tmod2] at *); by_cases hA : (z.a + z.c) % 2 = 0 <;> by_cases hB : (z.b + z.d) % 2 = 0 <;> simp_all [tmod2]), hw.below⟩
        (try simp only [qd, ne_eq] at h8); simp only [qz]; refine rf_pick rfl rfl rfl ?_; simp only [qz]; refine rg_nil (ek_next (wk_cond_t rfl (wk_seq ?_))); refine wk_region [0] rfl Kx ?_; refine Zm ?_; refine rg_nil (ek_next (wk_ret (ek_block_ret (ek_then_ret (ek_then_ret (ek_block_ret (ek_then_ret ?_))))))); refine ek_ret (fun w hw => ⟨rfl, _, res_t _ rfl, ?_⟩); (try simp only [qz])
        exact ⟨by first | rw [okB_no Ox] | (rw [okB_rest Ox Ox Ox]; unfold evB; (try simp only [ne_eq, tmod2] at *); by_cases hA : (z.a + z.c) % 2 = 0 <;> by_cases hB : (z.b + z.d) % 2 = 0 <;> simp_all [tmod2]), hw.below⟩
       (try simp only [qd, ne_eq] at h7); refine Zm ?_; refine rf_pick rfl rfl rfl ?_; simp only [qz]; refine rg_nil (ek_next (wk_cond_t rfl (wk_seq ?_))); refine wk_region [0] rfl Kx ?_; refine Zm ?_; refine rg_nil (ek_next (wk_ret (ek_block_ret (ek_then_ret (ek_then_ret (ek_block_ret (ek_then_ret ?_))))))); refine ek_ret (fun w hw => ⟨rfl, _, res_t _ rfl, ?_⟩); (try simp only [qz])
       exact ⟨by first | rw [okB_no Ox] | (rw [okB_rest Ox Ox Ox]; unfold evB; (try simp only [ne_eq, tmod2] at *); by_cases hA : (z.a + z.c) % 2 = 0 <;> by_cases hB : (z.b + z.d) % 2 = 0 <;> simp_all [tmod2]), hw.below⟩
      (try simp only [qd, ne_eq] at h6); simp only [qz]; refine rf_pick rfl rfl rfl ?_; simp only [qz]; refine rg_nil (ek_next (wk_cond_t rfl (wk_seq ?_))); refine wk_region [0] rfl Kx ?_; refine Zm ?_; refine rg_nil (ek_next (wk_ret (ek_block_ret (ek_then_ret (ek_then_ret (ek_block_ret (ek_then_ret ?_))))))); refine ek_ret (fun w hw => ⟨rfl, _, res_t _ rfl, ?_⟩); (try simp only [qz])
      exact ⟨by first | rw [okB_no Ox] | (rw [okB_rest Ox Ox Ox]; unfold evB; (try simp only [ne_eq, tmod2] at *); by_cases hA : (z.a + z.c) % 2 = 0 <;> by_cases hB : (z.b + z.d) % 2 = 0 <;> simp_all [tmod2]), hw.below⟩
     (try simp only [qd, ne_eq] at h5); refine Zm ?_; refine rf_pick rfl rfl rfl ?_; simp only [qz]; refine rg_nil (ek_next (wk_cond_t rfl (wk_seq ?_))); refine wk_region [0] rfl Kx ?_; refine Zm ?_; refine rg_nil (ek_next (wk_ret (ek_block_ret (ek_then_ret (ek_then_ret (ek_block_ret (ek_then_ret ?_))))))); refine ek_ret (fun w hw => ⟨rfl, _, res_t _ rfl, ?_⟩); (try simp only [qz])
     exact ⟨by first | rw [okB_no Ox] | (rw [okB_rest Ox Ox Ox]; unfold evB; (try simp only [ne_eq, tmod2] at *); by_cases hA : (z.a + z.c) % 2 = 0 <;> by_cases hB : (z.b + z.d) % 2 = 0 <;> simp_all [tmod2]), hw.below⟩
    (try simp only [qd, ne_eq] at h4); simp only [qz]; refine rf_pick rfl rfl rfl ?_; simp only [qz]; refine rg_nil (ek_next (wk_cond_t rfl (wk_seq ?_))); refine wk_region [0] rfl Kx ?_; refine Zm ?_; refine rg_nil (ek_next (wk_ret (ek_block_ret (ek_then_ret (ek_then_ret (ek_block_ret (ek_then_ret ?_))))))); refine ek_ret (fun w hw => ⟨rfl, _, res_t _ rfl, ?_⟩); (try simp only [qz])
    exact ⟨by first | rw [okB_no Ox] | (rw [okB_rest Ox Ox Ox]; unfold evB; (try simp only [ne_eq, tmod2] at *); by_cases hA : (z.a + z.c) % 2 = 0 <;> by_cases hB : (z.b + z.d) % 2 = 0 <;> simp_all [tmod2]), hw.below⟩
   (try simp only [qd, ne_eq] at h3); refine Zm ?_; refine rf_pick rfl rfl rfl ?_; simp only [qz]; refine rg_nil (ek_next (wk_cond_t rfl (wk_seq ?_))); refine wk_region [0] rfl Kx ?_; refine Zm ?_; refine rg_nil (ek_next (wk_ret (ek_block_ret (ek_then_ret (ek_then_ret (ek_block_ret (ek_then_ret ?_))))))); refine ek_ret (fun w hw => ⟨rfl, _, res_t _ rfl, ?_⟩); (try simp only [qz])
   exact ⟨by first | rw [okB_no Ox] | (rw [okB_rest Ox Ox Ox]; unfold evB; (try simp only [ne_eq, tmod2] at *); by_cases hA : (z.a + z.c) % 2 = 0 <;> by_cases hB : (z.b + z.d) % 2 = 0 <;> simp_all [tmod2]), hw.below⟩
  (try simp only [qd, ne_eq] at h2); simp only [qz]; refine rf_pick rfl rfl rfl ?_; simp only [qz]; refine rg_nil (ek_next (wk_cond_t rfl (wk_seq ?_))); refine wk_region [0] rfl Kx ?_; refine Zm ?_; refine rg_nil (ek_next (wk_ret (ek_block_ret (ek_then_ret (ek_then_ret (ek_block_ret (ek_then_ret ?_))))))); refine ek_ret (fun w hw => ⟨rfl, _, res_t _ rfl, ?_⟩); (try simp only [qz])
  exact ⟨by first | rw [okB_no Ox] | (rw [okB_rest Ox Ox Ox]; unfold evB; (try simp only [ne_eq, tmod2] at *); by_cases hA : (z.a + z.c) % 2 = 0 <;> by_cases hB : (z.b + z.d) % 2 = 0 <;> simp_all [tmod2]), hw.below⟩
 (try simp only [qd, ne_eq] at h1)
 refine Zm ?_
 refine rf_pick rfl rfl rfl ?_
 simp only [qz]
 refine rg_nil (ek_next (wk_cond_t rfl (wk_seq ?_)))
 refine wk_region [0] rfl Kx ?_
 refine Zm ?_
 refine rg_nil (ek_next (wk_ret (ek_block_ret (ek_then_ret (ek_then_ret (ek_block_ret (ek_then_ret ?_)))))))
 refine ek_ret (fun w hw => ⟨rfl, _, res_t _ rfl, ?_⟩)
 (try simp only [qz])
 exact ⟨by first | rw [okB_no Ox] | (rw [okB_rest Ox Ox Ox]; unfold evB; (try simp only [ne_eq, tmod2] at *); by_cases hA : (z.a + z.c) % 2 = 0 <;> by_cases hB : (z.b + z.d) % 2 = 0 <;> simp_all [tmod2]), hw.below⟩
theorem numbers1_any (z : Nm) (w : World) : Calls Tryz.prog 63 #[nmV z] w fun e w' => e = .returned (.bool (!z.okB)) ∧ Below w.heap.size w w' := by
 go_enter Tryz.func63, Tryz.ntmps63
 refine wk_start ?_
 refine wk_seq ?_
 refine wk_region [1, 0] rfl Kx ?_
 simp only [qy]
 refine Rgn fun g1 => ?_
 refine Zm ?_
 refine rg_nil (ek_next (wk_seq ?_))
 refine wk_region [0, 1, 0, 0] rfl Kx ?_
 simp only [qy]
 refine rf_loadR (n := 5) rfl rfl rfl Tryz.underlying55 rfl Kx (fun w hw => Kn.hd0 hw) rfl rfl ?_
 simp only [qz]
 apply rg_pure Rx Kx
 case hargs => exact Ax
 case h => exact fun w hw => amvalid_any z w
 case hz => exact Nz
 simp only [qz]
 refine rf_not rfl rfl rfl ?_
 refine Zm ?_
 refine rg_nil (ek_next (wk_ret ?_))
 refine ek_ret (fun w hw => ⟨rfl, _, res_t _ rfl, ?_⟩)
 (try simp only [qz])
 first | exact ⟨rfl, hw.below⟩ | exact ⟨trivial, hw.below⟩ | exact hw.below
theorem index_num (xs : List Nm) (a : Option Addr) (c : Nat) (hl : xs.length ≤ 1000000) (w : World) (hA : AS w a (nms xs)) : Calls Tryz.prog 91 #[.slice a xs.length c, .func (.func 63) #[] #[]] w fun e w' => ∃ i : Int, e = .returned (.int .i64 i) ∧ decide (0 ≤ i) = !allOk xs ∧ Below w.heap.size w w' := by
 go_enter Tryz.func91, Tryz.ntmps91
 refine wk_start ?_
 refine wk_seq ?_
 refine wk_region [0] rfl Kx ?_
 refine Zm ?_
 refine rg_nil (ek_next (wk_seq (wk_seq ?_)))
 refine wk_region [0, 0, 0] rfl Kx ?_
 refine Zm ?_
 refine rf_len rfl rfl rfl Tryz.underlying22 ?_
 refine Zm ?_
 refine rg_nil (ek_next (wk_block ?_))
 refine wk_loopF [4, 5, 8, 9, 10, 11, 12, 13, 14, 15, 16, 17, 18] (fun mz f s => ∃ (k : Nat), f 4 = .int .i64 0 ∧ f 8 = .int .i64 k ∧ s = [] ∧ mz = xs.length - k ∧ k ≤ xs.length ∧ (∀ j, j < k → (nm xs j).okB = true)) ((fun (k : Nat) => xs.length - k) (0)) ?_ Kx ?_
 ·exact ⟨0, rfl, rfl, rfl, rfl, by omega, fun j hj => by omega⟩
 rintro mz f1 s ⟨k, hs1_4, hs1_8, rfl, hn, hd1, hd2⟩
 simp only [Act.putF, List.foldl_cons, List.foldl_nil, hs1_4, hs1_8, Act.put, Act.eval, q1, q2, q3, q4, q5, q6, q7, q8, q9, q10, q11, q12, q13, q14, q15, q16, q17, q18, Nat.reduceAdd, Bool.not_true, Bool.not_false]
 clear hs1_4 hs1_8
 refine wk_seq ?_
 refine wk_region [0] rfl Kx ?_
 simp only [qy]
 refine rfb_lss rfl rfl rfl rfl ?_
 intro x h1
 cases x
 ·(try simp only [qd, ne_eq] at h1)
  simp only [qz]; refine rg_nil (ek_next (wk_seq (wk_cond_f rfl (wk_exit (ek_then_exit (ek_then_exit (ek_block_exit (ek_next (wk_seq ?_))))))))); refine wk_region [0] rfl Kx ?_; refine Zm ?_; refine rg_nil (ek_next (wk_ret ?_)); refine ek_ret (fun w hw => ⟨rfl, _, res_t _ rfl, ?_⟩); (try simp only [qz])
  exact ⟨-1, rfl, by rw [allOk_true (fun j hj => hd2 j Ox)]; simp, hw.below⟩
 (try simp only [qd, ne_eq] at h1)
 simp only [qz]
 obtain ⟨b, off, rfl, hlt, hcell⟩ := AS.openN hA Ox
 refine rg_nil (ek_next (wk_seq (wk_cond_t rfl (wk_skip (ek_next (wk_seq (wk_block (wk_seq ?_))))))))
 refine wk_region [0, 0] rfl Kx ?_
 refine Zm ?_
 refine rg_nil (ek_next (wk_seq ?_))
 refine wk_region [0, 0, 0, 0, 0, 1] rfl Kx ?_
 refine Zm ?_
 refine rf_indexS (n := k) (sz := 5) (j := off + k * 5) rfl rfl rfl rfl Tryz.underlying22 Kx Ox Ox rfl ?_
 simp only [qz]
 refine rf_loadC (n := 5) (vs := [.int .i64 (nm xs k).a, .int .i64 (nm xs k).b, .int .i64 (nm xs k).c, .int .i64 (nm xs k).d, .int .i64 (nm xs k).k]) rfl rfl rfl Tryz.underlying55 rfl Kx rfl (fun w hw => atN_range ((hcell k Ox).kn hw hlt (by simp))) ?_
 simp only [qz]
 refine CV.rg_callVb (f := 63) (caps := #[]) (vs := #[nmV (nm xs k)]) (b := !(nm xs k).okB) Rx rfl Kx (by simp only [qm, qs, Act.eval] <;> rfl) (fun w hw => numbers1_any (nm xs k) w) Nz ?_
 intro x h2
 cases x
 ·(try simp only [qd, ne_eq] at h2)
  simp only [qz]; refine rg_nil (ek_next (wk_cond_f rfl (wk_skip (ek_block (ek_next ?_))))); refine wk_region [0, 0] rfl Kx ?_; simp only [qy]; refine rf_add rfl rfl rfl rfl (wrap_ok Ox Ox) ?_; refine Zm ?_; refine rg_nil ?_; refine ek_roundF (xs.length - (k + 1)) Ox Kx ?_
  exact ⟨k + 1, rfl, rfl, by rfl, by rfl, by omega, (fun j hj => by rcases (by omega : j < k ∨ j = k) with h | rfl; exact hd2 j h; simpa using h2)⟩
 (try simp only [qd, ne_eq] at h2)
 simp only [qz]
 refine rg_nil (ek_next (wk_cond_t rfl (wk_seq ?_)))
 refine wk_region [0, 0] rfl Kx ?_
 refine Zm ?_
 refine rg_nil (ek_next (wk_ret (ek_block_ret (ek_then_ret (ek_then_ret (ek_block_ret (ek_then_ret ?_)))))))
 refine ek_ret (fun w hw => ⟨rfl, _, res_t _ rfl, ?_⟩)
 (try simp only [qz])
 exact ⟨(k : Int), rfl, by rw [allOk_false (k := k) Ox (by simpa using h2)]; simp, hw.below⟩
theorem contains_num (xs : List Nm) (a : Option Addr) (c : Nat) (hl : xs.length ≤ 1000000) (w : World) (hA : AS w a (nms xs)) : Calls Tryz.prog 62 #[.slice a xs.length c, .func (.func 63) #[] #[]] w fun e w' => e = .returned (.bool (!allOk xs)) ∧ Below w.heap.size w w' := by
 go_enter Tryz.func62, Tryz.ntmps62
 refine wk_start ?_
 refine wk_seq ?_
 refine wk_region [0] rfl Kx ?_
 refine Zm ?_
 refine rg_nil (ek_next (wk_seq ?_))
 refine wk_region [0, 0, 1, 0, 0] rfl Kx ?_
 refine Zm ?_
 apply rg_call Rx Kx
 case hargs => exact Ax
 refine fun w hw => (index_num xs a c hl w (hA.kn0 hw)).mono ?_
 rintro e w' ⟨i, rfl, hi, hb⟩
 refine ⟨_, _, rfl, hw.call hb, Nz, ?_⟩
 simp only [qz]
 refine rf_geq rfl rfl rfl rfl rfl ?_
 refine Zm ?_
 refine rg_nil (ek_next (wk_ret ?_))
 refine ek_ret (fun w hw => ⟨rfl, _, res_t _ rfl, ?_⟩)
 (try simp only [qz])
 exact ⟨by rw [← hi], hw.below⟩
theorem numbers_any (xs : List Nm) (a : Option Addr) (c : Nat) (hl : xs.length ≤ 1000000) (w : World) (hA : AS w a (nms xs)) : Calls Tryz.prog 30 #[.slice a xs.length c] w fun e w' => e = .returned (.bool (allOk xs)) ∧ Below w.heap.size w w' := by
 go_enter Tryz.func30, Tryz.ntmps30
 refine wk_start ?_
 refine wk_seq ?_
 refine wk_region [0] rfl Kx ?_
 refine Zm ?_
 refine rg_nil (ek_next (wk_seq ?_))
 refine wk_region [0, 1, 0, 0] rfl Kx ?_
 refine Zm ?_
 apply rg_pure Rx Kx
 case hargs => exact Ax
 case h => exact fun w hw => contains_num xs a c hl w (hA.kn0 hw)
 case hz => exact Nz
 simp only [qz]
 refine rf_not rfl rfl rfl ?_
 refine Zm ?_
 refine rg_nil (ek_next (wk_ret ?_))
 refine ek_ret (fun w hw => ⟨rfl, _, res_t _ rfl, ?_⟩)
 (try simp only [qz])
 exact ⟨by rw [Bool.not_not], hw.below⟩
theorem small_sq {n : Int} (h0 : 1 ≤ n) (h1 : n ≤ 6) : 1 ≤ n * n ∧ n * n ≤ 36 := by
 have : n = 1 ∨ n = 2 ∨ n = 3 ∨ n = 4 ∨ n = 5 ∨ n = 6 := by omega
 rcases this with rfl | rfl | rfl | rfl | rfl | rfl <;> decide
theorem mvalid_any (n : Int) (xs : List Nm) (a : Option Addr) (c : Nat) (hl : xs.length ≤ 1000000) (w : World) (hA : AS w a (nms xs)) : Calls Tryz.prog 14 #[.agg #[.int .i64 n, .slice a xs.length c]] w fun e w' => e = .returned (.bool (validB n xs)) ∧ Below w.heap.size w w' := by
 go_enter Tryz.func14, Tryz.ntmps14
 refine wk_start ?_
 refine wk_seq ?_
 refine wk_region [1, 0] rfl Kx ?_
 simp only [qy]
 refine Rgn fun g1 => ?_
 refine Zm ?_
 refine rg_nil (ek_next (wk_seq ?_))
 refine wk_region [0, 0, 0, 0, 0, 0, 0, 0, 0, 0, 0, 0, 0, 0, 0, 0, 0, 0, 0, 0, 0, 0, 1, 0, 0] rfl Kx ?_
 simp only [qy]
 refine rf_field (n := 0) (j := 0) rfl rfl rfl Tryz.underlying24 rfl Kx rfl ?_
 simp only [qz]
 refine rf_load rfl rfl rfl Tryz.underlying3 rfl (fun w hw => (Kn.hd0 hw).at rfl) ?_
 simp only [qz]
 refine rfb_geq rfl rfl rfl rfl ?_
 intro x h1
 cases x
 ·(try simp only [qd, ne_eq] at h1)
  refine Zm ?_; refine rf_pick rfl rfl rfl ?_; refine Zm ?_; refine rf_pick rfl rfl rfl ?_; refine Zm ?_; refine rg_skip_h Rx Nz ?_; simp only [qz]; refine rf_pick rfl rfl rfl ?_; refine Zm ?_; refine rg_nil (ek_next (wk_ret ?_)); refine ek_ret (fun w hw => ⟨rfl, _, res_t _ rfl, ?_⟩); (try simp only [qz])
  exact ⟨by unfold validB; simp [*] <;> (try omega), hw.below⟩
 (try simp only [qd, ne_eq] at h1)
 refine Zm ?_
 refine rf_field (n := 0) (j := 0) rfl rfl rfl Tryz.underlying24 rfl Kx rfl ?_
 simp only [qz]
 refine rf_load rfl rfl rfl Tryz.underlying3 rfl (fun w hw => (Kn.hd0 hw).at rfl) ?_
 simp only [qz]
 refine rfb_leq rfl rfl rfl rfl ?_
 intro x h2
 cases x
 ·(try simp only [qd, ne_eq] at h2)
  simp only [qz]; refine rf_pick rfl rfl rfl ?_; refine Zm ?_; refine rf_pick rfl rfl rfl ?_; refine Zm ?_; refine rg_skip_h Rx Nz ?_; simp only [qz]; refine rf_pick rfl rfl rfl ?_; refine Zm ?_; refine rg_nil (ek_next (wk_ret ?_)); refine ek_ret (fun w hw => ⟨rfl, _, res_t _ rfl, ?_⟩); (try simp only [qz])
  exact ⟨by unfold validB; simp [*] <;> (try omega), hw.below⟩
 (try simp only [qd, ne_eq] at h2)
 simp only [qz]
 refine rf_pick rfl rfl rfl ?_
 refine Zm ?_
 refine rf_field (n := 0) (j := 1) rfl rfl rfl Tryz.underlying24 rfl Kx rfl ?_
 simp only [qz]
 refine rf_load rfl rfl rfl Tryz.underlying22 rfl (fun w hw => (Kn.hd0 hw).at rfl) ?_
 simp only [qz]
 refine rf_len rfl rfl rfl Tryz.underlying22 ?_
 simp only [qz]
 refine rf_field (n := 0) (j := 0) rfl rfl rfl Tryz.underlying24 rfl Kx rfl ?_
 simp only [qz]
 refine rf_load rfl rfl rfl Tryz.underlying3 rfl (fun w hw => (Kn.hd0 hw).at rfl) ?_
 simp only [qz]
 refine rf_field (n := 0) (j := 0) rfl rfl rfl Tryz.underlying24 rfl Kx rfl ?_
 simp only [qz]
 refine rf_load rfl rfl rfl Tryz.underlying3 rfl (fun w hw => (Kn.hd0 hw).at rfl) ?_
 simp only [qz]
 have hnn := small_sq (n := n) Ox Ox
 refine rf_mul rfl rfl rfl rfl (wrap_ok Ox Ox) ?_
 simp only [qz]
 refine rfb_eql rfl rfl rfl rfl ?_
 intro x h3
 cases x
 ·(try simp only [qd, ne_eq] at h3)
  simp only [qz]; refine rf_pick rfl rfl rfl ?_; refine Zm ?_; refine rg_skip_h Rx Nz ?_; simp only [qz]; refine rf_pick rfl rfl rfl ?_; refine Zm ?_; refine rg_nil (ek_next (wk_ret ?_)); refine ek_ret (fun w hw => ⟨rfl, _, res_t _ rfl, ?_⟩); (try simp only [qz])
  exact ⟨by unfold validB; simp [*] <;> (try omega), hw.below⟩
 (try simp only [qd, ne_eq] at h3)
 simp only [qz]
 refine rf_pick rfl rfl rfl ?_
 refine Zm ?_
 refine rf_field (n := 0) (j := 1) rfl rfl rfl Tryz.underlying24 rfl Kx rfl ?_
 simp only [qz]
 refine rf_load rfl rfl rfl Tryz.underlying22 rfl (fun w hw => (Kn.hd0 hw).at rfl) ?_
 simp only [qz]
 apply rg_pure Rx Kx
 case hargs => exact Ax
 case h => exact fun w hw => numbers_any xs a c hl w (hA.kn0 hw)
 case hz => exact Nz
 simp only [qz]
 refine rf_pick rfl rfl rfl ?_
 refine Zm ?_
 refine rg_nil (ek_next (wk_ret ?_))
 refine ek_ret (fun w hw => ⟨rfl, _, res_t _ rfl, ?_⟩)
 (try simp only [qz])
 exact ⟨by unfold validB; simp [*] <;> (try omega), hw.below⟩
theorem rmvalid_any (n : Int) (xs : List Nm) (a : Option Addr) (c : Nat) (hl : xs.length ≤ 1000000) (w : World) (hA : AS w a (nms xs)) : Calls Tryz.prog 22 #[.agg #[.int .i64 n, .slice a xs.length c]] w fun e w' => e = .returned (.bool (validB n xs)) ∧ Below w.heap.size w w' := by
 go_enter Tryz.func22, Tryz.ntmps22
 refine wk_start ?_
 refine wk_seq ?_
 refine wk_region [1, 0] rfl Kx ?_
 simp only [qy]
 refine Rgn fun g1 => ?_
 refine Zm ?_
 refine rg_nil (ek_next (wk_seq (wk_seq ?_)))
 refine wk_region [0, 0, 0, 0, 0, 0, 0, 0, 0, 0, 0, 0, 0, 0, 0, 0, 0, 0, 0] rfl Kx ?_
 simp only [qy]
 refine rf_field (n := 0) (j := 0) rfl rfl rfl Tryz.underlying24 rfl Kx rfl ?_
 simp only [qz]
 refine rf_load rfl rfl rfl Tryz.underlying3 rfl (fun w hw => (Kn.hd0 hw).at rfl) ?_
 simp only [qz]
 refine rfb_lss rfl rfl rfl rfl ?_
 intro x h1
 cases x
 ·(try simp only [qd, ne_eq] at h1)
  refine Zm ?_; refine rf_field (n := 0) (j := 0) rfl rfl rfl Tryz.underlying24 rfl Kx rfl ?_; simp only [qz]; refine rf_load rfl rfl rfl Tryz.underlying3 rfl (fun w hw => (Kn.hd0 hw).at rfl) ?_; simp only [qz]; refine rfb_gtr rfl rfl rfl rfl ?_; intro x h2; cases x
  ·(try simp only [qd, ne_eq] at h2)
   simp only [qz]; refine rf_pick rfl rfl rfl ?_; refine Zm ?_; refine rf_field (n := 0) (j := 1) rfl rfl rfl Tryz.underlying24 rfl Kx rfl ?_; simp only [qz]; refine rf_load rfl rfl rfl Tryz.underlying22 rfl (fun w hw => (Kn.hd0 hw).at rfl) ?_; simp only [qz]; refine rf_len rfl rfl rfl Tryz.underlying22 ?_; simp only [qz]; refine rf_field (n := 0) (j := 0) rfl rfl rfl Tryz.underlying24 rfl Kx rfl ?_; simp only [qz]; refine rf_load rfl rfl rfl Tryz.underlying3 rfl (fun w hw => (Kn.hd0 hw).at rfl) ?_
   simp only [qz]; refine rf_field (n := 0) (j := 0) rfl rfl rfl Tryz.underlying24 rfl Kx rfl ?_; simp only [qz]; refine rf_load rfl rfl rfl Tryz.underlying3 rfl (fun w hw => (Kn.hd0 hw).at rfl) ?_; simp only [qz]
   have hnn := small_sq (n := n) Ox Ox
   refine rf_mul rfl rfl rfl rfl (wrap_ok Ox Ox) ?_; simp only [qz]; refine rfb_neq rfl rfl rfl rfl ?_; intro x h3; cases x
   ·(try simp only [qd, ne_eq] at h3)
    simp only [qz]; refine rf_pick rfl rfl rfl ?_; simp only [qz]; refine rg_nil (ek_next (wk_cond_f rfl (wk_skip (ek_next (wk_seq (wk_seq ?_)))))); refine wk_region [0] rfl Kx ?_; refine Zm ?_; refine rg_nil (ek_next (wk_block ?_)); refine wk_loopF [2, 3, 23, 24, 25, 26, 27, 28, 29, 30, 31, 32, 33, 34, 35, 36] (fun mz f s => ∃ (k : Nat), f 2 = .bool false ∧ f 3 = .int .i64 k ∧ s = ((g1, .cells #[.int .i64 n, .slice a xs.length c] 24) :: []) ∧ mz = xs.length - k ∧ k ≤ xs.length ∧ (∀ j, j < k → (nm xs j).okB = true)) ((fun (k : Nat) => xs.length - k) (0)) ?_ Kx ?_
    ·exact ⟨0, rfl, rfl, rfl, rfl, by omega, fun j hj => by omega⟩
    rintro mz f1 s ⟨k, hs1_2, hs1_3, rfl, hn, hd1, hd2⟩
    simp only [Act.putF, List.foldl_cons, List.foldl_nil, hs1_2, hs1_3, Act.put, Act.eval, q1, q2, q3, q4, q5, q6, q7, q8, q9, q10, q11, q12, q13, q14, q15, q16, q17, q18, Nat.reduceAdd, Bool.not_true, Bool.not_false]; clear hs1_2 hs1_3; refine wk_seq (wk_seq ?_); refine wk_region [0, 0, 0, 0, 0] rfl Kx ?_; refine Zm ?_; refine rf_field (n := 0) (j := 1) rfl rfl rfl Tryz.underlying24 rfl Kx rfl ?_; simp only [qz]
    refine rf_load rfl rfl rfl Tryz.underlying22 rfl (fun w hw => (Kn.hd0 hw).at rfl) ?_; simp only [qz]; refine rf_len rfl rfl rfl Tryz.underlying22 ?_; simp only [qz]; refine rfb_lss rfl rfl rfl rfl ?_; intro x h4; cases x
    ·(try simp only [qd, ne_eq] at h4)
     simp only [qz]; refine rg_nil (ek_next (wk_cond_f rfl (wk_exit (ek_then_exit (ek_then_exit (ek_block_exit (ek_next (wk_seq ?_)))))))); refine wk_region [0] rfl Kx ?_; refine Zm ?_; refine rg_nil (ek_next (wk_ret ?_)); refine ek_ret (fun w hw => ⟨rfl, _, res_t _ rfl, ?_⟩); (try simp only [qz])
     exact ⟨by unfold validB; rw [allOk_true (fun j hj => hd2 j Ox)]; simp [*] <;> omega, hw.below⟩
    (try simp only [qd, ne_eq] at h4); simp only [qz]
    obtain ⟨b, off, ha, hlt, hcell⟩ := AS.openN hA Ox
    subst ha
    refine rg_nil (ek_next (wk_cond_t rfl (wk_skip (ek_next (wk_seq (wk_block (wk_seq ?_))))))); refine wk_region [0, 0, 0, 0, 0, 1, 0] rfl Kx ?_; simp only [qy]; refine rf_field (n := 0) (j := 1) rfl rfl rfl Tryz.underlying24 rfl Kx rfl ?_; simp only [qz]; refine rf_load rfl rfl rfl Tryz.underlying22 rfl (fun w hw => (Kn.hd0 hw).at rfl) ?_; refine Zm ?_; refine rf_indexS (n := k) (sz := 5) (j := off + k * 5) rfl rfl rfl rfl Tryz.underlying22 Kx Ox Ox rfl ?_
    simp only [qz]; refine rf_loadC (n := 5) (vs := [.int .i64 (nm xs k).a, .int .i64 (nm xs k).b, .int .i64 (nm xs k).c, .int .i64 (nm xs k).d, .int .i64 (nm xs k).k]) rfl rfl rfl Tryz.underlying55 rfl Kx rfl (fun w hw => atN_range ((hcell k Ox).kn hw hlt (by simp))) ?_; simp only [qz]; apply rg_pureb Rx Kx
    case hargs => exact Ax
    case h => exact fun w hw => rValidNum_any (nm xs k) w
    case hz => exact Nz
    intro x h5; cases x
    ·(try simp only [qd, ne_eq] at h5)
     simp only [qz]; refine rf_not rfl rfl rfl ?_; simp only [qz]; refine rg_nil (ek_next (wk_cond_t rfl (wk_seq ?_))); refine wk_region [0] rfl Kx ?_; refine Zm ?_; refine rg_nil (ek_next (wk_ret (ek_block_ret (ek_then_ret (ek_then_ret (ek_block_ret (ek_then_ret ?_))))))); refine ek_ret (fun w hw => ⟨rfl, _, res_t _ rfl, ?_⟩); (try simp only [qz])
     exact ⟨by unfold validB; rw [allOk_false (k := k) Ox h5]; simp, hw.below⟩
    (try simp only [qd, ne_eq] at h5); simp only [qz]; refine rf_not rfl rfl rfl ?_; simp only [qz]; refine rg_nil (ek_next (wk_cond_f rfl (wk_skip (ek_block (ek_next ?_))))); refine wk_region [0, 0, 0] rfl Kx ?_; refine Zm ?_; refine rf_add rfl rfl rfl rfl (wrap_ok Ox Ox) ?_; refine Zm ?_; refine rg_nil ?_; refine ek_roundF (xs.length - (k + 1)) Ox Kx ?_
    exact ⟨k + 1, rfl, rfl, by rfl, by rfl, by omega, (fun j hj => by rcases (by omega : j < k ∨ j = k) with h | rfl; exact hd2 j h; exact h5)⟩
   (try simp only [qd, ne_eq] at h3); simp only [qz]; refine rf_pick rfl rfl rfl ?_; simp only [qz]; refine rg_nil (ek_next (wk_cond_t rfl (wk_seq ?_))); refine wk_region [0] rfl Kx ?_; refine Zm ?_; refine rg_nil (ek_next (wk_ret (ek_then_ret ?_))); refine ek_ret (fun w hw => ⟨rfl, _, res_t _ rfl, ?_⟩); (try simp only [qz])
   exact ⟨by unfold validB; simp [*] <;> (try omega), hw.below⟩
  (try simp only [qd, ne_eq] at h2); simp only [qz]; refine rf_pick rfl rfl rfl ?_; refine Zm ?_; refine rf_pick rfl rfl rfl ?_; simp only [qz]; refine rg_nil (ek_next (wk_cond_t rfl (wk_seq ?_))); refine wk_region [0] rfl Kx ?_; refine Zm ?_; refine rg_nil (ek_next (wk_ret (ek_then_ret ?_))); refine ek_ret (fun w hw => ⟨rfl, _, res_t _ rfl, ?_⟩); (try simp only [qz])
  exact ⟨by unfold validB; simp [*] <;> (try omega), hw.below⟩
 (try simp only [qd, ne_eq] at h1)
 refine Zm ?_
 refine rf_pick rfl rfl rfl ?_
 refine Zm ?_
 refine rf_pick rfl rfl rfl ?_
 simp only [qz]
 refine rg_nil (ek_next (wk_cond_t rfl (wk_seq ?_)))
 refine wk_region [0] rfl Kx ?_
 refine Zm ?_
 refine rg_nil (ek_next (wk_ret (ek_then_ret ?_)))
 refine ek_ret (fun w hw => ⟨rfl, _, res_t _ rfl, ?_⟩)
 (try simp only [qz])
 exact ⟨by unfold validB; simp [*] <;> (try omega), hw.below⟩
def expo (xs : List Nm) : Int := xs.foldl (fun k z => if k < z.k then z.k else k) 0
theorem expo_succ {xs : List Nm} {i : Nat} (h : i < xs.length) : expo (xs.take (i + 1)) = if expo (xs.take i) < (nm xs i).k then (nm xs i).k else expo (xs.take i) := by
 have e : xs.take (i + 1) = xs.take i ++ [nm xs i] := by
  rw [List.take_succ, List.getElem?_eq_getElem h]
  unfold nm El.at
  rw [List.getD_eq_getElem?_getD, List.getElem?_eq_getElem h]
  rfl
 unfold expo
 rw [e, List.foldl_append]
 rfl
theorem expo_all {xs : List Nm} {i : Nat} (h : xs.length ≤ i) : expo (xs.take i) = expo xs := by rw [List.take_of_length_le h]
theorem exponent_any (xs : List Nm) (a : Option Addr) (c : Nat) (hl : xs.length ≤ 1000000) (w : World) (hA : AS w a (nms xs)) : Calls Tryz.prog 31 #[.slice a xs.length c] w fun e w' => e = .returned (.int .i64 (expo xs)) ∧ Below w.heap.size w w' := by
 go_enter Tryz.func31, Tryz.ntmps31
 refine wk_start ?_
 refine wk_seq ?_
 refine wk_region [0] rfl Kx ?_
 refine Zm ?_
 refine rg_nil (ek_next (wk_seq ?_))
 refine wk_region [0] rfl Kx ?_
 refine Zm ?_
 refine rg_nil (ek_next (wk_seq (wk_seq ?_)))
 refine wk_region [0, 0, 0] rfl Kx ?_
 refine Zm ?_
 refine rf_len rfl rfl rfl Tryz.underlying22 ?_
 refine Zm ?_
 refine rg_nil (ek_next (wk_block ?_))
 refine wk_loopF [3, 5, 8, 9, 10, 11, 12, 13, 14, 15, 16] (fun mz f s => ∃ (i : Nat) (k : Int), f 3 = .int .i64 k ∧ f 8 = .int .i64 i ∧ s = [] ∧ mz = xs.length - i ∧ i ≤ xs.length ∧ Hid (expo (xs.take i) = k)) ((fun (i : Nat) (k : Int) => xs.length - i) (0) (0)) ?_ Kx ?_
 ·exact ⟨0, 0, rfl, rfl, rfl, rfl, by omega, Lib.hid rfl⟩
 rintro mz f1 s ⟨i, k, hs1_3, hs1_8, rfl, hn, hd1, hd2⟩
 simp only [Act.putF, List.foldl_cons, List.foldl_nil, hs1_3, hs1_8, Act.put, Act.eval, q1, q2, q3, q4, q5, q6, q7, q8, q9, q10, q11, q12, q13, q14, q15, q16, q17, q18, Nat.reduceAdd, Bool.not_true, Bool.not_false]
 clear hs1_3 hs1_8
 have hk := hd2
 clear hd2
 refine wk_seq ?_
 refine wk_region [0] rfl Kx ?_
 simp only [qy]
 refine rfb_lss rfl rfl rfl rfl ?_
 intro x h1
 cases x
 ·(try simp only [qd, ne_eq] at h1)
  simp only [qz]; refine rg_nil (ek_next (wk_seq (wk_cond_f rfl (wk_exit (ek_then_exit (ek_then_exit (ek_block_exit (ek_next (wk_seq ?_))))))))); refine wk_region [0, 0] rfl Kx ?_; refine Zm ?_; refine rg_nil (ek_next (wk_ret ?_)); refine ek_ret (fun w hw => ⟨rfl, _, res_t _ rfl, ?_⟩); (try simp only [qz])
  exact ⟨by rw [← hk.out, expo_all Ox], hw.below⟩
 (try simp only [qd, ne_eq] at h1)
 simp only [qz]
 obtain ⟨b, off, rfl, hlt, hcell⟩ := AS.openN hA Ox
 refine rg_nil (ek_next (wk_seq (wk_cond_t rfl (wk_skip (ek_next (wk_seq (wk_block (wk_seq ?_))))))))
 refine wk_region [0, 0, 1, 1] rfl Kx ?_
 simp only [qy]
 refine rf_indexS (n := i) (sz := 5) (j := off + i * 5) rfl rfl rfl rfl Tryz.underlying22 Kx Ox Ox rfl ?_
 simp only [qz]
 refine rf_loadC (n := 5) (vs := [.int .i64 (nm xs i).a, .int .i64 (nm xs i).b, .int .i64 (nm xs i).c, .int .i64 (nm xs i).d, .int .i64 (nm xs i).k]) rfl rfl rfl Tryz.underlying55 rfl Kx rfl (fun w hw => atN_range ((hcell i Ox).kn hw hlt (by simp))) ?_
 simp only [qz]
 refine Rgn fun g1 => ?_
 simp only [qz]
 refine rf_storeR (n := 5) rfl rfl Kx rfl rfl (UpdR.here _ _ _ Nl) Nz ?_
 simp only [qz, Nat.reduceAdd]
 refine rg_nil (ek_next ?_)
 refine wk_region [0, 0, 0, 0, 0] rfl Kx ?_
 refine Zm ?_
 refine rf_field (n := 0) (j := 4) rfl rfl rfl Tryz.underlying55 rfl Kx rfl ?_
 simp only [qz]
 refine rf_load rfl rfl rfl Tryz.underlying3 rfl (fun w hw => (Kn.hd0 hw).at rfl) ?_
 simp only [qz]
 refine Zk ?_
 refine rg_nil (ek_block (ek_next ?_))
 refine wk_region [0, 0] rfl Kx ?_
 simp only [qy]
 refine rf_add rfl rfl rfl rfl (wrap_ok Ox Ox) ?_
 refine Zm ?_
 refine rg_nil ?_
 refine ek_sub (sk _ sn) ?_
 refine ek_roundF (xs.length - (i + 1)) Ox Kx ?_
 exact ⟨i + 1, if k < (nm xs i).k then (nm xs i).k else k, rfl, rfl, by rfl, by rfl, by omega, (Lib.hid (by rw [expo_succ Ox, hk.out]))⟩
def expR (n : Int) (xs : List Nm) : Int × Int := if validB n xs then (expo xs, 0) else (0, 20)
theorem mExponent_any (n : Int) (xs : List Nm) (a : Option Addr) (c : Nat) (hl : xs.length ≤ 1000000) (w : World) (hA : AS w a (nms xs)) : Calls Tryz.prog 15 #[.agg #[.int .i64 n, .slice a xs.length c]] w fun e w' => e = .returned (.tuple #[.int .i64 (expR n xs).1, .int .i64 (expR n xs).2]) ∧ Below w.heap.size w w' := by
 go_enter Tryz.func15, Tryz.ntmps15
 refine wk_start ?_
 refine wk_seq ?_
 refine wk_region [1, 0, 0] rfl Kx ?_
 simp only [qy]
 refine Rgn fun g1 => ?_
 refine Zm ?_
 refine rg_nil (ek_next (wk_seq (wk_seq ?_)))
 refine wk_region [0, 1, 0] rfl Kx ?_
 simp only [qy]
 refine rf_loadR (n := 2) rfl rfl rfl Tryz.underlying24 rfl Kx (fun w hw => Kn.hd0 hw) rfl rfl ?_
 simp only [qz]
 apply rg_pureb Rx Kx
 case hargs => exact Ax
 case h => exact fun w hw => mvalid_any n xs a c hl w (hA.kn0 hw)
 case hz => exact Nz
 intro x h1
 cases x
 ·(try simp only [qd, ne_eq] at h1)
  simp only [qz]; refine rf_not rfl rfl rfl ?_; simp only [qz]; refine rg_nil (ek_next (wk_cond_t rfl (wk_seq ?_))); refine wk_region [0, 0] rfl Kx ?_; refine Zm ?_; refine rg_nil (ek_next (wk_ret (ek_then_ret ?_))); refine ek_ret (fun w hw => ⟨rfl, _, res_tt _ _ rfl, ?_⟩); (try simp only [qz])
  exact ⟨by unfold expR; simp [*], hw.below⟩
 (try simp only [qd, ne_eq] at h1)
 simp only [qz]
 refine rf_not rfl rfl rfl ?_
 simp only [qz]
 refine rg_nil (ek_next (wk_cond_f rfl (wk_skip (ek_next (wk_seq ?_)))))
 refine wk_region [0, 0, 1, 0, 0] rfl Kx ?_
 simp only [qy]
 refine rf_field (n := 0) (j := 1) rfl rfl rfl Tryz.underlying24 rfl Kx rfl ?_
 simp only [qz]
 refine rf_load rfl rfl rfl Tryz.underlying22 rfl (fun w hw => (Kn.hd0 hw).at rfl) ?_
 simp only [qz]
 apply rg_pure Rx Kx
 case hargs => exact Ax
 case h => exact fun w hw => exponent_any xs a c hl w (hA.kn0 hw)
 case hz => exact Nz
 refine Zm ?_
 refine rg_nil (ek_next (wk_ret ?_))
 refine ek_ret (fun w hw => ⟨rfl, _, res_tt _ _ rfl, ?_⟩)
 (try simp only [qz])
 exact ⟨by unfold expR; simp [*], hw.below⟩
theorem rExponent_any (n : Int) (xs : List Nm) (a : Option Addr) (c : Nat) (hl : xs.length ≤ 1000000) (w : World) (hA : AS w a (nms xs)) : Calls Tryz.prog 23 #[.agg #[.int .i64 n, .slice a xs.length c]] w fun e w' => e = .returned (.tuple #[.int .i64 (expR n xs).1, .int .i64 (expR n xs).2]) ∧ Below w.heap.size w w' := by
 go_enter Tryz.func23, Tryz.ntmps23
 refine wk_start ?_
 refine wk_seq ?_
 refine wk_region [1, 0, 0] rfl Kx ?_
 simp only [qy]
 refine Rgn fun g1 => ?_
 refine Zm ?_
 refine rg_nil (ek_next (wk_seq (wk_seq ?_)))
 refine wk_region [0, 1, 0] rfl Kx ?_
 simp only [qy]
 refine rf_loadR (n := 2) rfl rfl rfl Tryz.underlying24 rfl Kx (fun w hw => Kn.hd0 hw) rfl rfl ?_
 simp only [qz]
 apply rg_pureb Rx Kx
 case hargs => exact Ax
 case h => exact fun w hw => rmvalid_any n xs a c hl w (hA.kn0 hw)
 case hz => exact Nz
 intro x h1
 cases x
 ·(try simp only [qd, ne_eq] at h1)
  simp only [qz]; refine rf_not rfl rfl rfl ?_; simp only [qz]; refine rg_nil (ek_next (wk_cond_t rfl (wk_seq ?_))); refine wk_region [0, 0] rfl Kx ?_; refine Zm ?_; refine rg_nil (ek_next (wk_ret (ek_then_ret ?_))); refine ek_ret (fun w hw => ⟨rfl, _, res_tt _ _ rfl, ?_⟩); (try simp only [qz])
  exact ⟨by unfold expR; simp [*], hw.below⟩
 (try simp only [qd, ne_eq] at h1)
 simp only [qz]
 refine rf_not rfl rfl rfl ?_
 simp only [qz]
 refine rg_nil (ek_next (wk_cond_f rfl (wk_skip (ek_next (wk_seq ?_)))))
 refine wk_region [0] rfl Kx ?_
 refine Zm ?_
 refine rg_nil (ek_next (wk_seq (wk_seq ?_)))
 refine wk_region [0] rfl Kx ?_
 refine Zm ?_
 refine rg_nil (ek_next (wk_block ?_))
 refine wk_loopF [4, 5, 9, 10, 11, 12, 13, 14, 15, 16, 17, 18, 19, 20, 21, 22, 23] (fun mz f s => ∃ (i : Nat) (k : Int), f 2 = .int .i64 0 ∧ f 3 = .int .i64 0 ∧ f 4 = .int .i64 k ∧ f 5 = .int .i64 i ∧ s = ((g1, .cells #[.int .i64 n, .slice a xs.length c] 24) :: []) ∧ mz = xs.length - i ∧ i ≤ xs.length ∧ Hid (expo (xs.take i) = k)) ((fun (i : Nat) (k : Int) => xs.length - i) (0) (0)) ?_ Kx ?_
 ·exact ⟨0, 0, rfl, rfl, rfl, rfl, rfl, rfl, by omega, Lib.hid rfl⟩
 rintro mz f1 s ⟨i, k, hs1_2, hs1_3, hs1_4, hs1_5, rfl, hn, hd1, hd2⟩
 simp only [Act.putF, List.foldl_cons, List.foldl_nil, hs1_2, hs1_3, hs1_4, hs1_5, Act.put, Act.eval, q1, q2, q3, q4, q5, q6, q7, q8, q9, q10, q11, q12, q13, q14, q15, q16, q17, q18, Nat.reduceAdd, Bool.not_true, Bool.not_false]
 clear hs1_2 hs1_3 hs1_4 hs1_5
 have hk := hd2
 clear hd2
 refine wk_seq (wk_seq ?_)
 refine wk_region [0, 0, 0, 0, 0] rfl Kx ?_
 refine Zm ?_
 refine rf_field (n := 0) (j := 1) rfl rfl rfl Tryz.underlying24 rfl Kx rfl ?_
 simp only [qz]
 refine rf_load rfl rfl rfl Tryz.underlying22 rfl (fun w hw => (Kn.hd0 hw).at rfl) ?_
 simp only [qz]
 refine rf_len rfl rfl rfl Tryz.underlying22 ?_
 simp only [qz]
 refine rfb_lss rfl rfl rfl rfl ?_
 intro x h2
 cases x
 ·(try simp only [qd, ne_eq] at h2)
  simp only [qz]; refine rg_nil (ek_next (wk_cond_f rfl (wk_exit (ek_then_exit (ek_then_exit (ek_block_exit (ek_next (wk_seq ?_)))))))); refine wk_region [0, 0, 0] rfl Kx ?_; refine Zm ?_; refine rg_nil (ek_next (wk_ret ?_)); refine ek_ret (fun w hw => ⟨rfl, _, res_tt _ _ rfl, ?_⟩); (try simp only [qz])
  exact ⟨by unfold expR; simp only [*, if_true]; rw [← hk.out, expo_all Ox], hw.below⟩
 (try simp only [qd, ne_eq] at h2)
 simp only [qz]
 obtain ⟨b, off, ha, hlt, hcell⟩ := AS.openN hA Ox
 subst ha
 refine rg_nil (ek_next (wk_cond_t rfl (wk_skip (ek_next (wk_seq (wk_block ?_))))))
 refine wk_region [0, 0, 0, 0, 0, 0, 0, 0, 0] rfl Kx ?_
 refine Zm ?_
 refine rf_field (n := 0) (j := 1) rfl rfl rfl Tryz.underlying24 rfl Kx rfl ?_
 simp only [qz]
 refine rf_load rfl rfl rfl Tryz.underlying22 rfl (fun w hw => (Kn.hd0 hw).at rfl) ?_
 refine Zm ?_
 refine rf_indexS (n := i) (sz := 5) (j := off + i * 5) rfl rfl rfl rfl Tryz.underlying22 Kx Ox Ox rfl ?_
 simp only [qz]
 refine rf_field (n := 0) (j := off + i * 5 + 4) rfl rfl rfl Tryz.underlying55 rfl Kx rfl ?_
 simp only [qz]
 refine rf_load rfl rfl rfl Tryz.underlying3 rfl (fun w hw => ((hcell i Ox).kn hw hlt (by simp)).c4) ?_
 simp only [qz]
 refine Zk ?_
 refine rg_nil (ek_block (ek_next ?_))
 refine wk_region [0, 0, 0] rfl Kx ?_
 refine Zm ?_
 refine rf_add rfl rfl rfl rfl (wrap_ok Ox Ox) ?_
 refine Zm ?_
 refine rg_nil ?_
 refine ek_roundF (xs.length - (i + 1)) Ox Kx ?_
 exact ⟨i + 1, if k < (nm xs i).k then (nm xs i).k else k, rfl, rfl, rfl, rfl, by rfl, by rfl, by omega, (Lib.hid (by rw [expo_succ Ox, hk.out]))⟩
theorem scaled_any (z : Nm) (k : Int) (hz : z.Fit 1000000000) (h0 : 0 ≤ z.k) (h1 : z.k ≤ k) (h2 : k ≤ 40) (w : World) : Calls Tryz.prog 65 #[nmV z, .int .i64 k] w fun e w' => e = .returned (.agg #[.int .i64 (z.to k).a, .int .i64 (z.to k).b, .int .i64 (z.to k).c, .int .i64 (z.to k).d]) ∧ Below w.heap.size w w' := by
 go_enter Tryz.func65, Tryz.ntmps65
 refine wk_start ?_
 refine wk_seq ?_
 refine wk_region [1, 1] rfl Kx ?_
 simp only [qy]
 refine Rgn fun g1 => ?_
 simp only [qz]
 refine Rgn fun g2 => ?_
 simp only [qz]
 refine rg_nil (ek_next (wk_seq ?_))
 refine wk_region [0, 0, 1, 1] rfl Kx ?_
 simp only [qy]
 refine rf_field (n := 3) (j := 0) rfl rfl rfl Tryz.underlying55 rfl Kx rfl ?_
 simp only [qz]
 refine rf_loadR (n := 4) rfl rfl rfl Tryz.underlying53 rfl Kx (fun w hw => Kn.hd0 (Kn.tl hw)) rfl rfl ?_
 simp only [qz]
 refine Rgn fun g3 => ?_
 simp only [qz]
 refine rf_storeR (n := 4) rfl rfl Kx rfl rfl (UpdR.here _ _ _ Nl) Nz ?_
 simp only [qz, Nat.reduceAdd]
 refine rg_nil (ek_next (wk_seq (wk_seq ?_)))
 refine wk_region [0, 0, 0, 0, 0] rfl Kx ?_
 refine Zm ?_
 refine rf_field (n := 0) (j := 4) rfl rfl rfl Tryz.underlying55 rfl Kx rfl ?_
 simp only [qz]
 refine rf_load rfl rfl rfl Tryz.underlying3 rfl (fun w hw => (Kn.hd0 (Kn.tl (Kn.tl hw))).at rfl) ?_
 simp only [qz]
 refine rf_sub rfl rfl rfl rfl (wrap_ok Ox Ox) ?_
 refine Zm ?_
 refine rg_nil (ek_next (wk_block ?_))
 refine wk_loopF [12, 13, 14, 15, 16, 17, 18, 19, 20, 21, 22, 23, 24, 25, 26, 27, 28, 29, 30, 31, 32, 33, 34, 35] (fun mz f s => ∃ (j : Nat) (y : Nm), f 12 = .int .i64 j ∧ s = ((g3, .cells #[.int .i64 y.a, .int .i64 y.b, .int .i64 y.c, .int .i64 y.d] 53) :: ((g2, .cells #[.int .i64 0, .int .i64 0, .int .i64 0, .int .i64 0] 53) :: ((g1, .cells #[.int .i64 z.a, .int .i64 z.b, .int .i64 z.c, .int .i64 z.d, .int .i64 z.k] 55) :: []))) ∧ mz = (k - z.k).toNat - j ∧ (j : Int) ≤ k - z.k ∧ Hid (Nm.up j z = y)) ((fun (j : Nat) (y : Nm) => (k - z.k).toNat - j) (0) (z)) ?_ Kx ?_
 ·exact ⟨0, z, rfl, rfl, rfl, Ox, Lib.hid rfl⟩
 rintro mz f1 s ⟨j, y, hs1_12, rfl, hn, hd1, hd2⟩
 simp only [Act.putF, List.foldl_cons, List.foldl_nil, hs1_12, Act.put, Act.eval, q1, q2, q3, q4, q5, q6, q7, q8, q9, q10, q11, q12, q13, q14, q15, q16, q17, q18, Nat.reduceAdd, Bool.not_true, Bool.not_false]
 clear hs1_12
 have hy := hd2
 clear hd2
 have hfy := Nm.up40_fit (n := j) hz Ox
 rw [hy.out] at hfy
 obtain ⟨fa0, fa1, fb0, fb1, fc0, fc1, fd0, fd1⟩ := hfy
 refine wk_seq ?_
 refine wk_region [0] rfl Kx ?_
 simp only [qy]
 refine rfb_lss rfl rfl rfl rfl ?_
 intro x h1
 cases x
 ·(try simp only [qd, ne_eq] at h1)
  simp only [qz]; refine rg_nil (ek_next (wk_seq (wk_cond_f rfl (wk_exit (ek_then_exit (ek_then_exit (ek_block_exit (ek_next (wk_seq ?_))))))))); refine wk_region [0, 1] rfl Kx ?_; simp only [qy]; refine rf_loadR (n := 4) rfl rfl rfl Tryz.underlying53 rfl Kx (fun w hw => Kn.hd0 hw) rfl rfl ?_; simp only [qz]; refine rf_storeR (n := 4) rfl rfl Kx rfl rfl (UpdR.there _ (UpdR.here _ _ _ Nl)) Nz ?_; simp only [qz, Nat.reduceAdd]
  refine rg_nil (ek_next (wk_ret ?_)); refine ek_ret (fun w hw => ⟨rfl, _, run_results1 rfl rfl (Kn.hd0 (Kn.tl hw)) Tryz.underlying53 rfl Kx, ?_⟩); (try simp only [qz])
  have e : z.to k = y := by unfold Nm.to; rw [show (k - z.k).toNat = j by omega, hy.out]
  exact ⟨by rw [e], hw.below⟩
 (try simp only [qd, ne_eq] at h1)
 simp only [qz]
 refine rg_nil (ek_next (wk_seq (wk_cond_t rfl (wk_skip (ek_next (wk_seq (wk_block ?_)))))))
 refine wk_region [0, 0, 0, 0, 0, 0, 0, 0, 0, 0, 0, 0, 0, 0, 0, 0, 0, 0, 0, 0, 0, 1] rfl Kx ?_
 simp only [qy]
 refine rf_indexA (n := 1) (sz := 1) (j := 1) rfl rfl rfl rfl Tryz.underlying53 Kx (by decide) rfl ?_
 simp only [qz]
 refine rf_load rfl rfl rfl Tryz.underlying3 rfl (fun w hw => (Kn.hd0 hw).at rfl) ?_
 simp only [qz]
 refine rf_indexA (n := 3) (sz := 1) (j := 3) rfl rfl rfl rfl Tryz.underlying53 Kx (by decide) rfl ?_
 simp only [qz]
 refine rf_load rfl rfl rfl Tryz.underlying3 rfl (fun w hw => (Kn.hd0 hw).at rfl) ?_
 simp only [qz]
 refine rf_sub rfl rfl rfl rfl (wrap_ok Ox Ox) ?_
 simp only [qz]
 refine rf_indexA (n := 0) (sz := 1) (j := 0) rfl rfl rfl rfl Tryz.underlying53 Kx (by decide) rfl ?_
 simp only [qz]
 refine rf_load rfl rfl rfl Tryz.underlying3 rfl (fun w hw => (Kn.hd0 hw).at rfl) ?_
 simp only [qz]
 refine rf_indexA (n := 2) (sz := 1) (j := 2) rfl rfl rfl rfl Tryz.underlying53 Kx (by decide) rfl ?_
 simp only [qz]
 refine rf_load rfl rfl rfl Tryz.underlying3 rfl (fun w hw => (Kn.hd0 hw).at rfl) ?_
 simp only [qz]
 refine rf_add rfl rfl rfl rfl (wrap_ok Ox Ox) ?_
 simp only [qz]
 refine rf_indexA (n := 1) (sz := 1) (j := 1) rfl rfl rfl rfl Tryz.underlying53 Kx (by decide) rfl ?_
 simp only [qz]
 refine rf_load rfl rfl rfl Tryz.underlying3 rfl (fun w hw => (Kn.hd0 hw).at rfl) ?_
 simp only [qz]
 refine rf_indexA (n := 3) (sz := 1) (j := 3) rfl rfl rfl rfl Tryz.underlying53 Kx (by decide) rfl ?_
 simp only [qz]
 refine rf_load rfl rfl rfl Tryz.underlying3 rfl (fun w hw => (Kn.hd0 hw).at rfl) ?_
 simp only [qz]
 refine rf_add rfl rfl rfl rfl (wrap_ok Ox Ox) ?_
 simp only [qz]
 refine rf_indexA (n := 2) (sz := 1) (j := 2) rfl rfl rfl rfl Tryz.underlying53 Kx (by decide) rfl ?_
 simp only [qz]
 refine rf_load rfl rfl rfl Tryz.underlying3 rfl (fun w hw => (Kn.hd0 hw).at rfl) ?_
 simp only [qz]
 refine rf_indexA (n := 0) (sz := 1) (j := 0) rfl rfl rfl rfl Tryz.underlying53 Kx (by decide) rfl ?_
 simp only [qz]
 refine rf_load rfl rfl rfl Tryz.underlying3 rfl (fun w hw => (Kn.hd0 hw).at rfl) ?_
 simp only [qz]
 refine rf_sub rfl rfl rfl rfl (wrap_ok Ox Ox) ?_
 simp only [qz]
 refine rf_build (cs := fun a => #[a.eval (.tmp 18), a.eval (.tmp 23), a.eval (.tmp 28), a.eval (.tmp 33)]) rfl rfl Kx ?_
 simp only [qz]
 refine rf_storeR (n := 4) rfl rfl Kx rfl rfl (UpdR.here _ _ _ Nl) Nz ?_
 simp only [qz, Nat.reduceAdd]
 refine rg_nil (ek_block (ek_next ?_))
 refine wk_region [0, 0] rfl Kx ?_
 simp only [qy]
 refine rf_add rfl rfl rfl rfl (wrap_ok Ox Ox) ?_
 refine Zm ?_
 refine rg_nil ?_
 refine ek_roundF ((k - z.k).toNat - (j + 1)) Ox Kx ?_
 exact ⟨j + 1, y.tr, rfl, Rx, by rfl, Ox, (Lib.hid (by rw [Nm.up_succ1, hy.out]))⟩
theorem ix_small {i N : Nat} (hi : i < N) (hN : N ≤ 6) : i * N + N ≤ N * N ∧ N * N ≤ 36 := by
 have h1 := Nat.mul_le_mul_right N (show i + 1 ≤ N by omega)
 have h2 := Nat.mul_le_mul hN hN
 rw [Nat.add_mul, Nat.one_mul] at h1
 omega
theorem at_any (N i k : Nat) (xs : List Nm) (a : Option Addr) (c : Nat) (hl : xs.length = N * N) (hN : N ≤ 6) (hi : i < N) (hk : k < N) (w : World) (hA : AS w a (nms xs)) : Calls Tryz.prog 36 #[.agg #[.int .i64 N, .slice a xs.length c], .int .i64 i, .int .i64 k] w fun e w' => e = .returned (nmV (nm xs (i * N + k))) ∧ Below w.heap.size w w' := by
 have hm := ix_small hi hN
 have hc0 : ((i * N : Nat) : Int) = (i : Int) * N := Int.natCast_mul i N
 obtain ⟨b, off, rfl, hlt, hcell⟩ := AS.openN hA Ox
 go_enter Tryz.func36, Tryz.ntmps36
 refine wk_start ?_
 refine wk_seq ?_
 refine wk_region [1, 1] rfl Kx ?_
 simp only [qy]
 refine Rgn fun g1 => ?_
 simp only [qz]
 refine Rgn fun g2 => ?_
 simp only [qz]
 refine rg_nil (ek_next (wk_seq ?_))
 refine wk_region [0, 0, 0, 0, 0, 0, 0, 0, 0, 0, 0, 0, 1] rfl Kx ?_
 simp only [qy]
 refine rf_field (n := 1) (j := 0) rfl rfl rfl Tryz.underlying69 rfl Kx rfl ?_
 simp only [qz]
 refine rf_field (n := 0) (j := 1) rfl rfl rfl Tryz.underlying24 rfl Kx rfl ?_
 simp only [qz]
 refine rf_load rfl rfl rfl Tryz.underlying22 rfl (fun w hw => (Kn.hd0 (Kn.tl hw)).at rfl) ?_
 refine Zm ?_
 refine rf_field (n := 1) (j := 0) rfl rfl rfl Tryz.underlying69 rfl Kx rfl ?_
 simp only [qz]
 refine rf_field (n := 0) (j := 0) rfl rfl rfl Tryz.underlying24 rfl Kx rfl ?_
 simp only [qz]
 refine rf_load rfl rfl rfl Tryz.underlying3 rfl (fun w hw => (Kn.hd0 (Kn.tl hw)).at rfl) ?_
 simp only [qz]
 refine rf_mul rfl rfl rfl rfl (wrap_ok Ox Ox) ?_
 refine Zm ?_
 refine rf_add rfl rfl rfl rfl (wrap_ok Ox Ox) ?_
 simp only [qz]
 refine rf_indexS (n := i * N + k) (sz := 5) (j := off + (i * N + k) * 5) rfl rfl rfl rfl Tryz.underlying22 Kx (by rw [Int.natCast_add, Int.natCast_mul]) Ox rfl ?_
 simp only [qz]
 refine rf_loadC (n := 5) (vs := nmC (nm xs (i * N + k))) rfl rfl rfl Tryz.underlying55 rfl Kx rfl (fun w hw => atN_range ((hcell _ Ox).kn hw hlt (by simp))) ?_
 simp only [qz]
 refine rf_storeR (n := 5) rfl rfl Kx rfl rfl (UpdR.here _ _ _ Nl) Nz ?_
 simp only [qz, Nat.reduceAdd]
 refine rg_nil (ek_next (wk_ret ?_))
 refine ek_ret (fun w hw => ⟨rfl, _, run_results1 rfl rfl (Kn.hd0 hw) Tryz.underlying55 rfl Kx, ?_⟩)
 (try simp only [qz])
 first | exact ⟨rfl, hw.below⟩ | exact ⟨trivial, hw.below⟩ | exact hw.below
theorem made_any (N : Nat) (hN : N ≤ 6) (fe : Nat → Nat → NR) (fv : Value) (hE : ∀ i k c, i < N → k < N → fe i k = .error c → c ≠ 0) (w : World) (hF : FnV w fv (D2 N N fun i k => numV (fe i k))) : Calls Tryz.prog 33 #[.int .i64 N, fv] w fun e w' => RetR w N (madeR N fe) e w' := by
 go_enter Tryz.func33, Tryz.ntmps33
 refine wk_start ?_
 refine wk_seq ?_
 refine wk_region [1, 0] rfl Kx ?_
 simp only [qy]
 refine Rgn fun g1 => ?_
 refine Zm ?_
 refine rg_nil (ek_next (wk_seq ?_))
 refine wk_region [0, 0, 1, 1] rfl Kx ?_
 refine Zm ?_
 refine rf_build (cs := fun a => #[a.eval (.tmp 11), .slice none 0 0]) rfl rfl Kx ?_
 simp only [qz]
 refine Rgn fun g2 => ?_
 simp only [qz]
 refine rf_storeR (n := 2) rfl rfl Kx rfl rfl (UpdR.here _ _ _ Nl) Nz ?_
 simp only [qz, Nat.reduceAdd]
 refine rg_nil (ek_next (wk_seq (wk_seq ?_)))
 refine wk_region [0, 0] rfl Kx ?_
 refine Zm ?_
 refine rg_nil (ek_next (wk_block ?_))
 refine wk_loopF [5, 7, 8, 9, 10, 14, 15, 16, 17, 18, 19, 20, 21, 22, 23, 24, 25, 26, 27, 28, 29, 30, 31, 32, 33, 34, 35, 36, 37, 38, 39] (fun mz f s => ∃ (i : Nat) (l : List Nm) (u : List Blk) (av : Option Addr) (cv : Nat), f 14 = .int .i64 i ∧ s = (u ++ ((g2, .cells #[.int .i64 N, .slice av l.length cv] 24) :: ((g1, .cells #[.int .i64 0, .slice none 0 0] 24) :: []))) ∧ mz = N - i ∧ i ≤ N ∧ Hid (gather (fun t => fe (t / N) (t % N)) (i * N) = .ok l) ∧ OwnN u (.slice av l.length cv) l) ((fun (i : Nat) (l : List Nm) (u : List Blk) (av : Option Addr) (cv : Nat) => N - i) (0) ([]) ([]) (none) (0)) ?_ Kx ?_
 ·exact ⟨0, [], [], none, 0, rfl, rfl, rfl, by omega, (Lib.hid (by (try rw [Nat.zero_mul]); (try rfl))), OwnG.nil⟩
 rintro mz f1 s ⟨i, l, u, av, cv, hs1_14, rfl, hn, hd1, hd2, hd3⟩
 simp only [Act.putF, List.foldl_cons, List.foldl_nil, hs1_14, Act.put, Act.eval, q1, q2, q3, q4, q5, q6, q7, q8, q9, q10, q11, q12, q13, q14, q15, q16, q17, q18, Nat.reduceAdd, Bool.not_true, Bool.not_false]
 clear hs1_14
 refine wk_seq ?_
 refine wk_region [0] rfl Kx ?_
 simp only [qy]
 refine rfb_lss rfl rfl rfl rfl ?_
 intro x h1
 cases x
 ·(try simp only [qd, ne_eq] at h1)
  simp only [qz]; refine rg_nil (ek_next (wk_seq (wk_cond_f rfl (wk_exit (ek_then_exit (ek_then_exit (ek_block_exit (ek_next (wk_seq ?_))))))))); refine wk_region [0, 1, 0] rfl Kx ?_; simp only [qy]; refine rf_loadR (n := 2) rfl rfl rfl Tryz.underlying24 rfl Kx (fun w hw => Kn.hd0 (Kn.tlU hw)) rfl rfl ?_; simp only [qz]; refine rf_storeR (n := 2) rfl rfl Kx rfl rfl (UpdR.app _ (UpdR.there _ (UpdR.here _ _ _ Nl))) Nz ?_
  simp only [qz, Nat.reduceAdd]; refine Zm ?_; refine rg_nil (ek_next (wk_ret ?_)); refine ek_ret (fun w hw => ⟨rfl, _, run_results2 rfl rfl (Kn.hd0 (Kn.tl (Kn.tlU hw))) Tryz.underlying24 rfl Kx, ?_⟩); (try simp only [qz])
  obtain rfl : N = i := by omega
  have hg := hd2.out
  exact ⟨.slice av l.length cv, u, by unfold madeR; rw [hg]; rfl, (by unfold madeR; rw [hg]; exact hd3), hw.made (List.sublist_append_left _ _)⟩
 (try simp only [qd, ne_eq] at h1)
 simp only [qz]
 refine rg_nil (ek_next (wk_seq (wk_cond_t rfl (wk_skip (ek_next (wk_seq (wk_block (wk_seq ?_))))))))
 refine wk_region [0, 0] rfl Kx ?_
 refine Zm ?_
 refine rg_nil (ek_next (wk_seq ?_))
 refine wk_region [0, 0] rfl Kx ?_
 refine Zm ?_
 refine rg_nil (ek_next (wk_block ?_))
 refine wk_loopF [5, 8, 9, 10, 18, 19, 20, 21, 22, 23, 24, 25, 26, 27, 28, 29, 30, 31, 32, 33, 34, 35, 36, 37, 38] (fun mz f s => ∃ (k : Nat) (l : List Nm) (u : List Blk) (av : Option Addr) (cv : Nat), f 18 = .int .i64 k ∧ s = (u ++ ((g2, .cells #[.int .i64 N, .slice av l.length cv] 24) :: ((g1, .cells #[.int .i64 0, .slice none 0 0] 24) :: []))) ∧ mz = N - k ∧ k ≤ N ∧ Hid (gather (fun t => fe (t / N) (t % N)) (i * N + k) = .ok l) ∧ OwnN u (.slice av l.length cv) l) ((fun (k : Nat) (l : List Nm) (u : List Blk) (av : Option Addr) (cv : Nat) => N - k) (0) (l) (u) (av) (cv)) ?_ Kx ?_
 ·exact ⟨0, l, u, av, cv, rfl, rfl, rfl, by omega, hd2, hd3⟩
 rintro mz f2 s ⟨k, l, u, av, cv, hs2_18, rfl, hn, he1, he2, he3⟩
 simp only [Act.putF, List.foldl_cons, List.foldl_nil, hs2_18, Act.put, Act.eval, q1, q2, q3, q4, q5, q6, q7, q8, q9, q10, q11, q12, q13, q14, q15, q16, q17, q18, Nat.reduceAdd, Bool.not_true, Bool.not_false]
 clear hs2_18
 have hll : l.length ≤ 36 := by (have h1 := gather_len he2.out; have h2 := ix_small (i := i) (N := N) Ox hN; omega)
 refine wk_seq ?_
 refine wk_region [0] rfl Kx ?_
 simp only [qy]
 refine rfb_lss rfl rfl rfl rfl ?_
 intro x h2
 cases x
 ·(try simp only [qd, ne_eq] at h2)
  simp only [qz]; refine rg_nil (ek_next (wk_seq (wk_cond_f rfl (wk_exit (ek_then_exit (ek_then_exit (ek_block_exit (ek_block (ek_next ?_))))))))); refine wk_region [0, 0] rfl Kx ?_; simp only [qy]; refine rf_add rfl rfl rfl rfl (wrap_ok Ox Ox) ?_; refine Zm ?_; refine rg_nil ?_
  obtain rfl : N = k := by omega
  refine ek_roundF (N - (i + 1)) Ox Kx ?_
  exact ⟨i + 1, l, u, av, cv, rfl, by rfl, by rfl, Ox, (Lib.hid (by rw [← he2.out, Nat.add_mul, Nat.one_mul])), he3⟩
 (try simp only [qd, ne_eq] at h2)
 simp only [qz]
 refine rg_nil (ek_next (wk_seq (wk_cond_t rfl (wk_skip (ek_next (wk_seq (wk_block (wk_seq ?_))))))))
 refine wk_region [0, 0] rfl Kx ?_
 refine Zm ?_
 refine rg_nil (ek_next (wk_seq ?_))
 refine wk_region [0, 0, 0, 1, 0, 0, 0, 1, 1, 0] rfl Kx ?_
 refine Zm ?_
 refine rg_fnv (numV (fe i k)) Rx hF rfl (by simp only [qm, qs, Act.eval] <;> rfl) ⟨i, k, by omega, by omega, rfl, rfl⟩ Nz ?_
 rcases hr : fe i k with c | z
 ·have hc0 := hE i k c Ox Ox hr
  (try simp only [numV]); refine Zm ?_; refine rf_extract rfl rfl rfl rfl ?_; simp only [qz]; refine rf_extract rfl rfl rfl rfl ?_; simp only [qz]
  refine Rgn fun g3 => ?_
  simp only [qz]; refine rf_storeR (n := 5) rfl rfl Kx rfl rfl (UpdR.here _ _ _ Nl) Nz ?_; simp only [qz, Nat.reduceAdd]; refine Zm ?_; refine rg_nil (ek_next (wk_seq (wk_seq ?_))); refine wk_region [0, 0] rfl Kx ?_; refine Zm ?_; refine rfb_neq rfl rfl rfl rfl ?_; intro x h3
  obtain rfl : x = true := by (refine h3.symm.trans ?_; exact decide_eq_true Ox)
  clear h3; simp only [qz]; refine rg_nil (ek_next (wk_cond_t rfl (wk_seq ?_))); refine wk_region [0, 0, 1, 0] rfl Kx ?_; simp only [qy]; refine rf_build (cs := fun a => #[.int .i64 0, .slice none 0 0]) rfl rfl Kx ?_; refine Zm ?_; refine rf_storeR (n := 2) rfl rfl Kx rfl rfl (UpdR.there _ (UpdR.app _ (UpdR.there _ (UpdR.here _ _ _ Nl)))) Nz ?_; simp only [qz, Nat.reduceAdd]; refine Zm ?_; refine rg_nil (ek_next (wk_ret (ek_then_ret (ek_block_ret (ek_then_ret (ek_then_ret (ek_block_ret (ek_block_ret (ek_then_ret (ek_then_ret (ek_block_ret (ek_then_ret ?_))))))))))))
  refine ek_ret (fun w hw => ⟨rfl, _, run_results2 rfl rfl (Kn.hd0 (Kn.tl (Kn.tlU (Kn.tl hw)))) Tryz.underlying24 rfl Kx, ?_⟩); (try simp only [qz])
  have hg := gather_err (t := i * N + k) (c := c) he2.out (by (try dsimp only); rw [ix_div Ox, ix_mod Ox]; exact hr) (N * N) (ix_lt Ox Ox)
  exact ⟨.slice none 0 0, [], by unfold madeR; rw [hg]; rfl, (by unfold madeR; rw [hg]; exact OwnG.nil), .nil hw.below⟩
 (try simp only [numV])
 refine Zm ?_
 refine rf_extract rfl rfl rfl rfl ?_
 simp only [qz]
 refine rf_extract rfl rfl rfl rfl ?_
 simp only [qz]
 refine Rgn fun g3 => ?_
 simp only [qz]
 refine rf_storeR (n := 5) rfl rfl Kx rfl rfl (UpdR.here _ _ _ Nl) Nz ?_
 simp only [qz, Nat.reduceAdd]
 refine Zm ?_
 refine rg_nil (ek_next (wk_seq (wk_seq ?_)))
 refine wk_region [0, 0] rfl Kx ?_
 refine Zm ?_
 refine rf_neq (b := false) rfl rfl rfl rfl (by decide) ?_
 simp only [qz]
 refine rg_nil (ek_next (wk_cond_f rfl (wk_skip (ek_next ?_))))
 refine wk_region [0, 0, 0, 1, 1, 0, 1] rfl Kx ?_
 simp only [qy]
 refine rf_field (n := 0) (j := 1) rfl rfl rfl Tryz.underlying24 rfl Kx rfl ?_
 simp only [qz]
 refine rf_load rfl rfl rfl Tryz.underlying22 rfl (fun w hw => (Kn.hd0 (Kn.tlU (Kn.tl hw))).at rfl) ?_
 simp only [qz]
 refine rf_loadR (n := 5) rfl rfl rfl Tryz.underlying55 rfl Kx (fun w hw => Kn.hd0 hw) rfl rfl ?_
 simp only [qz]
 refine rg_newS (cs := ?_) (ty := ?_) (n := 1) (c := 1) Rx (fun w => ?_) Nz (fun g4 => ?_); rotate_left 2
 focus (go_simp; rfl)
 simp only [qz]
 refine rg_appN (x := z) Rx rfl he3 rfl Ox (perm_atU (l := [_, _]) (((((List.Perm.refl _).cons _).cons _).cons _).cons _)) (fun w hw => Kn.hd0 hw) Nz (fun uN1 aN1 cN1 hON1 => ?_)
 simp only [qz]
 refine rf_field (n := 0) (j := 1) rfl rfl rfl Tryz.underlying24 rfl Kx rfl ?_
 simp only [qz]
 refine rf_store rfl rfl Kx rfl rfl (UpdR.app _ (UpdR.there _ (UpdR.there _ (UpdR.here _ _ _ Nl)))) Nz ?_
 simp only [qz]
 refine rg_nil (ek_block (ek_next ?_))
 refine wk_region [0, 0] rfl Kx ?_
 simp only [qy]
 refine rf_add rfl rfl rfl rfl (wrap_ok Ox Ox) ?_
 refine Zm ?_
 refine rg_nil ?_
 refine ek_sub (List.Sublist.append_left (sk _ (sk _ (sc _ (sc _ sn)))) _) ?_
 refine ek_roundF (N - (k + 1)) Ox Kx ?_
 exact ⟨k + 1, l ++ [z], uN1, aN1, cN1, rfl, (by simp only [List.length_append, List.length_cons, List.length_nil, Nat.zero_add]), by rfl, Ox, (Lib.hid (by rw [← Nat.add_assoc]; exact gather_ok he2.out (by (try dsimp only); rw [ix_div Ox, ix_mod Ox]; exact hr))), (by simpa using hON1)⟩
def idR (i k : Nat) : NR := .ok (if i = k then Nm.one else Nm.zero)
theorem identity1_any (i k : Nat) (w : World) : Calls Tryz.prog 87 #[.int .i64 (i : Int), .int .i64 (k : Int)] w fun e w' => e = .returned (numV (idR i k)) ∧ Below w.heap.size w w' := by
 go_enter Tryz.func87, Tryz.ntmps87
 refine wk_start ?_
 refine wk_seq ?_
 refine wk_region [1, 0] rfl Kx ?_
 simp only [qy]
 refine Rgn fun g1 => ?_
 refine Zm ?_
 refine rg_nil (ek_next (wk_seq (wk_seq ?_)))
 refine wk_region [0, 0, 0] rfl Kx ?_
 refine Zm ?_
 refine rfb_eql rfl rfl rfl rfl ?_
 intro x h1
 cases x
 ·(try simp only [qd, ne_eq] at h1)
  simp only [qz]; refine rg_nil (ek_next (wk_cond_f rfl (wk_skip (ek_next (wk_seq ?_))))); refine wk_region [0, 1, 0] rfl Kx ?_; simp only [qy]; refine rf_build (cs := fun a => #[.int .i64 0, .int .i64 0, .int .i64 0, .int .i64 0, .int .i64 0]) rfl rfl Kx ?_; simp only [qz]; refine rf_storeR (n := 5) rfl rfl Kx rfl rfl (UpdR.here _ _ _ Nl) Nz ?_; simp only [qz, Nat.reduceAdd]; refine Zm ?_; refine rg_nil (ek_next (wk_ret ?_))
  refine ek_ret (fun w hw => ⟨rfl, _, run_results2 rfl rfl (Kn.hd0 hw) Tryz.underlying55 rfl Kx, ?_⟩); (try simp only [qz])
  exact ⟨by (unfold idR; first | (rw [if_pos Ox]; done) | (rw [if_neg Ox]; done) | (rw [if_pos Ox]; rfl) | (rw [if_neg Ox]; rfl)), hw.below⟩
 (try simp only [qd, ne_eq] at h1)
 simp only [qz]
 refine rg_nil (ek_next (wk_cond_t rfl (wk_seq ?_)))
 refine wk_region [0, 0, 1, 0] rfl Kx ?_
 simp only [qy]
 refine rf_build (cs := fun a => #[a.eval (.const (.int .i64 1)), .int .i64 0, .int .i64 0, .int .i64 0]) rfl rfl Kx ?_
 simp only [qz]
 refine rf_build (cs := fun a => #[cellAt (a.eval (.tmp 9)) 0, cellAt (a.eval (.tmp 9)) 1, cellAt (a.eval (.tmp 9)) 2, cellAt (a.eval (.tmp 9)) 3, .int .i64 0]) rfl rfl Kx ?_
 simp only [qz]
 refine rf_storeR (n := 5) rfl rfl Kx rfl rfl (UpdR.here _ _ _ Nl) Nz ?_
 simp only [qz, Nat.reduceAdd]
 refine Zm ?_
 refine rg_nil (ek_next (wk_ret (ek_then_ret ?_)))
 refine ek_ret (fun w hw => ⟨rfl, _, run_results2 rfl rfl (Kn.hd0 hw) Tryz.underlying55 rfl Kx, ?_⟩)
 (try simp only [qz])
 exact ⟨by (unfold idR; first | (rw [if_pos Ox]; done) | (rw [if_neg Ox]; done) | (rw [if_pos Ox]; rfl) | (rw [if_neg Ox]; rfl)), hw.below⟩
def identR (n : Int) : LR := if 1 ≤ n ∧ n ≤ 6 then madeR n.toNat idR else .error 2
theorem identity_any (n : Int) (w : World) : Calls Tryz.prog 55 #[.int .i64 n] w fun e w' => RetM w (rN n.toNat (identR n)) (rL (identR n)) (rC (identR n)) e w' := by
 go_enter Tryz.func55, Tryz.ntmps55
 refine wk_start ?_
 refine wk_seq ?_
 refine wk_region [1, 0] rfl Kx ?_
 simp only [qy]
 refine Rgn fun g1 => ?_
 refine Zm ?_
 refine rg_nil (ek_next (wk_seq (wk_seq ?_)))
 refine wk_region [0, 0, 0, 0, 0, 0] rfl Kx ?_
 refine Zm ?_
 refine rfb_lss rfl rfl rfl rfl ?_
 intro x h1
 cases x
 ·(try simp only [qd, ne_eq] at h1)
  refine Zm ?_; apply rg_soft_g
  case hg => rfl
  case hy => (intro w hw; go_simp; (try go_bits); exact Yld.mk _ _)
  simp only [qz]; refine rfb_gtr rfl rfl rfl rfl ?_; intro x h2; cases x
  ·(try simp only [qd, ne_eq] at h2)
   simp only [qz]; refine rf_pick rfl rfl rfl ?_; simp only [qz]; refine rg_nil (ek_next (wk_cond_f rfl (wk_skip (ek_next (wk_seq ?_))))); refine wk_region [0, 1, 0, 0, 1, 0] rfl Kx ?_; refine Zm ?_
   obtain ⟨N, rfl⟩ : ∃ N : Nat, n = N := ⟨n.toNat, by omega⟩
   apply rg_retM Rx Kx
   case hargs => exact Ax
   case h => exact fun w hw => made_any N Ox idR _ (fun i k c _ _ h => by cases h) w (FnV.lit Kx (fun w' vs r ⟨i, k, _, _, hv, hr⟩ => by subst hv hr; exact identity1_any i k w'))
   case hz => exact Nz
   intro va2 vc2 u2 hO2; simp only [qz]; refine rf_extract rfl rfl rfl rfl ?_; simp only [qz]; refine rf_extract rfl rfl rfl rfl ?_; simp only [qz]; refine rf_storeR (n := 2) rfl rfl Kx rfl rfl (UpdR.app _ (UpdR.here _ _ _ Nl)) Nz ?_; simp only [qz, Nat.reduceAdd]; refine Zm ?_; refine rg_nil (ek_next (wk_ret ?_)); refine ek_ret (fun w hw => ⟨rfl, _, run_results2 rfl rfl (Kn.hd0 (Kn.tlU hw)) Tryz.underlying24 rfl Kx, ?_⟩)
   (try simp only [qz])
   have hid : identR (N : Int) = madeR N idR := by (unfold identR; rw [if_pos Ox, Int.toNat_natCast])
   rw [Int.toNat_natCast, hid]
   exact ⟨.slice va2 (rL (madeR N idR)).length vc2, u2, rfl, hO2, hw.made (List.sublist_append_left _ _)⟩
  (try simp only [qd, ne_eq] at h2); simp only [qz]; refine rf_pick rfl rfl rfl ?_; simp only [qz]; refine rg_nil (ek_next (wk_cond_t rfl (wk_seq ?_))); refine wk_region [0, 1, 0] rfl Kx ?_; simp only [qy]; refine rf_build (cs := fun a => #[.int .i64 0, .slice none 0 0]) rfl rfl Kx ?_; simp only [qz]; refine rf_storeR (n := 2) rfl rfl Kx rfl rfl (UpdR.here _ _ _ Nl) Nz ?_; simp only [qz, Nat.reduceAdd]; refine Zm ?_; refine rg_nil (ek_next (wk_ret (ek_then_ret ?_)))
  refine ek_ret (fun w hw => ⟨rfl, _, run_results2 rfl rfl (Kn.hd0 hw) Tryz.underlying24 rfl Kx, ?_⟩); (try simp only [qz])
  have hid : identR n = .error 2 := by (unfold identR; rw [if_neg Ox])
  rw [hid]
  exact ⟨.slice none 0 0, [], rfl, OwnG.nil, .nil hw.below⟩
 (try simp only [qd, ne_eq] at h1)
 refine Zm ?_
 refine rf_pick rfl rfl rfl ?_
 simp only [qz]
 refine rg_nil (ek_next (wk_cond_t rfl (wk_seq ?_)))
 refine wk_region [0, 1, 0] rfl Kx ?_
 simp only [qy]
 refine rf_build (cs := fun a => #[.int .i64 0, .slice none 0 0]) rfl rfl Kx ?_
 simp only [qz]
 refine rf_storeR (n := 2) rfl rfl Kx rfl rfl (UpdR.here _ _ _ Nl) Nz ?_
 simp only [qz, Nat.reduceAdd]
 refine Zm ?_
 refine rg_nil (ek_next (wk_ret (ek_then_ret ?_)))
 refine ek_ret (fun w hw => ⟨rfl, _, run_results2 rfl rfl (Kn.hd0 hw) Tryz.underlying24 rfl Kx, ?_⟩)
 (try simp only [qz])
 have hid : identR n = .error 2 := by (unfold identR; rw [if_neg Ox])
 rw [hid]
 exact ⟨.slice none 0 0, [], rfl, OwnG.nil, .nil hw.below⟩
section
variable {P : Program} {w : World}
theorem run_results_c2 {fn : Func} {k k' ty ty' : Nat} {tmps : Array Value} {g t g' t' : Nat} {cs cs' : Array Value} {d d' : TypeDesc} (hres : fn.results = #[.cell k ty, .cell k' ty'])
    (hk : tmps.getD k undef = .pointer (some ⟨g, 0, none⟩)) (hg : Hd w g t cs) (hu : P.underlying ty = some d) (hr : isRow d = true)
    (hs : (P.info? ty).map (·.size) = some cs.size) (hk' : tmps.getD k' undef = .pointer (some ⟨g', 0, none⟩)) (hg' : Hd w g' t' cs') (hu' : P.underlying ty' = some d') (hr' : isRow d' = true)
    (hs' : (P.info? ty').map (·.size) = some cs'.size) : (results fn tmps).run P w = .ok (.tuple #[.agg cs, .agg cs']) w := by
  have := run_load_hd hg hu hr hs
  have := run_load_hd hg' hu' hr' hs'
  have hk0 : tmps[k]?.getD undef = .pointer (some ⟨g, 0, none⟩) := by simpa using hk
  have hk0' : tmps[k']?.getD undef = .pointer (some ⟨g', 0, none⟩) := by simpa using hk'
  simp [results, hres, hk0, hk0', asAddr, *]
end
theorem Hd.belowS {w w' : World} {g t : Nat} {cs : Array Value} (h : Hd w g t cs) (hb : Below w.heap.size w w') : Hd w' g t cs := (hb.block g h.lt).trans h
theorem numV_ve2 (r : NR) : ∃ (v : Nm) (c : Int), numV r = .tuple #[nmV v, .int .i64 c] := by cases r <;> exact ⟨_, _, rfl⟩
theorem elemOk {xs : List Nm} {N : Nat} (hok : allOk xs = true) (hl : xs.length = N * N) {i k : Nat} (hi : i < N) (hk : k < N) : (nm xs (i * N + k)).Ok := ok_at hok (by rw [hl]; exact ix_lt hi hk)
theorem validB_N' {n : Int} {xs : List Nm} (h : validB n xs = true) : ∃ N : Nat, n = N ∧ 1 ≤ N ∧ N ≤ 6 ∧ xs.length = N * N ∧ xs.length ≤ 36 ∧ allOk xs = true := by
  simp only [validB, Bool.and_eq_true, decide_eq_true_eq] at h
  obtain ⟨h1, h2, h3, h4⟩ := h
  obtain ⟨N, rfl⟩ : ∃ N : Nat, n = N := ⟨n.toNat, by omega⟩
  have h5 : xs.length = N * N := by
    have e : ((N * N : Nat) : Int) = (N : Int) * N := Int.natCast_mul N N
    omega
  have h6 : N * N ≤ 6 * 6 := Nat.mul_le_mul Ox Ox
  exact ⟨N, rfl, by omega, by omega, h5, by omega, h4⟩
theorem retM_err {w w' : World} {K : Nat} {c : Int} {r : LR} (h : r = .error c) (hb : Below w.heap.size w w') : RetM w (rN K r) (rL r) (rC r) (.returned (.tuple #[.agg #[.int .i64 0, .slice none 0 0], .int .i64 c])) w' := by
  subst h
  exact ⟨.slice none 0 0, [], rfl, OwnG.nil, .nil hb⟩
theorem wrap_eqB {n r : Int} (h : n = r) (h0 : -9223372036854775808 ≤ r) (h1 : r < 9223372036854775808) : IntKind.i64.wrap n = r := by
  rw [h]; exact wrap_ok Ox Ox
end Go.Proofs.YtccbinnlnkpplaaGreat
namespace Go.Proofs.YtccbinnlnkpplaaGreat
set_option linter.all false
set_option maxRecDepth 100000
set_option maxHeartbeats 1000000
structure Q4 where
  a : Rat
  b : Rat
  c : Rat
  d : Rat
namespace Q4
theorem ext' {x y : Q4} (h1 : x.a = y.a) (h2 : x.b = y.b) (h3 : x.c = y.c) (h4 : x.d = y.d) : x = y := by cases x; cases y; simp_all
def zero : Q4 := ⟨0, 0, 0, 0⟩
def one : Q4 := ⟨1, 0, 0, 0⟩
def add (x y : Q4) : Q4 := ⟨x.a + y.a, x.b + y.b, x.c + y.c, x.d + y.d⟩
def neg (x : Q4) : Q4 := ⟨-x.a, -x.b, -x.c, -x.d⟩
def mul (x y : Q4) : Q4 := ⟨x.a * y.a - x.b * y.d - x.c * y.c - x.d * y.b, x.a * y.b + x.b * y.a - x.c * y.d - x.d * y.c, x.a * y.c + x.b * y.b + x.c * y.a - x.d * y.d, x.a * y.d + x.b * y.c + x.c * y.b + x.d * y.a⟩
def conj (x : Q4) : Q4 := ⟨x.a, -x.d, -x.c, -x.b⟩
instance : Zero Q4 := ⟨zero⟩
instance : One Q4 := ⟨one⟩
instance : Add Q4 := ⟨add⟩
instance : Mul Q4 := ⟨mul⟩
instance : Neg Q4 := ⟨neg⟩
instance : Sub Q4 := ⟨fun x y => add x (neg y)⟩
theorem za : (0 : Q4).a = 0 := rfl
theorem zb : (0 : Q4).b = 0 := rfl
theorem zc : (0 : Q4).c = 0 := rfl
theorem zd : (0 : Q4).d = 0 := rfl
theorem oa : (1 : Q4).a = 1 := rfl
theorem ob : (1 : Q4).b = 0 := rfl
theorem oc : (1 : Q4).c = 0 := rfl
theorem od : (1 : Q4).d = 0 := rfl
variable (x y z : Q4)
theorem aa : (x + y).a = x.a + y.a := rfl
theorem ab : (x + y).b = x.b + y.b := rfl
theorem ac : (x + y).c = x.c + y.c := rfl
theorem ad : (x + y).d = x.d + y.d := rfl
theorem na : (-x).a = -x.a := rfl
theorem nb : (-x).b = -x.b := rfl
theorem nc : (-x).c = -x.c := rfl
theorem nd : (-x).d = -x.d := rfl
theorem sa : (x - y).a = x.a + -y.a := rfl
theorem sb : (x - y).b = x.b + -y.b := rfl
theorem sc : (x - y).c = x.c + -y.c := rfl
theorem sd : (x - y).d = x.d + -y.d := rfl
theorem ma : (x * y).a = x.a * y.a - x.b * y.d - x.c * y.c - x.d * y.b := rfl
theorem mb : (x * y).b = x.a * y.b + x.b * y.a - x.c * y.d - x.d * y.c := rfl
theorem mc : (x * y).c = x.a * y.c + x.b * y.b + x.c * y.a - x.d * y.d := rfl
theorem md : (x * y).d = x.a * y.d + x.b * y.c + x.c * y.b + x.d * y.a := rfl
theorem ca : (conj x).a = x.a := rfl
theorem cb : (conj x).b = -x.d := rfl
theorem cc : (conj x).c = -x.c := rfl
theorem cd : (conj x).d = -x.b := rfl
theorem add_comm : x + y = y + x := by apply ext' <;> simp only [aa, ab, ac, ad] <;> grind
theorem add_assoc : x + y + z = x + (y + z) := by apply ext' <;> simp only [aa, ab, ac, ad] <;> grind
theorem add_zero : x + 0 = x := by apply ext' <;> simp only [aa, ab, ac, ad, za, zb, zc, zd] <;> grind
theorem zero_add : 0 + x = x := by rw [add_comm, add_zero]
theorem add_neg : x + -x = 0 := by apply ext' <;> simp only [aa, ab, ac, ad, na, nb, nc, nd, za, zb, zc, zd] <;> grind
theorem sub_def : x - y = x + -y := rfl
theorem mul_comm : x * y = y * x := by apply ext' <;> simp only [ma, mb, mc, md] <;> grind
theorem mul_assoc : x * y * z = x * (y * z) := by apply ext' <;> simp only [ma, mb, mc, md] <;> grind
theorem mul_one : x * 1 = x := by apply ext' <;> simp only [ma, mb, mc, md, oa, ob, oc, od] <;> grind
theorem one_mul : 1 * x = x := by rw [mul_comm, mul_one]
theorem mul_zero : x * 0 = 0 := by apply ext' <;> simp only [ma, mb, mc, md, za, zb, zc, zd] <;> grind
theorem zero_mul : 0 * x = 0 := by rw [mul_comm, mul_zero]
theorem mul_add : x * (y + z) = x * y + x * z := by apply ext' <;> simp only [ma, mb, mc, md, aa, ab, ac, ad] <;> grind
theorem add_mul : (x + y) * z = x * z + y * z := by rw [mul_comm, mul_add, mul_comm z x, mul_comm z y]
theorem mul_neg : x * -y = -(x * y) := by apply ext' <;> simp only [ma, mb, mc, md, na, nb, nc, nd] <;> grind
theorem neg_mul : -x * y = -(x * y) := by rw [mul_comm, mul_neg, mul_comm]
theorem neg_add : -(x + y) = -x + -y := by apply ext' <;> simp only [aa, ab, ac, ad, na, nb, nc, nd] <;> grind
theorem neg_zero : -(0 : Q4) = 0 := by apply ext' <;> rfl
theorem conj_add : conj (x + y) = conj x + conj y := by apply ext' <;> simp only [aa, ab, ac, ad, ca, cb, cc, cd] <;> grind
theorem conj_mul : conj (x * y) = conj x * conj y := by apply ext' <;> simp only [ma, mb, mc, md, ca, cb, cc, cd] <;> grind
theorem conj_neg : conj (-x) = -conj x := by apply ext' <;> simp only [na, nb, nc, nd, ca, cb, cc, cd]
theorem conj_conj : conj (conj x) = x := by apply ext' <;> simp only [ca, cb, cc, cd] <;> grind
theorem conj_zero : conj 0 = 0 := by apply ext' <;> rfl
theorem conj_one : conj 1 = 1 := by apply ext' <;> rfl
theorem sub_zero_eq {x y : Q4} (h : x - y = 0) : x = y := by
  have e : x - y + y = x := by apply ext' <;> simp only [aa, ab, ac, ad, sa, sb, sc, sd] <;> grind
  rw [← e, h, zero_add]
theorem sub_self : x - x = 0 := add_neg x
theorem norm_a : (x * conj x).a = x.a * x.a + x.b * x.b + x.c * x.c + x.d * x.d := by simp only [ma, ca, cb, cc, cd]; grind
theorem sq0 (r : Rat) : 0 ≤ r * r := by
  rcases Rat.le_total (a:=0) (b:=r) with h | h
  · exact Rat.mul_nonneg h h
  · have := Rat.mul_nonneg (a := -r) (b := -r) (by grind) (by grind)
    grind
theorem norm_nonneg : 0 ≤ (x * conj x).a := by
  rw [norm_a]
  have := sq0 x.a; have := sq0 x.b; have := sq0 x.c; have := sq0 x.d
  grind
theorem norm_zero {x : Q4} (h : (x * conj x).a = 0) : x = 0 := by
  rw [norm_a] at h
  have h1 := sq0 x.a; have h2 := sq0 x.b; have h3 := sq0 x.c; have h4 := sq0 x.d
  have z : ∀ r : Rat, r * r = 0 → r = 0 := fun r h => by grind
  exact ext' (z _ (by grind)) (z _ (by grind)) (z _ (by grind)) (z _ (by grind))
def dh (x : Q4) : Q4 := ⟨(x.b - x.d) / 2, (x.a + x.c) / 2, (x.b + x.d) / 2, (x.c - x.a) / 2⟩
def dn : Nat → Q4 → Q4
  | 0, x => x
  | n + 1, x => dn n (dh x)
theorem dh_inj {x y : Q4} (h : dh x = dh y) : x = y := by
  have h1 : (dh x).a = (dh y).a := by rw [h]
  have h2 : (dh x).b = (dh y).b := by rw [h]
  have h3 : (dh x).c = (dh y).c := by rw [h]
  have h4 : (dh x).d = (dh y).d := by rw [h]
  simp only [dh] at h1 h2 h3 h4
  apply ext' <;> grind
theorem dn_inj : ∀ (n : Nat) {x y : Q4}, dn n x = dn n y → x = y
  | 0, _, _, h => h
  | n + 1, _, _, h => dh_inj (dn_inj n h)
theorem dh_add : dh (x + y) = dh x + dh y := by apply ext' <;> simp only [dh, aa, ab, ac, ad] <;> grind
theorem dn_add : ∀ (n : Nat) (x y : Q4), dn n (x + y) = dn n x + dn n y
  | 0, _, _ => rfl
  | n + 1, x, y => by simp only [dn]; rw [dh_add, dn_add n]
theorem dh_mul : dh (x * y) = dh x * y := by apply ext' <;> simp only [dh, ma, mb, mc, md] <;> grind
theorem dn_mul : ∀ (n : Nat) (x y : Q4), dn n (x * y) = dn n x * y
  | 0, _, _ => rfl
  | n + 1, x, y => by simp only [dn]; rw [dh_mul, dn_mul n]
theorem dn_dn : ∀ (m n : Nat) (x : Q4), dn m (dn n x) = dn (n + m) x
  | m, 0, x => by rw [Nat.zero_add]; rfl
  | m, n + 1, x => by
    rw [show n + 1 + m = (n + m) + 1 by omega]
    exact dn_dn m n (dh x)
theorem dn_mul2 (m n : Nat) (x y : Q4) : dn (m + n) (x * y) = dn m x * dn n y := by
  rw [← dn_dn, dn_mul, mul_comm, dn_mul, mul_comm]
theorem dh_conj : dh (conj x) = conj (dh x) := by apply ext' <;> simp only [dh, ca, cb, cc, cd] <;> grind
theorem dn_conj : ∀ (n : Nat) (x : Q4), dn n (conj x) = conj (dn n x)
  | 0, _ => rfl
  | n + 1, x => by simp only [dn]; rw [dh_conj, dn_conj n]
theorem dh_neg : dh (-x) = -dh x := by apply ext' <;> simp only [dh, na, nb, nc, nd] <;> grind
theorem dn_neg : ∀ (n : Nat) (x : Q4), dn n (-x) = -dn n x
  | 0, _ => rfl
  | n + 1, x => by simp only [dn]; rw [dh_neg, dn_neg n]
end Q4
def Nm.co (z : Nm) : Q4 := ⟨(z.a : Rat), (z.b : Rat), (z.c : Rat), (z.d : Rat)⟩
def Nm.val (z : Nm) : Q4 := Q4.dn z.k.toNat z.co
theorem co_tr (z : Nm) : Q4.dh z.tr.co = z.co := by
  apply Q4.ext' <;> simp only [Q4.dh, Nm.co, Nm.tr, Rat.intCast_add, Rat.intCast_sub] <;> grind
theorem val_tr {z : Nm} (h : 0 ≤ z.k) : z.tr.val = z.val := by
  unfold Nm.val
  have : z.tr.k.toNat = z.k.toNat + 1 := by simp only [Nm.tr]; omega
  rw [this]
  show Q4.dn z.k.toNat (Q4.dh z.tr.co) = _
  rw [co_tr]
theorem val_up : ∀ (n : Nat) {z : Nm}, 0 ≤ z.k → (Nm.up n z).val = z.val
  | 0, _, _ => rfl
  | n + 1, z, h => by
    have := val_up n (z := z.tr) (by simp only [Nm.tr]; omega)
    show (Nm.up n z.tr).val = _
    rw [this, val_tr h]
theorem val_eqv {x y : Nm} (hx : 0 ≤ x.k) (hy : 0 ≤ y.k) (h : Eqv x y) : x.val = y.val := by
  obtain ⟨i, j, h⟩ := h
  rw [← val_up i hx, h, val_up j hy]
theorem co_inj {x y : Nm} (hk : x.k = y.k) (h : x.co = y.co) : x = y := by
  have h1 : (x.a : Rat) = y.a := by show x.co.a = y.co.a; rw [h]
  have h2 : (x.b : Rat) = y.b := by show x.co.b = y.co.b; rw [h]
  have h3 : (x.c : Rat) = y.c := by show x.co.c = y.co.c; rw [h]
  have h4 : (x.d : Rat) = y.d := by show x.co.d = y.co.d; rw [h]
  obtain ⟨a, b, c, d, k⟩ := x
  obtain ⟨a', b', c', d', k'⟩ := y
  dsimp only at *
  rw [Rat.intCast_inj.1 h1, Rat.intCast_inj.1 h2, Rat.intCast_inj.1 h3, Rat.intCast_inj.1 h4, hk]
theorem eqv_val {x y : Nm} (hx : 0 ≤ x.k) (hy : 0 ≤ y.k) (h : x.val = y.val) : Eqv x y := by
  refine ⟨(y.k).toNat, (x.k).toNat, ?_⟩
  have hk : (Nm.up (y.k).toNat x).k = (Nm.up (x.k).toNat y).k := by rw [Nm.up_k, Nm.up_k]; omega
  refine co_inj hk ?_
  have h1 := val_up (y.k).toNat hx
  have h2 := val_up (x.k).toNat hy
  rw [h, ← h2] at h1
  unfold Nm.val at h1
  rw [hk] at h1
  exact Q4.dn_inj _ h1
theorem val_ok {x y : Nm} (hx : x.Ok) (hy : y.Ok) (h : x.val = y.val) : x = y := form_unique hx.nf hy.nf hx.k0 hy.k0 (eqv_val hx.k0 hy.k0 h)
theorem to_up {x : Nm} {m : Int} (h : 0 ≤ x.k) : (x.to m).val = x.val := val_up _ h
theorem val_addR {x y : Nm} (hx : 0 ≤ x.k) (hy : 0 ≤ y.k) : (x.addR y).val = x.val + y.val := by
  have h1 := to_up (x := x) (m := max x.k y.k) hx
  have h2 := to_up (x := y) (m := max x.k y.k) hy
  have k1 := Nm.to_k (z := x) (m := max x.k y.k) Ox
  have k2 := Nm.to_k (z := y) (m := max x.k y.k) Ox
  rw [← h1, ← h2]
  unfold Nm.val
  rw [k1, k2, ← Q4.dn_add]
  unfold Nm.addR
  dsimp only
  congr 1
  apply Q4.ext' <;> simp only [Nm.co, Q4.aa, Q4.ab, Q4.ac, Q4.ad, Rat.intCast_add]
theorem val_mulR {x y : Nm} (hx : 0 ≤ x.k) (hy : 0 ≤ y.k) : (x.mulR y).val = x.val * y.val := by
  unfold Nm.val
  have : (x.mulR y).k.toNat = x.k.toNat + y.k.toNat := by simp only [Nm.mulR]; omega
  rw [this, ← Q4.dn_mul2]
  congr 1
  apply Q4.ext' <;> simp only [Nm.co, Nm.mulR, Q4.ma, Q4.mb, Q4.mc, Q4.md, Rat.intCast_add, Rat.intCast_sub, Rat.intCast_mul]
theorem val_conj (x : Nm) : x.conj.val = Q4.conj x.val := by
  have e : x.conj.co = Q4.conj x.co := by apply Q4.ext' <;> simp only [Nm.co, Nm.conj, Q4.ca, Q4.cb, Q4.cc, Q4.cd, Rat.intCast_neg]
  unfold Nm.val
  rw [← Q4.dn_conj, e]
  rfl
theorem val_neg (x : Nm) : x.neg.val = -x.val := by
  have e : x.neg.co = -x.co := by apply Q4.ext' <;> simp only [Nm.co, Nm.neg, Q4.na, Q4.nb, Q4.nc, Q4.nd, Rat.intCast_neg]
  unfold Nm.val
  rw [← Q4.dn_neg, e]
  rfl
theorem val_zero : Nm.zero.val = 0 := rfl
theorem val_one : Nm.one.val = 1 := rfl
def sumQ : Nat → (Nat → Q4) → Q4
  | 0, _ => 0
  | n + 1, f => sumQ n f + f n
theorem sumQ_congr : ∀ {n : Nat} {f g : Nat → Q4}, (∀ i, i < n → f i = g i) → sumQ n f = sumQ n g
  | 0, _, _, _ => rfl
  | n + 1, f, g, h => by simp only [sumQ]; rw [sumQ_congr fun i hi => h i Ox, h n Ox]
theorem sumQ_add (n : Nat) (f g : Nat → Q4) : sumQ n (fun i => f i + g i) = sumQ n f + sumQ n g := by
  induction n with
  | zero => exact (Q4.add_zero 0).symm
  | succ n ih => simp only [sumQ]; rw [ih, Q4.add_assoc, Q4.add_assoc, ← Q4.add_assoc (sumQ n g), Q4.add_comm (sumQ n g) (f n), Q4.add_assoc]
theorem sumQ_zero (n : Nat) : sumQ n (fun _ => 0) = 0 := by
  induction n with
  | zero => rfl
  | succ n ih => simp only [sumQ]; rw [ih, Q4.add_zero]
theorem sumQ_neg (n : Nat) (f : Nat → Q4) : sumQ n (fun i => -f i) = -sumQ n f := by
  induction n with
  | zero => exact Q4.neg_zero.symm
  | succ n ih => simp only [sumQ]; rw [ih, Q4.neg_add]
theorem sumQ_mul (n : Nat) (x : Q4) (f : Nat → Q4) : sumQ n (fun i => x * f i) = x * sumQ n f := by
  induction n with
  | zero => exact (Q4.mul_zero x).symm
  | succ n ih => simp only [sumQ]; rw [ih, Q4.mul_add]
theorem sumQ_mulr (n : Nat) (x : Q4) (f : Nat → Q4) : sumQ n (fun i => f i * x) = sumQ n f * x := by
  rw [Q4.mul_comm, ← sumQ_mul]
  exact sumQ_congr fun i _ => Q4.mul_comm _ _
theorem sumQ_conj (n : Nat) (f : Nat → Q4) : Q4.conj (sumQ n f) = sumQ n fun i => Q4.conj (f i) := by
  induction n with
  | zero => exact Q4.conj_zero
  | succ n ih => simp only [sumQ]; rw [Q4.conj_add, ih]
theorem sumQ_swap (m n : Nat) (f : Nat → Nat → Q4) : sumQ m (fun i => sumQ n (fun j => f i j)) = sumQ n (fun j => sumQ m (fun i => f i j)) := by
  induction m with
  | zero => exact (sumQ_zero n).symm
  | succ m ih => simp only [sumQ]; rw [ih, ← sumQ_add]
def dl (i j : Nat) : Q4 := if i = j then 1 else 0
theorem sumQ_dl {n j : Nat} (f : Nat → Q4) (h : j < n) : sumQ n (fun i => dl j i * f i) = f j := by
  induction n with
  | zero => omega
  | succ n ih =>
    simp only [sumQ]
    by_cases e : j = n
    · subst e
      have : sumQ j (fun i => dl j i * f i) = sumQ j (fun _ => 0) := sumQ_congr fun i hi => by unfold dl; rw [if_neg Ox, Q4.zero_mul]
      rw [this, sumQ_zero, Q4.zero_add]
      unfold dl
      rw [if_pos rfl, Q4.one_mul]
    · rw [ih Ox]
      unfold dl
      rw [if_neg e, Q4.zero_mul, Q4.add_zero]
theorem dl_comm (i j : Nat) : dl i j = dl j i := by unfold dl; split <;> split <;> simp_all
theorem dl_conj (i j : Nat) : Q4.conj (dl i j) = dl i j := by unfold dl; split; exact Q4.conj_one; exact Q4.conj_zero
theorem sumQ_dlr {n j : Nat} (f : Nat → Q4) (h : j < n) : sumQ n (fun i => f i * dl i j) = f j := by
  rw [← sumQ_dl f h]
  exact sumQ_congr fun i _ => by rw [Q4.mul_comm, dl_comm]
theorem sumQ_a_nonneg : ∀ {n : Nat} {f : Nat → Q4}, (∀ i, i < n → 0 ≤ (f i).a) → 0 ≤ (sumQ n f).a
  | 0, _, _ => by show (0 : Rat) ≤ 0; grind
  | n + 1, f, h => by
    simp only [sumQ, Q4.aa]
    have := sumQ_a_nonneg (n := n) fun i hi => h i Ox
    have := h n Ox
    grind
theorem sumQ_a_zero : ∀ {n : Nat} {f : Nat → Q4}, (∀ i, i < n → 0 ≤ (f i).a) → (sumQ n f).a = 0 → ∀ i, i < n → (f i).a = 0
  | 0, _, _, _, i, hi => by omega
  | n + 1, f, h, h0, i, hi => by
    simp only [sumQ, Q4.aa] at h0
    have h1 := sumQ_a_nonneg (n := n) fun i hi => h i Ox
    have h2 := h n Ox
    by_cases e : i = n
    · subst e; grind
    · have h3 : (sumQ n f).a = 0 := by grind
      exact sumQ_a_zero (n := n) (fun i hi => h i Ox) h3 i Ox
def UnR (n : Nat) (m : Nat → Nat → Q4) : Prop := ∀ i j, i < n → j < n → sumQ n (fun k => m i k * Q4.conj (m j k)) = dl i j
def UnC (n : Nat) (m : Nat → Nat → Q4) : Prop := ∀ i j, i < n → j < n → sumQ n (fun k => Q4.conj (m k i) * m k j) = dl i j
theorem unC_of_unR {n : Nat} {m : Nat → Nat → Q4} (h : UnR n m) : UnC n m := by
  let p : Nat → Nat → Q4 := fun i j => sumQ n (fun k => Q4.conj (m k i) * m k j)
  have hpc : ∀ i j, Q4.conj (p i j) = p j i := fun i j => by
    show Q4.conj (sumQ n _) = sumQ n _
    rw [sumQ_conj]
    exact sumQ_congr fun k _ => by rw [Q4.conj_mul, Q4.conj_conj, Q4.mul_comm]
  have hpp : ∀ i j, i < n → j < n → sumQ n (fun k => p i k * p k j) = p i j := fun i j hi hj => by
    have e1 : sumQ n (fun k => p i k * p k j) = sumQ n fun k => sumQ n fun a => sumQ n fun b => (Q4.conj (m a i) * m a k) * (Q4.conj (m b k) * m b j) := sumQ_congr fun k _ => by
      show sumQ n _ * p k j = _
      rw [← sumQ_mulr]
      exact sumQ_congr fun a _ => by rw [← sumQ_mul]
    rw [e1, sumQ_swap]
    have e2 : ∀ a, a < n → sumQ n (fun k => sumQ n fun b => (Q4.conj (m a i) * m a k) * (Q4.conj (m b k) * m b j)) = Q4.conj (m a i) * m a j := fun a ha => by
      rw [sumQ_swap]
      have e3 : ∀ b, b < n → sumQ n (fun k => (Q4.conj (m a i) * m a k) * (Q4.conj (m b k) * m b j)) = dl a b * (Q4.conj (m a i) * m b j) := fun b hb => by
        rw [← h a b ha hb, ← sumQ_mulr]
        exact sumQ_congr fun k _ => by
          rw [Q4.mul_assoc, Q4.mul_comm (Q4.conj (m a i)), ← Q4.mul_assoc (m a k), Q4.mul_assoc (m a k * Q4.conj (m b k)), Q4.mul_comm (m b j)]
      rw [sumQ_congr e3, sumQ_dl (fun b => Q4.conj (m a i) * m b j) ha]
    rw [sumQ_congr e2]
  have htr : sumQ n (fun i => dl i i - p i i) = 0 := by
    have e1 : sumQ n (fun i => p i i) = sumQ n fun i => dl i i := by
      show sumQ n (fun i => sumQ n fun k => Q4.conj (m k i) * m k i) = _
      rw [sumQ_swap]
      exact sumQ_congr fun k hk => by
        rw [← h k k hk hk]
        exact sumQ_congr fun i _ => Q4.mul_comm _ _
    have e2 : sumQ n (fun i => dl i i - p i i) = sumQ n (fun i => dl i i) + -sumQ n (fun i => p i i) := by rw [← sumQ_neg, ← sumQ_add]; rfl
    rw [e2, e1, Q4.add_neg]
  have hx : ∀ i, i < n → sumQ n (fun j => (dl i j - p i j) * Q4.conj (dl i j - p i j)) = dl i i - p i i := fun i hi => by
    have e1 : ∀ j, j < n → (dl i j - p i j) * Q4.conj (dl i j - p i j) = (dl i j * dl j i + -(dl i j * p j i)) + (-(p i j * dl j i) + p i j * p j i) := fun j _ => by
      rw [Q4.sub_def, Q4.conj_add, Q4.conj_neg, hpc, dl_conj, dl_comm i j, Q4.mul_add, Q4.add_mul, Q4.add_mul, Q4.mul_neg, Q4.mul_neg, Q4.neg_mul, Q4.neg_mul, Q4.add_assoc, Q4.add_assoc]
      congr 1
      rw [← Q4.add_assoc, ← Q4.add_assoc, Q4.add_comm (-(p i j * dl j i))]
      congr 1
      apply Q4.ext' <;> simp only [Q4.na, Q4.nb, Q4.nc, Q4.nd] <;> grind
    rw [sumQ_congr e1, sumQ_add, sumQ_add, sumQ_add, sumQ_neg, sumQ_neg, sumQ_dl (fun j => dl j i) hi, sumQ_dl (fun j => p j i) hi, sumQ_dlr (fun j => p i j) hi, hpp i i hi hi, Q4.add_comm (-p i i) (p i i), Q4.add_neg, Q4.add_zero]
    rfl
  have hz : ∀ i, i < n → (dl i i - p i i).a = 0 := sumQ_a_zero (fun i hi => by rw [← hx i hi]; exact sumQ_a_nonneg fun j _ => Q4.norm_nonneg _) (by rw [htr]; rfl)
  intro i j hi hj
  have h1 : (sumQ n (fun j => (dl i j - p i j) * Q4.conj (dl i j - p i j))).a = 0 := by rw [hx i hi]; exact hz i hi
  have h2 := sumQ_a_zero (fun j _ => Q4.norm_nonneg _) h1 j hj
  exact (Q4.sub_zero_eq (Q4.norm_zero h2)).symm
theorem unR_of_unC {n : Nat} {m : Nat → Nat → Q4} (h : UnC n m) : UnR n m := by
  have h1 : UnR n (fun i k => Q4.conj (m k i)) := fun i j hi hj => by
    rw [← h i j hi hj]
    exact sumQ_congr fun k _ => by rw [Q4.conj_conj]
  have h2 := unC_of_unR h1
  intro i j hi hj; rw [← h2 i j hi hj]
  exact sumQ_congr fun k _ => by rw [Q4.conj_conj]
theorem unR_iff {n : Nat} {m : Nat → Nat → Q4} : UnR n m ↔ UnC n m := ⟨unC_of_unR, unR_of_unC⟩
section
variable {n : Nat}
theorem unC_dag {a : Nat → Nat → Q4} (ha : UnC n a) : UnC n fun i k => Q4.conj (a k i) := by
  intro k l hk hl
  have h := unR_of_unC ha k l hk hl
  rw [← h]
  exact sumQ_congr fun i _ => by rw [Q4.conj_conj]
theorem mul_assocT (a b c : Nat → Nat → Q4) (i k : Nat) : sumQ n (fun j => (sumQ n fun l => a i l * b l j) * c j k) = sumQ n fun l => a i l * sumQ n fun j => b l j * c j k := by
  have e1 : sumQ n (fun j => (sumQ n fun l => a i l * b l j) * c j k) = sumQ n fun j => sumQ n fun l => a i l * (b l j * c j k) :=
    sumQ_congr fun j _ => by
      rw [← sumQ_mulr]
      exact sumQ_congr fun l _ => Q4.mul_assoc _ _ _
  rw [e1, sumQ_swap]
  exact sumQ_congr fun l _ => sumQ_mul n (a i l) _
end
def prodsR (x y : Nat → Nm) : Nat → NR
  | 0 => .ok Nm.zero
  | k + 1 => match prodsR x y k with
    | .error c => .error c
    | .ok s => match (x k).mul (y k) with
      | .error c => .error c
      | .ok p => s.add p
theorem prodsR_err {x y : Nat → Nm} {k : Nat} {c : Int} (h : prodsR x y k = .error c) : ∀ m, k ≤ m → prodsR x y m = .error c := by
  intro m hm
  induction m with
  | zero => obtain rfl : k = 0 := by omega
            exact h
  | succ m ih =>
    rcases (by omega : k = m + 1 ∨ k ≤ m) with rfl | hm
    · exact h
    · simp only [prodsR, ih hm]
theorem prodsR_val {x y : Nat → Nm} (hx : ∀ k, (x k).Ok) (hy : ∀ k, (y k).Ok) : ∀ {n : Nat} {z : Nm}, prodsR x y n = .ok z → z.Ok ∧ z.val = sumQ n fun k => (x k).val * (y k).val
  | 0, z, h => by
    cases h
    exact ⟨zero_ok, val_zero⟩
  | n + 1, z, h => by
    simp only [prodsR] at h
    split at h
    · cases h
    · next s hs =>
      split at h
      · cases h
      · next p hp =>
        obtain ⟨so, sv⟩ := prodsR_val hx hy hs
        obtain ⟨po, -, pe⟩ := mk_ok (mulR_k (hx n).k0 (hy n).k0) hp
        obtain ⟨zo, -, ze⟩ := mk_ok (addR_k so.k0) h
        refine ⟨zo, ?_⟩
        show _ = sumQ n _ + _
        rw [val_eqv zo.k0 (addR_k so.k0) ze, val_addR so.k0 po.k0, sv, val_eqv po.k0 (mulR_k (hx n).k0 (hy n).k0) pe, val_mulR (hx n).k0 (hy n).k0]
theorem prodsR_code {x y : Nat → Nm} : ∀ {n : Nat} {c : Int}, prodsR x y n = .error c → c = 4
  | 0, c, h => by cases h
  | n + 1, c, h => by
    simp only [prodsR] at h
    split at h
    · next c' hc => cases h; exact prodsR_code hc
    · split at h
      · next c' hc => cases h; exact mk_err hc
      · exact mk_err h
end Go.Proofs.YtccbinnlnkpplaaGreat
