/- Texts in one: Mx1, AkN, AmTn, MtPl, Ro, Mg, Rt, Mx2, Ws4, Mt1, Mt2a, VaPl, Ak1, Ak2. -/
import Derived.Test.YtjeijnjaleldkaaLTurnsB
namespace Go.Proofs.Ytjeijnjaleldkaa
set_option linter.all false
set_option maxRecDepth 100000
set_option maxHeartbeats 1000000
open Go.RowKit
def allOk (xs : List Nm) : Bool := xs.all Nm.okB
def validB (n : Int) (xs : List Nm) : Bool := decide (1 ≤ n) && (decide (n ≤ 6) && (decide ((xs.length : Int) = n * n) && allOk xs))
theorem allOk_false {xs : List Nm} {k : Nat} (hk : k < xs.length) (h : (nm xs k).okB = false) : allOk xs = false := by
 unfold allOk
 rw [List.all_eq_false]
 exact ⟨nm xs k, NmE.at_mem hk, by rw [h]; decide⟩
theorem allOk_true {xs : List Nm} (h : ∀ k, k < xs.length → (nm xs k).okB = true) : allOk xs = true := by
 unfold allOk
 rw [List.all_eq_true]
 intro z hz
 obtain ⟨k, hk, rfl⟩ := List.getElem_of_mem hz
 have := h k hk
 unfold nm El.at at this
 rwa [List.getD_eq_getElem?_getD, List.getElem?_eq_getElem hk] at this
theorem ok_at {xs : List Nm} (h : allOk xs = true) {k : Nat} (hk : k < xs.length) : (nm xs k).Ok := okB_iff.1 (List.all_eq_true.1 h _ (NmE.at_mem hk))
def evB (z : Nm) : Bool := decide ((z.a + z.c) % 2 = 0) && decide ((z.b + z.d) % 2 = 0)
theorem okB_alt (z : Nm) : z.okB = (decide (-1000000000 ≤ z.a ∧ z.a ≤ 1000000000 ∧ -1000000000 ≤ z.b ∧ z.b ≤ 1000000000 ∧ -1000000000 ≤ z.c ∧ z.c ≤ 1000000000 ∧ -1000000000 ≤ z.d ∧ z.d ≤ 1000000000) && (decide (0 ≤ z.k) && (decide (z.k ≤ 40) && (decide (z.k = 0) || !evB z)))) := by
 rw [Bool.eq_iff_iff, okB_iff]
 simp only [evB, Bool.and_eq_true, Bool.or_eq_true, decide_eq_true_eq, Bool.not_eq_true', Bool.and_eq_false_iff, decide_eq_false_iff_not]
 constructor
 ·rintro ⟨⟨h1, h2, h3, h4, h5, h6, h7, h8⟩, h9, h10, h11⟩
  refine ⟨⟨h1, h2, h3, h4, h5, h6, h7, h8⟩, h9, h10, ?_⟩
  simp only [Nm.even] at h11
  omega
 rintro ⟨⟨h1, h2, h3, h4, h5, h6, h7, h8⟩, h9, h10, h11⟩
 refine ⟨⟨h1, h2, h3, h4, h5, h6, h7, h8⟩, h9, h10, ?_⟩
 simp only [Nm.even]
 omega
abbrev rngP (z : Nm) : Prop := -1000000000 ≤ z.a ∧ z.a ≤ 1000000000 ∧ -1000000000 ≤ z.b ∧ z.b ≤ 1000000000 ∧ -1000000000 ≤ z.c ∧ z.c ≤ 1000000000 ∧ -1000000000 ≤ z.d ∧ z.d ≤ 1000000000
theorem okB_rest {z : Nm} (h : rngP z) (h0 : 0 ≤ z.k) (h1 : z.k ≤ 40) : z.okB = (decide (z.k = 0) || !evB z) := by
 rw [okB_alt, decide_eq_true h, decide_eq_true h0, decide_eq_true h1]; rfl
theorem okB_no {z : Nm} (h : ¬ (rngP z ∧ 0 ≤ z.k ∧ z.k ≤ 40)) : z.okB = false := by
 rw [okB_alt]
 by_cases h1 : rngP z
 ·by_cases h2 : 0 ≤ z.k
  ·rw [decide_eq_false (p := z.k ≤ 40) (fun h3 => h ⟨h1, h2, h3⟩)]; simp
  rw [decide_eq_false h2]; simp
 rw [decide_eq_false h1]; rfl
theorem tmod2 (n : Int) : n.tmod 2 = 0 ↔ n % 2 = 0 := by
 rcases Int.le_total 0 n with h | h
 ·rw [Int.tmod_eq_emod_of_nonneg h]
 have e := Int.neg_tmod (-n) 2
 rw [Int.neg_neg, Int.tmod_eq_emod_of_nonneg (show 0 ≤ -n by omega)] at e
 omega
theorem rValidNum_any (z : Nm) (w : World) : Calls Try.prog 74 #[nmV z] w fun e w' => e = .returned (.bool z.okB) ∧ Below w.heap.size w w' := by
 go_enter Try.func74, Try.ntmps74
 refine wk_start ?_
 refine wk_seq ?_
 refine wk_region [1, 0] rfl Kx ?_
 simp only [qy]
 refine Rgn fun g1 => ?_
 simp only [qz]
 refine rg_assign ?_
 simp only [qz]
 refine rg_nil (ek_next (wk_seq (wk_seq ?_)))
 refine wk_region [0] rfl Kx ?_
 simp only [qy]
 refine rg_assign ?_
 simp only [qz]
 refine rg_nil (ek_next (wk_block ?_))
 refine wk_unroll 4 ?_
 refine wk_seq (wk_seq ?_)
 refine wk_region [0, 0] rfl Kx ?_
 simp only [qy]
 refine rg_move ?_
 simp only [qz]
 refine rf_lss (b := true) rfl rfl rfl rfl (by decide) ?_
 simp only [qz]
 refine rg_nil (ek_next (wk_cond_t rfl (wk_skip (ek_next (wk_seq (wk_block (wk_seq ?_)))))))
 refine wk_region [0, 0, 0, 0, 0, 0, 0, 0, 0, 0, 0, 0] rfl Kx ?_
 simp only [qy]
 refine rg_move ?_
 simp only [qz]
 refine rf_field (n := 3) (j := 0) rfl rfl rfl Try.underlying29 rfl Kx rfl ?_
 simp only [qz]
 refine rf_indexA (n := 0) (sz := 1) (j := 0) rfl rfl rfl rfl Try.underlying27 Kx (by decide) rfl ?_
 simp only [qz]
 refine rf_load rfl rfl rfl Try.underlying3 rfl (fun w hw => (Kn.hd0 hw).at rfl) ?_
 simp only [qz]
 refine rfb_lss rfl rfl rfl rfl ?_
 intro x h1
 cases x
 ·(try simp only [qd, ne_eq] at h1)
  simp only [qz]
  refine rg_move ?_
  simp only [qz]
  apply rg_soft_g
  case hg => rfl
  case hy => (intro w hw; go_simp; (try go_bits); exact Yld.mk _ _)
  simp only [qz]
  refine rf_field (n := 3) (j := 0) rfl rfl rfl Try.underlying29 rfl Kx rfl ?_
  simp only [qz]
  refine rf_indexA (n := 0) (sz := 1) (j := 0) rfl rfl rfl rfl Try.underlying27 Kx (by decide) rfl ?_
  simp only [qz]
  refine rf_load rfl rfl rfl Try.underlying3 rfl (fun w hw => (Kn.hd0 hw).at rfl) ?_
  simp only [qz]
  refine rfb_gtr rfl rfl rfl rfl ?_
  intro x h2
  cases x
  ·(try simp only [qd, ne_eq] at h2)
   simp only [qz]
   refine rf_pick rfl rfl rfl ?_
   simp only [qz]
   refine rg_nil (ek_next (wk_cond_f rfl (wk_skip (ek_block (ek_next ?_)))))
   refine wk_region [0, 0, 0] rfl Kx ?_
   simp only [qy]
   refine rg_move ?_
   simp only [qz]
   refine rf_add (r := 1) rfl rfl rfl rfl (by decide) ?_
   simp only [qz]
   refine rg_assign ?_
   simp only [qz]
   refine rg_nil (ek_again (wk_seq (wk_seq ?_)))
   refine wk_region [0, 0] rfl Kx ?_
   simp only [qy]
   refine rg_move ?_
   simp only [qz]
   refine rf_lss (b := true) rfl rfl rfl rfl (by decide) ?_
   simp only [qz]
   refine rg_nil (ek_next (wk_cond_t rfl (wk_skip (ek_next (wk_seq (wk_block (wk_seq ?_)))))))
   refine wk_region [0, 0, 0, 0, 0, 0, 0, 0, 0, 0, 0, 0] rfl Kx ?_
   simp only [qy]
   refine rg_move ?_
   simp only [qz]
   refine rf_field (n := 3) (j := 0) rfl rfl rfl Try.underlying29 rfl Kx rfl ?_
   simp only [qz]
   refine rf_indexA (n := 1) (sz := 1) (j := 1) rfl rfl rfl rfl Try.underlying27 Kx (by decide) rfl ?_
   simp only [qz]
   refine rf_load rfl rfl rfl Try.underlying3 rfl (fun w hw => (Kn.hd0 hw).at rfl) ?_
   simp only [qz]
   refine rfb_lss rfl rfl rfl rfl ?_
   intro x h3
   cases x
   ·(try simp only [qd, ne_eq] at h3)
    simp only [qz]
    refine rg_move ?_
    simp only [qz]
    apply rg_soft_g
    case hg => rfl
    case hy => (intro w hw; go_simp; (try go_bits); exact Yld.mk _ _)
    simp only [qz]
    refine rf_field (n := 3) (j := 0) rfl rfl rfl Try.underlying29 rfl Kx rfl ?_
    simp only [qz]
    refine rf_indexA (n := 1) (sz := 1) (j := 1) rfl rfl rfl rfl Try.underlying27 Kx (by decide) rfl ?_
    simp only [qz]
    refine rf_load rfl rfl rfl Try.underlying3 rfl (fun w hw => (Kn.hd0 hw).at rfl) ?_
    simp only [qz]
    refine rfb_gtr rfl rfl rfl rfl ?_
    intro x h4
    cases x
    ·(try simp only [qd, ne_eq] at h4)
     simp only [qz]
     refine rf_pick rfl rfl rfl ?_
     simp only [qz]
     refine rg_nil (ek_next (wk_cond_f rfl (wk_skip (ek_block (ek_next ?_)))))
     refine wk_region [0, 0, 0] rfl Kx ?_
     simp only [qy]
     refine rg_move ?_
     simp only [qz]
     refine rf_add (r := 2) rfl rfl rfl rfl (by decide) ?_
     simp only [qz]
     refine rg_assign ?_
     simp only [qz]
     refine rg_nil (ek_again (wk_seq (wk_seq ?_)))
     refine wk_region [0, 0] rfl Kx ?_
     simp only [qy]
     refine rg_move ?_
     simp only [qz]
     refine rf_lss (b := true) rfl rfl rfl rfl (by decide) ?_
     simp only [qz]
     refine rg_nil (ek_next (wk_cond_t rfl (wk_skip (ek_next (wk_seq (wk_block (wk_seq ?_)))))))
     refine wk_region [0, 0, 0, 0, 0, 0, 0, 0, 0, 0, 0, 0] rfl Kx ?_
     simp only [qy]
     refine rg_move ?_
     simp only [qz]
     refine rf_field (n := 3) (j := 0) rfl rfl rfl Try.underlying29 rfl Kx rfl ?_
     simp only [qz]
     refine rf_indexA (n := 2) (sz := 1) (j := 2) rfl rfl rfl rfl Try.underlying27 Kx (by decide) rfl ?_
     simp only [qz]
     refine rf_load rfl rfl rfl Try.underlying3 rfl (fun w hw => (Kn.hd0 hw).at rfl) ?_
     simp only [qz]
     refine rfb_lss rfl rfl rfl rfl ?_
     intro x h5
     cases x
     ·(try simp only [qd, ne_eq] at h5)
      simp only [qz]
      refine rg_move ?_
      simp only [qz]
      apply rg_soft_g
      case hg => rfl
      case hy => (intro w hw; go_simp; (try go_bits); exact Yld.mk _ _)
      simp only [qz]
      refine rf_field (n := 3) (j := 0) rfl rfl rfl Try.underlying29 rfl Kx rfl ?_
      simp only [qz]
      refine rf_indexA (n := 2) (sz := 1) (j := 2) rfl rfl rfl rfl Try.underlying27 Kx (by decide) rfl ?_
      simp only [qz]
      refine rf_load rfl rfl rfl Try.underlying3 rfl (fun w hw => (Kn.hd0 hw).at rfl) ?_
      simp only [qz]
      refine rfb_gtr rfl rfl rfl rfl ?_
      intro x h6
      cases x
      ·(try simp only [qd, ne_eq] at h6)
       simp only [qz]
       refine rf_pick rfl rfl rfl ?_
       simp only [qz]
       refine rg_nil (ek_next (wk_cond_f rfl (wk_skip (ek_block (ek_next ?_)))))
       refine wk_region [0, 0, 0] rfl Kx ?_
       simp only [qy]
       refine rg_move ?_
       simp only [qz]
       refine rf_add (r := 3) rfl rfl rfl rfl (by decide) ?_
       simp only [qz]
       refine rg_assign ?_
       simp only [qz]
       refine rg_nil (ek_again (wk_seq (wk_seq ?_)))
       refine wk_region [0, 0] rfl Kx ?_
       simp only [qy]
       refine rg_move ?_
       simp only [qz]
       refine rf_lss (b := true) rfl rfl rfl rfl (by decide) ?_
       simp only [qz]
       refine rg_nil (ek_next (wk_cond_t rfl (wk_skip (ek_next (wk_seq (wk_block (wk_seq ?_)))))))
       refine wk_region [0, 0, 0, 0, 0, 0, 0, 0, 0, 0, 0, 0] rfl Kx ?_
       simp only [qy]
       refine rg_move ?_
       simp only [qz]
       refine rf_field (n := 3) (j := 0) rfl rfl rfl Try.underlying29 rfl Kx rfl ?_
       simp only [qz]
       refine rf_indexA (n := 3) (sz := 1) (j := 3) rfl rfl rfl rfl Try.underlying27 Kx (by decide) rfl ?_
       simp only [qz]
       refine rf_load rfl rfl rfl Try.underlying3 rfl (fun w hw => (Kn.hd0 hw).at rfl) ?_
       simp only [qz]
       refine rfb_lss rfl rfl rfl rfl ?_
       intro x h7
       cases x
       ·(try simp only [qd, ne_eq] at h7)
        simp only [qz]
        refine rg_move ?_
        simp only [qz]
        apply rg_soft_g
        case hg => rfl
        case hy => (intro w hw; go_simp; (try go_bits); exact Yld.mk _ _)
        simp only [qz]
        refine rf_field (n := 3) (j := 0) rfl rfl rfl Try.underlying29 rfl Kx rfl ?_
        simp only [qz]
        refine rf_indexA (n := 3) (sz := 1) (j := 3) rfl rfl rfl rfl Try.underlying27 Kx (by decide) rfl ?_
        simp only [qz]
        refine rf_load rfl rfl rfl Try.underlying3 rfl (fun w hw => (Kn.hd0 hw).at rfl) ?_
        simp only [qz]
        refine rfb_gtr rfl rfl rfl rfl ?_
        intro x h8
        cases x
        ·(try simp only [qd, ne_eq] at h8)
         simp only [qz]
         refine rf_pick rfl rfl rfl ?_
         simp only [qz]
         refine rg_nil (ek_next (wk_cond_f rfl (wk_skip (ek_block (ek_next ?_)))))
         refine wk_region [0, 0, 0] rfl Kx ?_
         simp only [qy]
         refine rg_move ?_
         simp only [qz]
         refine rf_add (r := 4) rfl rfl rfl rfl (by decide) ?_
         simp only [qz]
         refine rg_assign ?_
         simp only [qz]
         refine rg_nil (ek_again (wk_seq (wk_seq ?_)))
         refine wk_region [0, 0] rfl Kx ?_
         simp only [qy]
         refine rg_move ?_
         simp only [qz]
         refine rf_lss (b := false) rfl rfl rfl rfl (by decide) ?_
         simp only [qz]
         refine rg_nil (ek_next (wk_cond_f rfl (wk_exit (ek_then_exit (ek_then_exit (ek_block_exit (ek_next (wk_seq (wk_seq ?_)))))))))
         refine wk_region [0, 0, 0, 0, 0, 0, 0, 0] rfl Kx ?_
         simp only [qy]
         refine rf_field (n := 0) (j := 4) rfl rfl rfl Try.underlying29 rfl Kx rfl ?_
         simp only [qz]
         refine rf_load rfl rfl rfl Try.underlying3 rfl (fun w hw => (Kn.hd0 hw).at rfl) ?_
         simp only [qz]
         refine rfb_lss rfl rfl rfl rfl ?_
         intro x h9
         cases x
         ·(try simp only [qd, ne_eq] at h9)
          simp only [qz]
          refine rg_move ?_
          simp only [qz]
          refine rf_field (n := 0) (j := 4) rfl rfl rfl Try.underlying29 rfl Kx rfl ?_
          simp only [qz]
          refine rf_load rfl rfl rfl Try.underlying3 rfl (fun w hw => (Kn.hd0 hw).at rfl) ?_
          simp only [qz]
          refine rfb_gtr rfl rfl rfl rfl ?_
          intro x h10
          cases x
          ·(try simp only [qd, ne_eq] at h10)
           simp only [qz]
           refine rf_pick rfl rfl rfl ?_
           simp only [qz]
           refine rg_nil (ek_next (wk_cond_f rfl (wk_skip (ek_next (wk_seq ?_)))))
           refine wk_region [0, 0, 0, 0, 0, 0, 0, 0, 0, 0, 0, 0, 0, 0, 0, 0, 0, 0, 0, 0, 0, 0, 0, 0, 0, 0] rfl Kx ?_
           simp only [qy]
           refine rf_field (n := 0) (j := 4) rfl rfl rfl Try.underlying29 rfl Kx rfl ?_
           simp only [qz]
           refine rf_load rfl rfl rfl Try.underlying3 rfl (fun w hw => (Kn.hd0 hw).at rfl) ?_
           simp only [qz]
           refine rfb_eql rfl rfl rfl rfl ?_
           intro x h11
           cases x
           ·(try simp only [qd, ne_eq] at h11)
            simp only [qz]
            refine rg_move ?_
            simp only [qz]
            refine rf_field (n := 3) (j := 0) rfl rfl rfl Try.underlying29 rfl Kx rfl ?_
            simp only [qz]
            refine rf_indexA (n := 0) (sz := 1) (j := 0) rfl rfl rfl rfl Try.underlying27 Kx (by decide) rfl ?_
            simp only [qz]
            refine rf_load rfl rfl rfl Try.underlying3 rfl (fun w hw => (Kn.hd0 hw).at rfl) ?_
            simp only [qz]
            refine rf_field (n := 3) (j := 0) rfl rfl rfl Try.underlying29 rfl Kx rfl ?_
            simp only [qz]
            refine rf_indexA (n := 2) (sz := 1) (j := 2) rfl rfl rfl rfl Try.underlying27 Kx (by decide) rfl ?_
            simp only [qz]
            refine rf_load rfl rfl rfl Try.underlying3 rfl (fun w hw => (Kn.hd0 hw).at rfl) ?_
            simp only [qz]
            refine rf_add rfl rfl rfl rfl (wrap_ok Ox Ox) ?_
            simp only [qz]
            refine rf_rem (r := (z.a + z.c).tmod 2) rfl rfl rfl rfl (by decide) rfl ?_
            simp only [qz]
            refine rfb_neq rfl rfl rfl rfl ?_
            intro x h12
            cases x
            ·(try simp only [qd, ne_eq] at h12)
             simp only [qz]
             refine rf_pick rfl rfl rfl ?_
             simp only [qz]
             refine rg_move ?_
             simp only [qz]
             refine rf_field (n := 3) (j := 0) rfl rfl rfl Try.underlying29 rfl Kx rfl ?_
             simp only [qz]
             refine rf_indexA (n := 1) (sz := 1) (j := 1) rfl rfl rfl rfl Try.underlying27 Kx (by decide) rfl ?_
             simp only [qz]
             refine rf_load rfl rfl rfl Try.underlying3 rfl (fun w hw => (Kn.hd0 hw).at rfl) ?_
             simp only [qz]
             refine rf_field (n := 3) (j := 0) rfl rfl rfl Try.underlying29 rfl Kx rfl ?_
             simp only [qz]
             refine rf_indexA (n := 3) (sz := 1) (j := 3) rfl rfl rfl rfl Try.underlying27 Kx (by decide) rfl ?_
             simp only [qz]
             refine rf_load rfl rfl rfl Try.underlying3 rfl (fun w hw => (Kn.hd0 hw).at rfl) ?_
             simp only [qz]
             refine rf_add rfl rfl rfl rfl (wrap_ok Ox Ox) ?_
             simp only [qz]
             refine rf_rem (r := (z.b + z.d).tmod 2) rfl rfl rfl rfl (by decide) rfl ?_
             simp only [qz]
             refine rf_neq rfl rfl rfl rfl rfl ?_
             simp only [qz]
             refine rf_pick rfl rfl rfl ?_
             simp only [qz]
             refine rg_assign ?_
             simp only [qz]
             refine rg_nil (ek_next (wk_ret ?_))
             refine ek_ret (fun w hw => ⟨rfl, _, res_t _ rfl, ?_⟩)
             (try simp only [qz])
             exact ⟨by first | rw [okB_no Ox] | (rw [okB_rest Ox Ox Ox]; unfold evB; (try simp only [ne_eq, tmod2] at *); by_cases hA : (z.a + z.c) % 2 = 0 <;> by_cases hB : (z.b + z.d) % 2 = 0 <;> simp_all [tmod2]), hw.below⟩
            (try simp only [qd, ne_eq] at h12)
            simp only [qz]
            refine rf_pick rfl rfl rfl ?_
            simp only [qz]
            refine rg_move ?_
            simp only [qz]
            refine rg_skip Rx ?_
            simp only [qz]
            refine rg_skip Rx ?_
            simp only [qz]
            refine rg_skip Rx ?_
            simp only [qz]
            refine rg_skip Rx ?_
            simp only [qz]
            refine rg_skip Rx ?_
            simp only [qz]
            refine rg_skip Rx ?_
            simp only [qz]
            refine rg_skip Rx ?_
            simp only [qz]
            refine rg_skip Rx ?_
            simp only [qz]
            refine rg_skip Rx ?_
            simp only [qz]
            refine rf_pick rfl rfl rfl ?_
            simp only [qz]
            refine rg_assign ?_
            simp only [qz]
            refine rg_nil (ek_next (wk_ret ?_))
            refine ek_ret (fun w hw => ⟨rfl, _, res_t _ rfl, ?_⟩)
            (try simp only [qz])
            exact ⟨by first | rw [okB_no Ox] | (rw [okB_rest Ox Ox Ox]; unfold evB; (try simp only [ne_eq, tmod2] at *); by_cases hA : (z.a + z.c) % 2 = 0 <;> by_cases hB : (z.b + z.d) % 2 = 0 <;> simp_all [tmod2]), hw.below⟩
           (try simp only [qd, ne_eq] at h11)
           simp only [qz]
           refine rg_move ?_
           simp only [qz]
           refine rg_skip Rx ?_
           simp only [qz]
           refine rg_skip Rx ?_
           simp only [qz]
           refine rg_skip Rx ?_
           simp only [qz]
           refine rg_skip Rx ?_
           simp only [qz]
           refine rg_skip Rx ?_
           simp only [qz]
           refine rg_skip Rx ?_
           simp only [qz]
           refine rg_skip Rx ?_
           simp only [qz]
           refine rg_skip Rx ?_
           simp only [qz]
           refine rg_skip Rx ?_
           simp only [qz]
           refine rf_pick rfl rfl rfl ?_
           simp only [qz]
           refine rg_move ?_
           simp only [qz]
           refine rg_skip Rx ?_
           simp only [qz]
           refine rg_skip Rx ?_
           simp only [qz]
           refine rg_skip Rx ?_
           simp only [qz]
           refine rg_skip Rx ?_
           simp only [qz]
           refine rg_skip Rx ?_
           simp only [qz]
           refine rg_skip Rx ?_
           simp only [qz]
           refine rg_skip Rx ?_
           simp only [qz]
           refine rg_skip Rx ?_
           simp only [qz]
           refine rg_skip Rx ?_
           simp only [qz]
           refine rf_pick rfl rfl rfl ?_
           simp only [qz]
           refine rg_assign ?_
           simp only [qz]
           refine rg_nil (ek_next (wk_ret ?_))
           refine ek_ret (fun w hw => ⟨rfl, _, res_t _ rfl, ?_⟩)
           (try simp only [qz])
           exact ⟨by first | rw [okB_no Ox] | (rw [okB_rest Ox Ox Ox]; unfold evB; (try simp only [ne_eq, tmod2] at *); by_cases hA : (z.a + z.c) % 2 = 0 <;> by_cases hB : (z.b + z.d) % 2 = 0 <;> simp_all [tmod2]), hw.below⟩
          (try simp only [qd, ne_eq] at h10)
          simp only [qz]
          refine rf_pick rfl rfl rfl ?_
          simp only [qz]
          refine rg_nil (ek_next (wk_cond_t rfl (wk_seq ?_)))
          refine wk_region [0] rfl Kx ?_
          simp only [qy]
          refine rg_assign ?_
          simp only [qz]
          refine rg_nil (ek_next (wk_ret (ek_then_ret ?_)))
          refine ek_ret (fun w hw => ⟨rfl, _, res_t _ rfl, ?_⟩)
          (try simp only [qz])
          exact ⟨by first | rw [okB_no Ox] | (rw [okB_rest Ox Ox Ox]; unfold evB; (try simp only [ne_eq, tmod2] at *); by_cases hA : (z.a + z.c) % 2 = 0 <;> by_cases hB : (z.b + z.d) % 2 = 0 <;> simp_all [tmod2]), hw.below⟩
         (try simp only [qd, ne_eq] at h9)
         simp only [qz]
         refine rg_move ?_
         simp only [qz]
         refine rg_skip Rx ?_
         simp only [qz]
         refine rg_skip Rx ?_
         simp only [qz]
         refine rg_skip Rx ?_
         simp only [qz]
         refine rf_pick rfl rfl rfl ?_
         simp only [qz]
         refine rg_nil (ek_next (wk_cond_t rfl (wk_seq ?_)))
         refine wk_region [0] rfl Kx ?_
         simp only [qy]
         refine rg_assign ?_
         simp only [qz]
         refine rg_nil (ek_next (wk_ret (ek_then_ret ?_)))
         refine ek_ret (fun w hw => ⟨rfl, _, res_t _ rfl, ?_⟩)
         (try simp only [qz])
         exact ⟨by first | rw [okB_no Ox] | (rw [okB_rest Ox Ox Ox]; unfold evB; (try simp only [ne_eq, tmod2] at *); by_cases hA : (z.a + z.c) % 2 = 0 <;> by_cases hB : (z.b + z.d) % 2 = 0 <;> simp_all [tmod2]), hw.below⟩
        (try simp only [qd, ne_eq] at h8)
        simp only [qz]
        refine rf_pick rfl rfl rfl ?_
        simp only [qz]
        refine rg_nil (ek_next (wk_cond_t rfl (wk_seq ?_)))
        refine wk_region [0] rfl Kx ?_
        simp only [qy]
        refine rg_assign ?_
        simp only [qz]
        refine rg_nil (ek_next (wk_ret (ek_block_ret (ek_then_ret (ek_then_ret (ek_block_ret (ek_then_ret ?_)))))))
        refine ek_ret (fun w hw => ⟨rfl, _, res_t _ rfl, ?_⟩)
        (try simp only [qz])
        exact ⟨by first | rw [okB_no Ox] | (rw [okB_rest Ox Ox Ox]; unfold evB; (try simp only [ne_eq, tmod2] at *); by_cases hA : (z.a + z.c) % 2 = 0 <;> by_cases hB : (z.b + z.d) % 2 = 0 <;> simp_all [tmod2]), hw.below⟩
       (try simp only [qd, ne_eq] at h7)
       simp only [qz]
       refine rg_move ?_
       simp only [qz]
       refine rg_skip Rx ?_
       simp only [qz]
       refine rg_skip Rx ?_
       simp only [qz]
       refine rg_skip Rx ?_
       simp only [qz]
       refine rg_skip Rx ?_
       simp only [qz]
       refine rg_skip Rx ?_
       simp only [qz]
       refine rf_pick rfl rfl rfl ?_
       simp only [qz]
       refine rg_nil (ek_next (wk_cond_t rfl (wk_seq ?_)))
       refine wk_region [0] rfl Kx ?_
       simp only [qy]
       refine rg_assign ?_
       simp only [qz]
       refine rg_nil (ek_next (wk_ret (ek_block_ret (ek_then_ret (ek_then_ret (ek_block_ret (ek_then_ret ?_)))))))
       refine ek_ret (fun w hw => ⟨rfl, _, res_t _ rfl, ?_⟩)
       (try simp only [qz])
       exact ⟨by first | rw [okB_no Ox] | (rw [okB_rest Ox Ox Ox]; unfold evB; (try simp only [ne_eq, tmod2] at *); by_cases hA : (z.a + z.c) % 2 = 0 <;> by_cases hB : (z.b + z.d) % 2 = 0 <;> simp_all [tmod2]), hw.below⟩
      (try simp only [qd, ne_eq] at h6)
      simp only [qz]
      refine rf_pick rfl rfl rfl ?_
      simp only [qz]
      refine rg_nil (ek_next (wk_cond_t rfl (wk_seq ?_)))
      refine wk_region [0] rfl Kx ?_
      simp only [qy]
      refine rg_assign ?_
      simp only [qz]
      refine rg_nil (ek_next (wk_ret (ek_block_ret (ek_then_ret (ek_then_ret (ek_block_ret (ek_then_ret ?_)))))))
      refine ek_ret (fun w hw => ⟨rfl, _, res_t _ rfl, ?_⟩)
      (try simp only [qz])
      exact ⟨by first | rw [okB_no Ox] | (rw [okB_rest Ox Ox Ox]; unfold evB; (try simp only [ne_eq, tmod2] at *); by_cases hA : (z.a + z.c) % 2 = 0 <;> by_cases hB : (z.b + z.d) % 2 = 0 <;> simp_all [tmod2]), hw.below⟩
     (try simp only [qd, ne_eq] at h5)
     simp only [qz]
     refine rg_move ?_
     simp only [qz]
     refine rg_skip Rx ?_
     simp only [qz]
     refine rg_skip Rx ?_
     simp only [qz]
     refine rg_skip Rx ?_
     simp only [qz]
     refine rg_skip Rx ?_
     simp only [qz]
     refine rg_skip Rx ?_
     simp only [qz]
     refine rf_pick rfl rfl rfl ?_
     simp only [qz]
     refine rg_nil (ek_next (wk_cond_t rfl (wk_seq ?_)))
     refine wk_region [0] rfl Kx ?_
     simp only [qy]
     refine rg_assign ?_
     simp only [qz]
     refine rg_nil (ek_next (wk_ret (ek_block_ret (ek_then_ret (ek_then_ret (ek_block_ret (ek_then_ret ?_)))))))
     refine ek_ret (fun w hw => ⟨rfl, _, res_t _ rfl, ?_⟩)
     (try simp only [qz])
     exact ⟨by first | rw [okB_no Ox] | (rw [okB_rest Ox Ox Ox]; unfold evB; (try simp only [ne_eq, tmod2] at *); by_cases hA : (z.a + z.c) % 2 = 0 <;> by_cases hB : (z.b + z.d) % 2 = 0 <;> simp_all [tmod2]), hw.below⟩
    (try simp only [qd, ne_eq] at h4)
    simp only [qz]
    refine rf_pick rfl rfl rfl ?_
    simp only [qz]
    refine rg_nil (ek_next (wk_cond_t rfl (wk_seq ?_)))
    refine wk_region [0] rfl Kx ?_
    simp only [qy]
    refine rg_assign ?_
    simp only [qz]
    refine rg_nil (ek_next (wk_ret (ek_block_ret (ek_then_ret (ek_then_ret (ek_block_ret (ek_then_ret ?_)))))))
    refine ek_ret (fun w hw => ⟨rfl, _, res_t _ rfl, ?_⟩)
    (try simp only [qz])
    exact ⟨by first | rw [okB_no Ox] | (rw [okB_rest Ox Ox Ox]; unfold evB; (try simp only [ne_eq, tmod2] at *); by_cases hA : (z.a + z.c) % 2 = 0 <;> by_cases hB : (z.b + z.d) % 2 = 0 <;> simp_all [tmod2]), hw.below⟩
   (try simp only [qd, ne_eq] at h3)
   simp only [qz]
   refine rg_move ?_
   simp only [qz]
   refine rg_skip Rx ?_
   simp only [qz]
   refine rg_skip Rx ?_
   simp only [qz]
   refine rg_skip Rx ?_
   simp only [qz]
   refine rg_skip Rx ?_
   simp only [qz]
   refine rg_skip Rx ?_
   simp only [qz]
   refine rf_pick rfl rfl rfl ?_
   simp only [qz]
   refine rg_nil (ek_next (wk_cond_t rfl (wk_seq ?_)))
   refine wk_region [0] rfl Kx ?_
   simp only [qy]
   refine rg_assign ?_
   simp only [qz]
   refine rg_nil (ek_next (wk_ret (ek_block_ret (ek_then_ret (ek_then_ret (ek_block_ret (ek_then_ret ?_)))))))
   refine ek_ret (fun w hw => ⟨rfl, _, res_t _ rfl, ?_⟩)
   (try simp only [qz])
   exact ⟨by first | rw [okB_no Ox] | (rw [okB_rest Ox Ox Ox]; unfold evB; (try simp only [ne_eq, tmod2] at *); by_cases hA : (z.a + z.c) % 2 = 0 <;> by_cases hB : (z.b + z.d) % 2 = 0 <;> simp_all [tmod2]), hw.below⟩
  (try simp only [qd, ne_eq] at h2)
  simp only [qz]
  refine rf_pick rfl rfl rfl ?_
  simp only [qz]
  refine rg_nil (ek_next (wk_cond_t rfl (wk_seq ?_)))
  refine wk_region [0] rfl Kx ?_
  simp only [qy]
  refine rg_assign ?_
  simp only [qz]
  refine rg_nil (ek_next (wk_ret (ek_block_ret (ek_then_ret (ek_then_ret (ek_block_ret (ek_then_ret ?_)))))))
  refine ek_ret (fun w hw => ⟨rfl, _, res_t _ rfl, ?_⟩)
  (try simp only [qz])
  exact ⟨by first | rw [okB_no Ox] | (rw [okB_rest Ox Ox Ox]; unfold evB; (try simp only [ne_eq, tmod2] at *); by_cases hA : (z.a + z.c) % 2 = 0 <;> by_cases hB : (z.b + z.d) % 2 = 0 <;> simp_all [tmod2]), hw.below⟩
 (try simp only [qd, ne_eq] at h1)
 simp only [qz]
 refine rg_move ?_
 simp only [qz]
 refine rg_skip Rx ?_
 simp only [qz]
 refine rg_skip Rx ?_
 simp only [qz]
 refine rg_skip Rx ?_
 simp only [qz]
 refine rg_skip Rx ?_
 simp only [qz]
 refine rg_skip Rx ?_
 simp only [qz]
 refine rf_pick rfl rfl rfl ?_
 simp only [qz]
 refine rg_nil (ek_next (wk_cond_t rfl (wk_seq ?_)))
 refine wk_region [0] rfl Kx ?_
 simp only [qy]
 refine rg_assign ?_
 simp only [qz]
 refine rg_nil (ek_next (wk_ret (ek_block_ret (ek_then_ret (ek_then_ret (ek_block_ret (ek_then_ret ?_)))))))
 refine ek_ret (fun w hw => ⟨rfl, _, res_t _ rfl, ?_⟩)
 (try simp only [qz])
 exact ⟨by first | rw [okB_no Ox] | (rw [okB_rest Ox Ox Ox]; unfold evB; (try simp only [ne_eq, tmod2] at *); by_cases hA : (z.a + z.c) % 2 = 0 <;> by_cases hB : (z.b + z.d) % 2 = 0 <;> simp_all [tmod2]), hw.below⟩
theorem numbers1_any (z : Nm) (w : World) : Calls Try.prog 120 #[nmV z] w fun e w' => e = .returned (.bool (!z.okB)) ∧ Below w.heap.size w w' := by
 go_enter Try.func120, Try.ntmps120
 refine wk_start ?_
 refine wk_seq ?_
 refine wk_region [1, 0] rfl Kx ?_
 simp only [qy]
 refine Rgn fun g1 => ?_
 simp only [qz]
 refine rg_assign ?_
 simp only [qz]
 refine rg_nil (ek_next (wk_seq ?_))
 refine wk_region [0, 1, 0, 0] rfl Kx ?_
 simp only [qy]
 refine rf_loadR (n := 5) rfl rfl rfl Try.underlying29 rfl Kx (fun w hw => Kn.hd0 hw) rfl rfl ?_
 simp only [qz]
 apply rg_pure Rx Kx
 case hargs => exact Ax
 case h => exact fun w hw => amvalid_any z w
 case hz => exact Nz
 simp only [qz]
 refine rf_not rfl rfl rfl ?_
 simp only [qz]
 refine rg_assign ?_
 simp only [qz]
 refine rg_nil (ek_next (wk_ret ?_))
 refine ek_ret (fun w hw => ⟨rfl, _, res_t _ rfl, ?_⟩)
 (try simp only [qz])
 first | exact ⟨rfl, hw.below⟩ | exact ⟨trivial, hw.below⟩ | exact hw.below
theorem index_num (xs : List Nm) (a : Option Addr) (c : Nat) (hl : xs.length ≤ 1000000) (w : World) (hA : AS w a (nms xs)) : Calls Try.prog 148 #[.slice a xs.length c, .func (.func 120) #[] #[]] w fun e w' => ∃ i : Int, e = .returned (.int .i64 i) ∧ decide (0 ≤ i) = !allOk xs ∧ Below w.heap.size w w' := by
 go_enter Try.func148, Try.ntmps148
 refine wk_start ?_
 refine wk_seq ?_
 refine wk_region [0] rfl Kx ?_
 simp only [qy]
 refine rg_assign ?_
 simp only [qz]
 refine rg_nil (ek_next (wk_seq (wk_seq ?_)))
 refine wk_region [0, 0, 0] rfl Kx ?_
 simp only [qy]
 refine rg_move ?_
 simp only [qz]
 refine rf_len rfl rfl rfl Try.underlying22 ?_
 simp only [qz]
 refine rg_move ?_
 simp only [qz]
 refine rg_nil (ek_next (wk_block ?_))
 refine wk_loopF [4, 5, 8, 9, 10, 11, 12, 13, 14, 15, 16, 17, 18] (fun mz f s => ∃ (k : Nat), f 4 = .int .i64 0 ∧ f 8 = .int .i64 k ∧ s = [] ∧ mz = xs.length - k ∧ k ≤ xs.length ∧ (∀ j, j < k → (nm xs j).okB = true)) ((fun (k : Nat) => xs.length - k) (0)) ?_ Kx ?_
 ·exact ⟨0, rfl, rfl, rfl, rfl, by omega, fun j hj => by omega⟩
 rintro mz f1 s ⟨k, hs1_4, hs1_8, rfl, hn, hd1, hd2⟩
 simp only [Act.putF, List.foldl_cons, List.foldl_nil, hs1_4, hs1_8, Act.put, Act.eval, q1, q2, q3, q4, q5, q6, q7, q8, q9, q10, q11, q12, q13, q14, q15, q16, q17, q18, Nat.reduceAdd, Bool.not_true, Bool.not_false]
 clear hs1_4 hs1_8
 refine wk_seq ?_
 refine wk_region [0] rfl Kx ?_
 simp only [qy]
 refine rfb_lss rfl rfl rfl rfl ?_
 intro x h1
 cases x
 ·(try simp only [qd, ne_eq] at h1)
  simp only [qz]
  refine rg_nil (ek_next (wk_seq (wk_cond_f rfl (wk_exit (ek_then_exit (ek_then_exit (ek_block_exit (ek_next (wk_seq ?_)))))))))
  refine wk_region [0] rfl Kx ?_
  simp only [qy]
  refine rg_assign ?_
  simp only [qz]
  refine rg_nil (ek_next (wk_ret ?_))
  refine ek_ret (fun w hw => ⟨rfl, _, res_t _ rfl, ?_⟩)
  (try simp only [qz])
  exact ⟨-1, rfl, by rw [allOk_true (fun j hj => hd2 j Ox)]; simp, hw.below⟩
 (try simp only [qd, ne_eq] at h1)
 simp only [qz]
 obtain ⟨b, off, rfl, hlt, hcell⟩ := AS.openN hA Ox
 refine rg_nil (ek_next (wk_seq (wk_cond_t rfl (wk_skip (ek_next (wk_seq (wk_block (wk_seq ?_))))))))
 refine wk_region [0, 0] rfl Kx ?_
 simp only [qy]
 refine rg_move ?_
 simp only [qz]
 refine rg_assign ?_
 simp only [qz]
 refine rg_nil (ek_next (wk_seq ?_))
 refine wk_region [0, 0, 0, 0, 0, 1] rfl Kx ?_
 simp only [qy]
 refine rg_move ?_
 simp only [qz]
 refine rg_move ?_
 simp only [qz]
 refine rg_move ?_
 simp only [qz]
 refine rf_indexS (n := k) (sz := 5) (j := off + k * 5) rfl rfl rfl rfl Try.underlying22 Kx Ox Ox rfl ?_
 simp only [qz]
 refine rf_loadC (n := 5) (vs := [.int .i64 (nm xs k).a, .int .i64 (nm xs k).b, .int .i64 (nm xs k).c, .int .i64 (nm xs k).d, .int .i64 (nm xs k).k]) rfl rfl rfl Try.underlying29 rfl Kx rfl (fun w hw => atN_range ((hcell k Ox).kn hw hlt (by simp))) ?_
 simp only [qz]
 refine CV.rg_callVb (f := 120) (caps := #[]) (vs := #[nmV (nm xs k)]) (b := !(nm xs k).okB) Rx rfl Kx (by simp only [qm, qs, Act.eval] <;> rfl) (fun w hw => numbers1_any (nm xs k) w) Nz ?_
 intro x h2
 cases x
 ·(try simp only [qd, ne_eq] at h2)
  simp only [qz]
  refine rg_nil (ek_next (wk_cond_f rfl (wk_skip (ek_block (ek_next ?_)))))
  refine wk_region [0, 0] rfl Kx ?_
  simp only [qy]
  refine rf_add rfl rfl rfl rfl (wrap_ok Ox Ox) ?_
  simp only [qz]
  refine rg_move ?_
  simp only [qz]
  refine rg_nil ?_
  refine ek_roundF (xs.length - (k + 1)) Ox Kx ?_
  exact ⟨k + 1, rfl, rfl, by rfl, by rfl, by omega, (fun j hj => by rcases (by omega : j < k ∨ j = k) with h | rfl; exact hd2 j h; simpa using h2)⟩
 (try simp only [qd, ne_eq] at h2)
 simp only [qz]
 refine rg_nil (ek_next (wk_cond_t rfl (wk_seq ?_)))
 refine wk_region [0, 0] rfl Kx ?_
 simp only [qy]
 refine rg_move ?_
 simp only [qz]
 refine rg_assign ?_
 simp only [qz]
 refine rg_nil (ek_next (wk_ret (ek_block_ret (ek_then_ret (ek_then_ret (ek_block_ret (ek_then_ret ?_)))))))
 refine ek_ret (fun w hw => ⟨rfl, _, res_t _ rfl, ?_⟩)
 (try simp only [qz])
 exact ⟨(k : Int), rfl, by rw [allOk_false (k := k) Ox (by simpa using h2)]; simp, hw.below⟩
theorem contains_num (xs : List Nm) (a : Option Addr) (c : Nat) (hl : xs.length ≤ 1000000) (w : World) (hA : AS w a (nms xs)) : Calls Try.prog 119 #[.slice a xs.length c, .func (.func 120) #[] #[]] w fun e w' => e = .returned (.bool (!allOk xs)) ∧ Below w.heap.size w w' := by
 go_enter Try.func119, Try.ntmps119
 refine wk_start ?_
 refine wk_seq ?_
 refine wk_region [0] rfl Kx ?_
 simp only [qy]
 refine rg_assign ?_
 simp only [qz]
 refine rg_nil (ek_next (wk_seq ?_))
 refine wk_region [0, 0, 1, 0, 0] rfl Kx ?_
 simp only [qy]
 refine rg_move ?_
 simp only [qz]
 refine rg_move ?_
 simp only [qz]
 apply rg_call Rx Kx
 case hargs => exact Ax
 refine fun w hw => (index_num xs a c hl w (hA.kn0 hw)).mono ?_
 rintro e w' ⟨i, rfl, hi, hb⟩
 refine ⟨_, _, rfl, hw.call hb, Nz, ?_⟩
 simp only [qz]
 refine rf_geq rfl rfl rfl rfl rfl ?_
 simp only [qz]
 refine rg_assign ?_
 simp only [qz]
 refine rg_nil (ek_next (wk_ret ?_))
 refine ek_ret (fun w hw => ⟨rfl, _, res_t _ rfl, ?_⟩)
 (try simp only [qz])
 exact ⟨by rw [← hi], hw.below⟩
theorem numbers_any (xs : List Nm) (a : Option Addr) (c : Nat) (hl : xs.length ≤ 1000000) (w : World) (hA : AS w a (nms xs)) : Calls Try.prog 73 #[.slice a xs.length c] w fun e w' => e = .returned (.bool (allOk xs)) ∧ Below w.heap.size w w' := by
 go_enter Try.func73, Try.ntmps73
 refine wk_start ?_
 refine wk_seq ?_
 refine wk_region [0] rfl Kx ?_
 simp only [qy]
 refine rg_assign ?_
 simp only [qz]
 refine rg_nil (ek_next (wk_seq ?_))
 refine wk_region [0, 1, 0, 0] rfl Kx ?_
 simp only [qy]
 refine rg_move ?_
 simp only [qz]
 apply rg_pure Rx Kx
 case hargs => exact Ax
 case h => exact fun w hw => contains_num xs a c hl w (hA.kn0 hw)
 case hz => exact Nz
 simp only [qz]
 refine rf_not rfl rfl rfl ?_
 simp only [qz]
 refine rg_assign ?_
 simp only [qz]
 refine rg_nil (ek_next (wk_ret ?_))
 refine ek_ret (fun w hw => ⟨rfl, _, res_t _ rfl, ?_⟩)
 (try simp only [qz])
 exact ⟨by rw [Bool.not_not], hw.below⟩
theorem small_sq {n : Int} (h0 : 1 ≤ n) (h1 : n ≤ 6) : 1 ≤ n * n ∧ n * n ≤ 36 := by
 have : n = 1 ∨ n = 2 ∨ n = 3 ∨ n = 4 ∨ n = 5 ∨ n = 6 := by omega
 rcases this with rfl | rfl | rfl | rfl | rfl | rfl <;> decide
theorem mvalid_any (n : Int) (xs : List Nm) (a : Option Addr) (c : Nat) (hl : xs.length ≤ 1000000) (w : World) (hA : AS w a (nms xs)) : Calls Try.prog 24 #[.agg #[.int .i64 n, .slice a xs.length c]] w fun e w' => e = .returned (.bool (validB n xs)) ∧ Below w.heap.size w w' := by
 go_enter Try.func24, Try.ntmps24
 refine wk_start ?_
 refine wk_seq ?_
 refine wk_region [1, 0] rfl Kx ?_
 simp only [qy]
 refine Rgn fun g1 => ?_
 simp only [qz]
 refine rg_assign ?_
 simp only [qz]
 refine rg_nil (ek_next (wk_seq ?_))
 refine wk_region [0, 0, 0, 0, 0, 0, 0, 0, 0, 0, 0, 0, 0, 0, 0, 0, 0, 0, 0, 0, 0, 0, 1, 0, 0] rfl Kx ?_
 simp only [qy]
 refine rf_field (n := 0) (j := 0) rfl rfl rfl Try.underlying24 rfl Kx rfl ?_
 simp only [qz]
 refine rf_load rfl rfl rfl Try.underlying3 rfl (fun w hw => (Kn.hd0 hw).at rfl) ?_
 simp only [qz]
 refine rfb_geq rfl rfl rfl rfl ?_
 intro x h1
 cases x
 ·(try simp only [qd, ne_eq] at h1)
  simp only [qz]
  refine rg_move ?_
  simp only [qz]
  refine rg_skip Rx ?_
  simp only [qz]
  refine rg_skip Rx ?_
  simp only [qz]
  refine rg_skip Rx ?_
  simp only [qz]
  refine rf_pick rfl rfl rfl ?_
  simp only [qz]
  refine rg_move ?_
  simp only [qz]
  refine rg_skip Rx ?_
  simp only [qz]
  refine rg_skip Rx ?_
  simp only [qz]
  refine rg_skip Rx ?_
  simp only [qz]
  refine rg_skip Rx ?_
  simp only [qz]
  refine rg_skip Rx ?_
  simp only [qz]
  refine rg_skip Rx ?_
  simp only [qz]
  refine rg_skip Rx ?_
  simp only [qz]
  refine rg_skip Rx ?_
  simp only [qz]
  refine rg_skip Rx ?_
  simp only [qz]
  refine rf_pick rfl rfl rfl ?_
  simp only [qz]
  refine rg_move ?_
  simp only [qz]
  refine rg_skip Rx ?_
  simp only [qz]
  refine rg_skip Rx ?_
  simp only [qz]
  refine rg_skip_h Rx Nz ?_
  simp only [qz]
  refine rf_pick rfl rfl rfl ?_
  simp only [qz]
  refine rg_assign ?_
  simp only [qz]
  refine rg_nil (ek_next (wk_ret ?_))
  refine ek_ret (fun w hw => ⟨rfl, _, res_t _ rfl, ?_⟩)
  (try simp only [qz])
  exact ⟨by unfold validB; simp [*] <;> (try omega), hw.below⟩
 (try simp only [qd, ne_eq] at h1)
 simp only [qz]
 refine rg_move ?_
 simp only [qz]
 refine rf_field (n := 0) (j := 0) rfl rfl rfl Try.underlying24 rfl Kx rfl ?_
 simp only [qz]
 refine rf_load rfl rfl rfl Try.underlying3 rfl (fun w hw => (Kn.hd0 hw).at rfl) ?_
 simp only [qz]
 refine rfb_leq rfl rfl rfl rfl ?_
 intro x h2
 cases x
 ·(try simp only [qd, ne_eq] at h2)
  simp only [qz]
  refine rf_pick rfl rfl rfl ?_
  simp only [qz]
  refine rg_move ?_
  simp only [qz]
  refine rg_skip Rx ?_
  simp only [qz]
  refine rg_skip Rx ?_
  simp only [qz]
  refine rg_skip Rx ?_
  simp only [qz]
  refine rg_skip Rx ?_
  simp only [qz]
  refine rg_skip Rx ?_
  simp only [qz]
  refine rg_skip Rx ?_
  simp only [qz]
  refine rg_skip Rx ?_
  simp only [qz]
  refine rg_skip Rx ?_
  simp only [qz]
  refine rg_skip Rx ?_
  simp only [qz]
  refine rf_pick rfl rfl rfl ?_
  simp only [qz]
  refine rg_move ?_
  simp only [qz]
  refine rg_skip Rx ?_
  simp only [qz]
  refine rg_skip Rx ?_
  simp only [qz]
  refine rg_skip_h Rx Nz ?_
  simp only [qz]
  refine rf_pick rfl rfl rfl ?_
  simp only [qz]
  refine rg_assign ?_
  simp only [qz]
  refine rg_nil (ek_next (wk_ret ?_))
  refine ek_ret (fun w hw => ⟨rfl, _, res_t _ rfl, ?_⟩)
  (try simp only [qz])
  exact ⟨by unfold validB; simp [*] <;> (try omega), hw.below⟩
 (try simp only [qd, ne_eq] at h2)
 simp only [qz]
 refine rf_pick rfl rfl rfl ?_
 simp only [qz]
 refine rg_move ?_
 simp only [qz]
 refine rf_field (n := 0) (j := 1) rfl rfl rfl Try.underlying24 rfl Kx rfl ?_
 simp only [qz]
 refine rf_load rfl rfl rfl Try.underlying22 rfl (fun w hw => (Kn.hd0 hw).at rfl) ?_
 simp only [qz]
 refine rf_len rfl rfl rfl Try.underlying22 ?_
 simp only [qz]
 refine rf_field (n := 0) (j := 0) rfl rfl rfl Try.underlying24 rfl Kx rfl ?_
 simp only [qz]
 refine rf_load rfl rfl rfl Try.underlying3 rfl (fun w hw => (Kn.hd0 hw).at rfl) ?_
 simp only [qz]
 refine rf_field (n := 0) (j := 0) rfl rfl rfl Try.underlying24 rfl Kx rfl ?_
 simp only [qz]
 refine rf_load rfl rfl rfl Try.underlying3 rfl (fun w hw => (Kn.hd0 hw).at rfl) ?_
 simp only [qz]
 have hnn := small_sq (n := n) Ox Ox
 refine rf_mul rfl rfl rfl rfl (wrap_ok Ox Ox) ?_
 simp only [qz]
 refine rfb_eql rfl rfl rfl rfl ?_
 intro x h3
 cases x
 ·(try simp only [qd, ne_eq] at h3)
  simp only [qz]
  refine rf_pick rfl rfl rfl ?_
  simp only [qz]
  refine rg_move ?_
  simp only [qz]
  refine rg_skip Rx ?_
  simp only [qz]
  refine rg_skip Rx ?_
  simp only [qz]
  refine rg_skip_h Rx Nz ?_
  simp only [qz]
  refine rf_pick rfl rfl rfl ?_
  simp only [qz]
  refine rg_assign ?_
  simp only [qz]
  refine rg_nil (ek_next (wk_ret ?_))
  refine ek_ret (fun w hw => ⟨rfl, _, res_t _ rfl, ?_⟩)
  (try simp only [qz])
  exact ⟨by unfold validB; simp [*] <;> (try omega), hw.below⟩
 (try simp only [qd, ne_eq] at h3)
 simp only [qz]
 refine rf_pick rfl rfl rfl ?_
 simp only [qz]
 refine rg_move ?_
 simp only [qz]
 refine rf_field (n := 0) (j := 1) rfl rfl rfl Try.underlying24 rfl Kx rfl ?_
 simp only [qz]
 refine rf_load rfl rfl rfl Try.underlying22 rfl (fun w hw => (Kn.hd0 hw).at rfl) ?_
 simp only [qz]
 apply rg_pure Rx Kx
 case hargs => exact Ax
 case h => exact fun w hw => numbers_any xs a c hl w (hA.kn0 hw)
 case hz => exact Nz
 simp only [qz]
 refine rf_pick rfl rfl rfl ?_
 simp only [qz]
 refine rg_assign ?_
 simp only [qz]
 refine rg_nil (ek_next (wk_ret ?_))
 refine ek_ret (fun w hw => ⟨rfl, _, res_t _ rfl, ?_⟩)
 (try simp only [qz])
 exact ⟨by unfold validB; simp [*] <;> (try omega), hw.below⟩
theorem rmvalid_any (n : Int) (xs : List Nm) (a : Option Addr) (c : Nat) (hl : xs.length ≤ 1000000) (w : World) (hA : AS w a (nms xs)) : Calls Try.prog 25 #[.agg #[.int .i64 n, .slice a xs.length c]] w fun e w' => e = .returned (.bool (validB n xs)) ∧ Below w.heap.size w w' := by
 go_enter Try.func25, Try.ntmps25
 refine wk_start ?_
 refine wk_seq ?_
 refine wk_region [1, 0] rfl Kx ?_
 simp only [qy]
 refine Rgn fun g1 => ?_
 simp only [qz]
 refine rg_assign ?_
 simp only [qz]
 refine rg_nil (ek_next (wk_seq (wk_seq ?_)))
 refine wk_region [0, 0, 0, 0, 0, 0, 0, 0, 0, 0, 0, 0, 0, 0, 0, 0, 0, 0, 0] rfl Kx ?_
 simp only [qy]
 refine rf_field (n := 0) (j := 0) rfl rfl rfl Try.underlying24 rfl Kx rfl ?_
 simp only [qz]
 refine rf_load rfl rfl rfl Try.underlying3 rfl (fun w hw => (Kn.hd0 hw).at rfl) ?_
 simp only [qz]
 refine rfb_lss rfl rfl rfl rfl ?_
 intro x h1
 cases x
 ·(try simp only [qd, ne_eq] at h1)
  simp only [qz]
  refine rg_move ?_
  simp only [qz]
  refine rf_field (n := 0) (j := 0) rfl rfl rfl Try.underlying24 rfl Kx rfl ?_
  simp only [qz]
  refine rf_load rfl rfl rfl Try.underlying3 rfl (fun w hw => (Kn.hd0 hw).at rfl) ?_
  simp only [qz]
  refine rfb_gtr rfl rfl rfl rfl ?_
  intro x h2
  cases x
  ·(try simp only [qd, ne_eq] at h2)
   simp only [qz]
   refine rf_pick rfl rfl rfl ?_
   simp only [qz]
   refine rg_move ?_
   simp only [qz]
   refine rf_field (n := 0) (j := 1) rfl rfl rfl Try.underlying24 rfl Kx rfl ?_
   simp only [qz]
   refine rf_load rfl rfl rfl Try.underlying22 rfl (fun w hw => (Kn.hd0 hw).at rfl) ?_
   simp only [qz]
   refine rf_len rfl rfl rfl Try.underlying22 ?_
   simp only [qz]
   refine rf_field (n := 0) (j := 0) rfl rfl rfl Try.underlying24 rfl Kx rfl ?_
   simp only [qz]
   refine rf_load rfl rfl rfl Try.underlying3 rfl (fun w hw => (Kn.hd0 hw).at rfl) ?_
   simp only [qz]
   refine rf_field (n := 0) (j := 0) rfl rfl rfl Try.underlying24 rfl Kx rfl ?_
   simp only [qz]
   refine rf_load rfl rfl rfl Try.underlying3 rfl (fun w hw => (Kn.hd0 hw).at rfl) ?_
   simp only [qz]
   have hnn := small_sq (n := n) Ox Ox
   refine rf_mul rfl rfl rfl rfl (wrap_ok Ox Ox) ?_
   simp only [qz]
   refine rfb_neq rfl rfl rfl rfl ?_
   intro x h3
   cases x
   ·(try simp only [qd, ne_eq] at h3)
    simp only [qz]
    refine rf_pick rfl rfl rfl ?_
    simp only [qz]
    refine rg_nil (ek_next (wk_cond_f rfl (wk_skip (ek_next (wk_seq (wk_seq ?_))))))
    refine wk_region [0] rfl Kx ?_
    simp only [qy]
    refine rg_assign ?_
    simp only [qz]
    refine rg_nil (ek_next (wk_block ?_))
    refine wk_loopF [2, 3, 23, 24, 25, 26, 27, 28, 29, 30, 31, 32, 33, 34, 35, 36] (fun mz f s => ∃ (k : Nat), f 2 = .bool false ∧ f 3 = .int .i64 k ∧ s = ((g1, .cells #[.int .i64 n, .slice a xs.length c] 24) :: []) ∧ mz = xs.length - k ∧ k ≤ xs.length ∧ (∀ j, j < k → (nm xs j).okB = true)) ((fun (k : Nat) => xs.length - k) (0)) ?_ Kx ?_
    ·exact ⟨0, rfl, rfl, rfl, rfl, by omega, fun j hj => by omega⟩
    rintro mz f1 s ⟨k, hs1_2, hs1_3, rfl, hn, hd1, hd2⟩
    simp only [Act.putF, List.foldl_cons, List.foldl_nil, hs1_2, hs1_3, Act.put, Act.eval, q1, q2, q3, q4, q5, q6, q7, q8, q9, q10, q11, q12, q13, q14, q15, q16, q17, q18, Nat.reduceAdd, Bool.not_true, Bool.not_false]
    clear hs1_2 hs1_3
    refine wk_seq (wk_seq ?_)
    refine wk_region [0, 0, 0, 0, 0] rfl Kx ?_
    simp only [qy]
    refine rg_move ?_
    simp only [qz]
    refine rf_field (n := 0) (j := 1) rfl rfl rfl Try.underlying24 rfl Kx rfl ?_
    simp only [qz]
    refine rf_load rfl rfl rfl Try.underlying22 rfl (fun w hw => (Kn.hd0 hw).at rfl) ?_
    simp only [qz]
    refine rf_len rfl rfl rfl Try.underlying22 ?_
    simp only [qz]
    refine rfb_lss rfl rfl rfl rfl ?_
    intro x h4
    cases x
    ·(try simp only [qd, ne_eq] at h4)
     simp only [qz]
     refine rg_nil (ek_next (wk_cond_f rfl (wk_exit (ek_then_exit (ek_then_exit (ek_block_exit (ek_next (wk_seq ?_))))))))
     refine wk_region [0] rfl Kx ?_
     simp only [qy]
     refine rg_assign ?_
     simp only [qz]
     refine rg_nil (ek_next (wk_ret ?_))
     refine ek_ret (fun w hw => ⟨rfl, _, res_t _ rfl, ?_⟩)
     (try simp only [qz])
     exact ⟨by unfold validB; rw [allOk_true (fun j hj => hd2 j Ox)]; simp [*] <;> omega, hw.below⟩
    (try simp only [qd, ne_eq] at h4)
    simp only [qz]
    obtain ⟨b, off, ha, hlt, hcell⟩ := AS.openN hA Ox
    subst ha
    refine rg_nil (ek_next (wk_cond_t rfl (wk_skip (ek_next (wk_seq (wk_block (wk_seq ?_)))))))
    refine wk_region [0, 0, 0, 0, 0, 1, 0] rfl Kx ?_
    simp only [qy]
    refine rf_field (n := 0) (j := 1) rfl rfl rfl Try.underlying24 rfl Kx rfl ?_
    simp only [qz]
    refine rf_load rfl rfl rfl Try.underlying22 rfl (fun w hw => (Kn.hd0 hw).at rfl) ?_
    simp only [qz]
    refine rg_move ?_
    simp only [qz]
    refine rf_indexS (n := k) (sz := 5) (j := off + k * 5) rfl rfl rfl rfl Try.underlying22 Kx Ox Ox rfl ?_
    simp only [qz]
    refine rf_loadC (n := 5) (vs := [.int .i64 (nm xs k).a, .int .i64 (nm xs k).b, .int .i64 (nm xs k).c, .int .i64 (nm xs k).d, .int .i64 (nm xs k).k]) rfl rfl rfl Try.underlying29 rfl Kx rfl (fun w hw => atN_range ((hcell k Ox).kn hw hlt (by simp))) ?_
    simp only [qz]
    apply rg_pureb Rx Kx
    case hargs => exact Ax
    case h => exact fun w hw => rValidNum_any (nm xs k) w
    case hz => exact Nz
    intro x h5
    cases x
    ·(try simp only [qd, ne_eq] at h5)
     simp only [qz]
     refine rf_not rfl rfl rfl ?_
     simp only [qz]
     refine rg_nil (ek_next (wk_cond_t rfl (wk_seq ?_)))
     refine wk_region [0] rfl Kx ?_
     simp only [qy]
     refine rg_assign ?_
     simp only [qz]
     refine rg_nil (ek_next (wk_ret (ek_block_ret (ek_then_ret (ek_then_ret (ek_block_ret (ek_then_ret ?_)))))))
     refine ek_ret (fun w hw => ⟨rfl, _, res_t _ rfl, ?_⟩)
     (try simp only [qz])
     exact ⟨by unfold validB; rw [allOk_false (k := k) Ox h5]; simp, hw.below⟩
    (try simp only [qd, ne_eq] at h5)
    simp only [qz]
    refine rf_not rfl rfl rfl ?_
    simp only [qz]
    refine rg_nil (ek_next (wk_cond_f rfl (wk_skip (ek_block (ek_next ?_)))))
    refine wk_region [0, 0, 0] rfl Kx ?_
    simp only [qy]
    refine rg_move ?_
    simp only [qz]
    refine rf_add rfl rfl rfl rfl (wrap_ok Ox Ox) ?_
    simp only [qz]
    refine rg_assign ?_
    simp only [qz]
    refine rg_nil ?_
    refine ek_roundF (xs.length - (k + 1)) Ox Kx ?_
    exact ⟨k + 1, rfl, rfl, by rfl, by rfl, by omega, (fun j hj => by rcases (by omega : j < k ∨ j = k) with h | rfl; exact hd2 j h; exact h5)⟩
   (try simp only [qd, ne_eq] at h3)
   simp only [qz]
   refine rf_pick rfl rfl rfl ?_
   simp only [qz]
   refine rg_nil (ek_next (wk_cond_t rfl (wk_seq ?_)))
   refine wk_region [0] rfl Kx ?_
   simp only [qy]
   refine rg_assign ?_
   simp only [qz]
   refine rg_nil (ek_next (wk_ret (ek_then_ret ?_)))
   refine ek_ret (fun w hw => ⟨rfl, _, res_t _ rfl, ?_⟩)
   (try simp only [qz])
   exact ⟨by unfold validB; simp [*] <;> (try omega), hw.below⟩
  (try simp only [qd, ne_eq] at h2)
  simp only [qz]
  refine rf_pick rfl rfl rfl ?_
  simp only [qz]
  refine rg_move ?_
  simp only [qz]
  refine rg_skip Rx ?_
  simp only [qz]
  refine rg_skip Rx ?_
  simp only [qz]
  refine rg_skip Rx ?_
  simp only [qz]
  refine rg_skip Rx ?_
  simp only [qz]
  refine rg_skip Rx ?_
  simp only [qz]
  refine rg_skip Rx ?_
  simp only [qz]
  refine rg_skip Rx ?_
  simp only [qz]
  refine rg_skip Rx ?_
  simp only [qz]
  refine rg_skip Rx ?_
  simp only [qz]
  refine rf_pick rfl rfl rfl ?_
  simp only [qz]
  refine rg_nil (ek_next (wk_cond_t rfl (wk_seq ?_)))
  refine wk_region [0] rfl Kx ?_
  simp only [qy]
  refine rg_assign ?_
  simp only [qz]
  refine rg_nil (ek_next (wk_ret (ek_then_ret ?_)))
  refine ek_ret (fun w hw => ⟨rfl, _, res_t _ rfl, ?_⟩)
  (try simp only [qz])
  exact ⟨by unfold validB; simp [*] <;> (try omega), hw.below⟩
 (try simp only [qd, ne_eq] at h1)
 simp only [qz]
 refine rg_move ?_
 simp only [qz]
 refine rg_skip Rx ?_
 simp only [qz]
 refine rg_skip Rx ?_
 simp only [qz]
 refine rg_skip Rx ?_
 simp only [qz]
 refine rf_pick rfl rfl rfl ?_
 simp only [qz]
 refine rg_move ?_
 simp only [qz]
 refine rg_skip Rx ?_
 simp only [qz]
 refine rg_skip Rx ?_
 simp only [qz]
 refine rg_skip Rx ?_
 simp only [qz]
 refine rg_skip Rx ?_
 simp only [qz]
 refine rg_skip Rx ?_
 simp only [qz]
 refine rg_skip Rx ?_
 simp only [qz]
 refine rg_skip Rx ?_
 simp only [qz]
 refine rg_skip Rx ?_
 simp only [qz]
 refine rg_skip Rx ?_
 simp only [qz]
 refine rf_pick rfl rfl rfl ?_
 simp only [qz]
 refine rg_nil (ek_next (wk_cond_t rfl (wk_seq ?_)))
 refine wk_region [0] rfl Kx ?_
 simp only [qy]
 refine rg_assign ?_
 simp only [qz]
 refine rg_nil (ek_next (wk_ret (ek_then_ret ?_)))
 refine ek_ret (fun w hw => ⟨rfl, _, res_t _ rfl, ?_⟩)
 (try simp only [qz])
 exact ⟨by unfold validB; simp [*] <;> (try omega), hw.below⟩
set_option maxHeartbeats 1000000
theorem turn_inj {x : Nm} (hx : x.Ok) : ∀ i j, i < j → j < 8 → Nm.turn i x = Nm.turn j x → x = Nm.zero := by
 obtain ⟨a, b, c, d, k⟩ := x
 intro i j hij hj h
 have hk := hx.form
 have key : a = 0 ∧ b = 0 ∧ c = 0 ∧ d = 0 := by
  have hi : i < 8 := by omega
  rcases (by omega : i = 0 ∨ i = 1 ∨ i = 2 ∨ i = 3 ∨ i = 4 ∨ i = 5 ∨ i = 6 ∨ i = 7) with rfl | rfl | rfl | rfl | rfl | rfl | rfl | rfl <;>
  rcases (by omega : j = 0 ∨ j = 1 ∨ j = 2 ∨ j = 3 ∨ j = 4 ∨ j = 5 ∨ j = 6 ∨ j = 7) with rfl | rfl | rfl | rfl | rfl | rfl | rfl | rfl <;>
  first | (exfalso; omega) | (simp only [Nm.turn, Nm.rot, Nm.mk.injEq] at h; omega)
 obtain ⟨rfl, rfl, rfl, rfl⟩ := key
 rcases hk with hk | hk
 ·cases hk; rfl
 ·exact absurd ⟨by simp, by simp⟩ hk
def btK (x y : Nm) : Nat → Option Nat
  | 0 => none
  | n + 1 => if Nm.turn n x = y then some n else btK x y n
def btw (x y : Nm) : Option Nat := btK x y 8
theorem btK_none {x y : Nm} : ∀ n, (∀ j, j < n → Nm.turn j x ≠ y) → btK x y n = none
  | 0, _ => rfl
  | n + 1, h => by
    unfold btK
    rw [if_neg (h n (by omega))]
    exact btK_none n fun j hj => h j (by omega)
theorem btK_some {x y : Nm} : ∀ {n t : Nat}, btK x y n = some t → t < n ∧ Nm.turn t x = y
  | 0, t, h => by cases h
  | n + 1, t, h => by
    unfold btK at h
    split at h
    · next e => cases h; exact ⟨by omega, e⟩
    · have := btK_some h; exact ⟨by omega, this.2⟩
def NotZ (x y : Nm) : Prop := ¬ (x = Nm.zero ∧ y = Nm.zero)
theorem turn_zero : ∀ n, Nm.turn n Nm.zero = Nm.zero
  | 0 => rfl
  | n + 1 => by rw [Nm.turn, turn_zero n]; rfl
theorem turn_uniq {x y : Nm} (hx : x.Ok) (hz : NotZ x y) {i j : Nat} (hi : i < 8) (hj : j < 8) (h1 : Nm.turn i x = y) (h2 : Nm.turn j x = y) : i = j := by
 have h0 : x ≠ Nm.zero := fun e => hz ⟨e, by rw [← h1, e, turn_zero]⟩
 rcases Nat.lt_trichotomy i j with h | h | h
 ·exact absurd (turn_inj hx i j h hj (h1.trans h2.symm)) h0
 ·exact h
 ·exact absurd (turn_inj hx j i h hi (h2.trans h1.symm)) h0
theorem btw_eq {x y : Nm} (hx : x.Ok) (hz : NotZ x y) {t : Nat} (ht : t < 8) (h : Nm.turn t x = y) : btw x y = some t := by
 have : ∀ n, t < n → n ≤ 8 → btK x y n = some t := by
  intro n
  induction n with
  | zero => intro h; omega
  | succ n ih =>
   intro h1 h2
   unfold btK
   by_cases e : Nm.turn n x = y
   ·rw [if_pos e, turn_uniq hx hz (by omega) ht e h]
   ·rw [if_neg e]
    exact ih (by
     rcases (by omega : t < n ∨ t = n) with h3 | rfl
     ·exact h3
     ·exact absurd h e) (by omega)
 exact this 8 ht (Nat.le_refl _)
theorem btw_no {x y : Nm} (h : ∀ j, j < 8 → Nm.turn j x ≠ y) : btw x y = none := btK_none 8 h
def btV (x y : Nm) : Int := match btw x y with
  | some t => t
  | none => 0
def btB (x y : Nm) : Bool := (btw x y).isSome
def edM (N : Nat) (xs ys : List Nm) : Ed := fun i k => if nm xs (i * N + k) = Nm.zero ∧ nm ys (i * N + k) = Nm.zero then none else some (btw (nm xs (i * N + k)) (nm ys (i * N + k)))
theorem edM_none {N : Nat} {xs ys : List Nm} {i k : Nat} (h1 : nm xs (i * N + k) = Nm.zero) (h2 : nm ys (i * N + k) = Nm.zero) : edM N xs ys i k = none := if_pos ⟨h1, h2⟩
theorem edM_some {N : Nat} {xs ys : List Nm} {i k : Nat} (h : NotZ (nm xs (i * N + k)) (nm ys (i * N + k))) : edM N xs ys i k = some (btw (nm xs (i * N + k)) (nm ys (i * N + k))) := if_neg h
noncomputable def alkB (n m : Int) (xs ys : List Nm) : Bool := if validB n xs && validB m ys then (if n = m then alikeA n.toNat (edM n.toNat xs ys) else false) else false
def alkE (n m : Int) (xs ys : List Nm) : Int := if validB n xs && validB m ys then (if n = m then 0 else 21) else 20
theorem alk_bad {n m : Int} {xs ys : List Nm} (h : (validB n xs && validB m ys) = false) : alkB n m xs ys = false ∧ alkE n m xs ys = 20 := by
 unfold alkB alkE; rw [h]; exact ⟨rfl, rfl⟩
theorem alk_size {n m : Int} {xs ys : List Nm} (h : (validB n xs && validB m ys) = true) (hn : n ≠ m) : alkB n m xs ys = false ∧ alkE n m xs ys = 21 := by
 unfold alkB alkE; rw [h, if_pos rfl, if_pos rfl, if_neg hn, if_neg hn]; exact ⟨rfl, rfl⟩
theorem alk_ok {N : Nat} {xs ys : List Nm} (h : (validB N xs && validB N ys) = true) : alkB N N xs ys = alikeA N (edM N xs ys) ∧ alkE N N xs ys = 0 := by
 unfold alkB alkE; rw [h, if_pos rfl, if_pos rfl, if_pos rfl, if_pos rfl, Int.toNat_natCast]; exact ⟨rfl, rfl⟩
structure EdgA (N : Nat) (E : Ed) (L : List (Nat × Nat × Nat)) (m : Nat) : Prop where
  old : ∀ (j i k t : Nat), L[j]? = some (i, k, t) → i < N ∧ k < N ∧ t < 8 ∧ E i k = some (some t) ∧ i * N + k < m
  all : ∀ i k, i < N → k < N → i * N + k < m → ∀ e, E i k = some e → ∃ j t : Nat, L[j]? = some (i, k, t)
theorem edgA_start (N : Nat) (E : Ed) : EdgA N E [] 0 := ⟨fun j i k t h => by simp at h, fun i k _ _ h => by omega⟩
theorem ixN_inj {N i k i' k' : Nat} (hk : k < N) (hk' : k' < N) (h : i * N + k = i' * N + k') : i = i' ∧ k = k' := by
 have h1 : (i * N + k) / N = i := by rw [Nat.mul_comm, Nat.mul_add_div (by omega), Nat.div_eq_of_lt hk]; rfl
 have h2 : (i' * N + k') / N = i' := by rw [Nat.mul_comm, Nat.mul_add_div (by omega), Nat.div_eq_of_lt hk']; rfl
 have : i = i' := by rw [← h1, ← h2, h]
 subst this
 exact ⟨rfl, by omega⟩
theorem EdgA.none {N : Nat} {E : Ed} {L : List (Nat × Nat × Nat)} {m i k : Nat} (h : EdgA N E L m) (hk : k < N) (hm : m = i * N + k) (he : E i k = .none) : EdgA N E L (m + 1) :=
  ⟨fun j i k t hj => by have := h.old j i k t hj; exact ⟨this.1, this.2.1, this.2.2.1, this.2.2.2.1, by omega⟩, fun i' k' hi' hk' hl e he' => by
    rcases (by omega : i' * N + k' < m ∨ i' * N + k' = m) with h1 | h1
    · exact h.all i' k' hi' hk' h1 e he'
    · obtain ⟨rfl, rfl⟩ := ixN_inj hk' hk (h1.trans hm)
      rw [he] at he'; cases he'⟩
theorem EdgA.push {N : Nat} {E : Ed} {L : List (Nat × Nat × Nat)} {m i k t : Nat} (h : EdgA N E L m) (hi : i < N) (hk : k < N) (ht : t < 8) (hm : m = i * N + k) (he : E i k = some (some t)) : EdgA N E (L ++ [(i, k, t)]) (m + 1) := by
 refine ⟨fun j i' k' t' hj => ?_, fun i' k' hi' hk' hl e he' => ?_⟩
 ·rw [List.getElem?_append] at hj
  split at hj
  ·have := h.old j i' k' t' hj; exact ⟨this.1, this.2.1, this.2.2.1, this.2.2.2.1, by omega⟩
  ·rw [List.getElem?_singleton] at hj
   split at hj
   ·cases hj; exact ⟨hi, hk, ht, he, by omega⟩
   ·cases hj
 ·rcases (by omega : i' * N + k' < m ∨ i' * N + k' = m) with h1 | h1
  ·obtain ⟨j, t', hj⟩ := h.all i' k' hi' hk' h1 e he'
   refine ⟨j, t', ?_⟩
   rw [List.getElem?_append_left (by
    rcases Nat.lt_or_ge j L.length with h | h
    ·exact h
    ·rw [List.getElem?_eq_none h] at hj; cases hj)]
   exact hj
  ·obtain ⟨rfl, rfl⟩ := ixN_inj hk' hk (h1.trans hm)
   exact ⟨L.length, t, by simp⟩
theorem EdgA.fresh {N : Nat} {E : Ed} {L : List (Nat × Nat × Nat)} {m i k : Nat} (h : EdgA N E L m) (hm : m = i * N + k) : ∀ x ∈ L, ¬ (i = x.1 ∧ k = x.2.1) := by
 rintro ⟨i', k', t'⟩ hx ⟨rfl, rfl⟩
 obtain ⟨j, hj⟩ := List.mem_iff_getElem?.1 hx
 have := (h.old j _ _ _ hj).2.2.2.2
 omega
theorem EdgA.lis {N : Nat} {E : Ed} {L : List (Nat × Nat × Nat)} (h : EdgA N E L (N * N)) : LisA N E L :=
  ⟨fun j i k t hj => by have := h.old j i k t hj; exact ⟨this.1, this.2.1, this.2.2.1, this.2.2.2.1⟩, fun i k hi hk => h.all i k hi hk (by
    have : (i + 1) * N ≤ N * N := Nat.mul_le_mul_right N hi
    rw [Nat.succ_mul] at this; omega)⟩
theorem edM_z {N : Nat} {xs ys : List Nm} {i : Nat} (h1 : nm xs i = Nm.zero) (h2 : nm ys i = nm xs i) : edM N xs ys (i / N) (i % N) = none := by
 have e : i / N * N + i % N = i := Nat.div_add_mod' i N
 exact edM_none (by rw [e]; exact h1) (by rw [e, h2]; exact h1)
theorem edM_s {N : Nat} {xs ys : List Nm} {i : Nat} {o : Option Nat} (h : NotZ (nm xs i) (nm ys i)) (hb : btw (nm xs i) (nm ys i) = o) : edM N xs ys (i / N) (i % N) = some o := by
 have e : i / N * N + i % N = i := Nat.div_add_mod' i N
 rw [edM_some (by rw [e]; exact h), e, hb]
theorem quo_n {i N : Nat} (h : i ≤ 1000000) : IntKind.i64.wrap ((i : Int).tdiv (N : Int)) = ((i / N : Nat) : Int) := by
 have h1 : (i : Int).tdiv (N : Int) = ((i / N : Nat) : Int) := by rw [Int.tdiv_eq_ediv_of_nonneg (by omega)]; rfl
 have h2 : i / N ≤ i := Nat.div_le_self i N
 rw [h1, IntKind.wrap_i64]
 generalize i / N = d at h2 ⊢
 omega
theorem rem_n {i N : Nat} : (i : Int).tmod (N : Int) = ((i % N : Nat) : Int) := by rw [Int.tmod_eq_emod_of_nonneg (by omega)]; rfl
theorem btw_lt {x y : Nm} {t : Nat} (h : btw x y = some t) : t < 8 := (btK_some h).1
theorem turn1_ok (z : Nm) (n : Int) (hz : z.Ok) (gn tn : Nat) (w : World) (hn : Hd w gn tn #[.int .i64 n]) : Calls Try.prog 152 #[nmV z, .pointer (some ⟨gn, 0, none⟩)] w fun e w' => e = .returned (nmV (Nm.turn (n % 8).toNat z)) ∧ Below w.heap.size w w' := by
 go_enter Try.func152, Try.ntmps152
 refine wk_start ?_
 refine wk_seq ?_
 refine wk_region [1, 1] rfl Kx ?_
 simp only [qy]
 refine Rgn fun g1 => ?_
 simp only [qz]
 refine Rgn fun g2 => ?_
 simp only [qz]
 refine rg_nil ?_
 refine ek_next ?_
 refine wk_seq ?_
 refine wk_seq ?_
 refine wk_region [0, 0, 0] rfl Kx ?_
 simp only [qy]
 refine rf_load rfl rfl rfl Try.underlying3 rfl (fun w hw => ((Kn.hdB hw hn (by simp)).cell 0).trans rfl) ?_
 simp only [qz]
 apply rg_soft
 case hy => (intro w hw; have hand := and7; go_simp; (try go_bits); exact Yld.mk _ _)
 simp only [qz]
 refine rg_move ?_
 simp only [qz]
 refine rg_nil ?_
 refine ek_next ?_
 refine wk_block ?_
 refine wk_loopF [6, 7, 8, 9, 10, 11, 12, 13, 14, 15, 16, 17, 18, 19, 20, 21, 22, 23] (fun mz f s => ∃ (j : Nat) (y : Nm), f 6 = .int .i64 j ∧ s = ((g2, .cells #[.int .i64 0, .int .i64 0, .int .i64 0, .int .i64 0, .int .i64 0] 29) :: ((g1, .cells #[.int .i64 y.a, .int .i64 y.b, .int .i64 y.c, .int .i64 y.d, .int .i64 y.k] 29) :: [])) ∧ mz = 8 - j ∧ (j : Int) ≤ n % 8 ∧ Nm.turn j z = y ∧ y.Ok) ((fun (j : Nat) (y : Nm) => 8 - j) (0) (z)) ?_ Kx ?_
 ·exact ⟨0, z, rfl, rfl, rfl, by omega, rfl, hz⟩
 rintro mz f1 s ⟨j, y, hs1_6, rfl, hn, hc1, hc2, hc3⟩
 simp only [Act.putF, List.foldl_cons, List.foldl_nil, hs1_6, Act.put, Act.eval, q1, q2, q3, q4, q5, q6, q7, q8, q9, q10, q11, q12, q13, q14, q15, q16, q17, q18, Nat.reduceAdd, Bool.not_true, Bool.not_false]
 clear hs1_6
 have hy := Lib.hid hc2
 clear hc2
 have hok := hc3
 obtain ⟨⟨fa0, fa1, fb0, fb1, fc0, fc1, fd0, fd1⟩, fk0, fk1, ff⟩ := hc3
 refine wk_seq ?_
 refine wk_region [0] rfl Kx ?_
 simp only [qy]
 refine rfb_lss rfl rfl rfl rfl ?_
 intro x h1
 cases x
 ·(try simp only [qd, ne_eq] at h1)
  simp only [qz]
  refine rg_nil ?_
  refine ek_next ?_
  refine wk_seq ?_
  refine wk_cond_f rfl ?_
  refine wk_exit ?_
  refine ek_then_exit ?_
  refine ek_then_exit ?_
  refine ek_block_exit ?_
  refine ek_next ?_
  refine wk_seq ?_
  refine wk_region [0, 1] rfl Kx ?_
  simp only [qy]
  refine rf_loadR (n := 5) rfl rfl rfl Try.underlying29 rfl Kx (fun w hw => Kn.hd0 (Kn.tl hw)) rfl rfl ?_
  simp only [qz]
  refine rf_storeR (n := 5) rfl rfl Kx rfl rfl (UpdR.here _ _ _ Nl) Nz ?_
  simp only [qz, Nat.reduceAdd]
  refine rg_nil ?_
  refine ek_next ?_
  refine wk_ret ?_
  refine ek_ret (fun w hw => ⟨rfl, _, run_results1 rfl rfl (Kn.hd0 hw) Try.underlying29 rfl Kx, ?_⟩)
  (try simp only [qz])
  have e : (n % 8).toNat = j := by omega
  exact ⟨by rw [e, hy.out], hw.below⟩
 (try simp only [qd, ne_eq] at h1)
 simp only [qz]
 refine rg_nil ?_
 refine ek_next ?_
 refine wk_seq ?_
 refine wk_cond_t rfl ?_
 refine wk_skip ?_
 refine ek_next ?_
 refine wk_seq ?_
 refine wk_block ?_
 refine wk_region [0, 0, 0, 0, 0, 0, 0, 0, 0, 0, 0, 0, 0, 0, 0, 1] rfl Kx ?_
 simp only [qy]
 refine rf_field (n := 3) (j := 0) rfl rfl rfl Try.underlying29 rfl Kx rfl ?_
 simp only [qz]
 refine rf_indexA (n := 3) (sz := 1) (j := 3) rfl rfl rfl rfl Try.underlying27 Kx (by decide) rfl ?_
 simp only [qz]
 refine rf_load rfl rfl rfl Try.underlying3 rfl (fun w hw => (Kn.hd0 (Kn.tl hw)).at rfl) ?_
 simp only [qz]
 refine rf_neg rfl rfl rfl (wrap_ok Ox Ox) ?_
 simp only [qz]
 refine rf_field (n := 3) (j := 0) rfl rfl rfl Try.underlying29 rfl Kx rfl ?_
 simp only [qz]
 refine rf_indexA (n := 0) (sz := 1) (j := 0) rfl rfl rfl rfl Try.underlying27 Kx (by decide) rfl ?_
 simp only [qz]
 refine rf_load rfl rfl rfl Try.underlying3 rfl (fun w hw => (Kn.hd0 (Kn.tl hw)).at rfl) ?_
 simp only [qz]
 refine rf_field (n := 3) (j := 0) rfl rfl rfl Try.underlying29 rfl Kx rfl ?_
 simp only [qz]
 refine rf_indexA (n := 1) (sz := 1) (j := 1) rfl rfl rfl rfl Try.underlying27 Kx (by decide) rfl ?_
 simp only [qz]
 refine rf_load rfl rfl rfl Try.underlying3 rfl (fun w hw => (Kn.hd0 (Kn.tl hw)).at rfl) ?_
 simp only [qz]
 refine rf_field (n := 3) (j := 0) rfl rfl rfl Try.underlying29 rfl Kx rfl ?_
 simp only [qz]
 refine rf_indexA (n := 2) (sz := 1) (j := 2) rfl rfl rfl rfl Try.underlying27 Kx (by decide) rfl ?_
 simp only [qz]
 refine rf_load rfl rfl rfl Try.underlying3 rfl (fun w hw => (Kn.hd0 (Kn.tl hw)).at rfl) ?_
 simp only [qz]
 refine rf_build (cs := fun a => #[a.eval (.tmp 11), a.eval (.tmp 14), a.eval (.tmp 17), a.eval (.tmp 20)]) rfl rfl Kx ?_
 simp only [qz]
 refine rf_field (n := 3) (j := 0) rfl rfl rfl Try.underlying29 rfl Kx rfl ?_
 simp only [qz]
 refine rf_storeR (n := 4) rfl rfl Kx rfl rfl (UpdR.there _ (UpdR.here _ _ _ Nl)) Nz ?_
 simp only [qz, Nat.reduceAdd]
 refine rg_nil ?_
 refine ek_block ?_
 refine ek_next ?_
 refine wk_region [0, 0] rfl Kx ?_
 simp only [qy]
 refine rf_add rfl rfl rfl rfl (wrap_ok Ox Ox) ?_
 simp only [qz]
 refine rg_move ?_
 simp only [qz]
 refine rg_nil ?_
 refine ek_roundF (8 - (j + 1)) Ox Kx ?_
 exact ⟨j + 1, _, rfl, Rx, by rfl, by omega, (by rw [← hy.out]; rfl), rot_ok hok⟩
theorem amTurn_ok (z : Nm) (n : Int) (hz : z.Ok) (w : World) : Calls Try.prog 129 #[nmV z, .int .i64 n] w fun e w' => e = .returned (.tuple #[nmV (Nm.turn (n % 8).toNat z), .int .i64 0]) ∧ Below w.heap.size w w' := by
 go_enter Try.func129, Try.ntmps129
 refine wk_start ?_
 refine wk_seq ?_
 refine wk_region [1, 1, 1, 0] rfl Kx ?_
 simp only [qy]
 refine Rgn fun g1 => ?_
 simp only [qz]
 refine Rgn fun g2 => ?_
 simp only [qz]
 refine Rgn fun g3 => ?_
 simp only [qz]
 refine rg_assign ?_
 simp only [qz]
 refine rg_nil ?_
 refine ek_next ?_
 refine wk_seq ?_
 refine wk_region [0, 0, 1, 0, 0, 1, 0] rfl Kx ?_
 simp only [qy]
 refine rf_loadR (n := 5) rfl rfl rfl Try.underlying29 rfl Kx (fun w hw => Kn.hd0 (Kn.tl (Kn.tl hw))) rfl rfl ?_
 simp only [qz]
 apply rg_soft
 case hy => (intro w hw; go_simp; (try go_bits); exact Yld.mk _ _)
 simp only [qz]
 apply rg_pure Rx Kx
 case hargs => exact Ax
 case h => exact fun w hw => amchanged_ok z (Nm.turn (n % 8).toNat z) hz 152 #[.pointer (some ⟨g2, 0, none⟩)] Kx w (fun w' hb => turn1_ok z n hz g2 3 w' ((Kn.hd0 (Kn.tl hw)).call hb))
 case hz => exact Nz
 simp only [qz]
 refine rf_extract rfl rfl rfl rfl ?_
 simp only [qz]
 refine rf_extract rfl rfl rfl rfl ?_
 simp only [qz]
 refine rf_storeR (n := 5) rfl rfl Kx rfl rfl (UpdR.here _ _ _ Nl) Nz ?_
 simp only [qz, Nat.reduceAdd]
 refine rg_assign ?_
 simp only [qz]
 refine rg_nil ?_
 refine ek_next ?_
 refine wk_ret ?_
 refine ek_ret (fun w hw => ⟨rfl, _, run_results2 rfl rfl (Kn.hd0 hw) Try.underlying29 rfl Kx, ?_⟩)
 (try simp only [qz])
 first | exact ⟨rfl, hw.below⟩ | exact ⟨trivial, hw.below⟩ | exact hw.below
abbrev LR := Except Int (List Nm)
def gather (f : Nat → NR) : Nat → LR
  | 0 => .ok []
  | t + 1 => match gather f t with
    | .error c => .error c
    | .ok l => match f t with
      | .ok z => .ok (l ++ [z])
      | .error c => .error c
theorem gather_ok {f : Nat → NR} {t : Nat} {l : List Nm} {z : Nm} (h : gather f t = .ok l) (hz : f t = .ok z) : gather f (t + 1) = .ok (l ++ [z]) := by
 simp only [gather, h, hz]
theorem gather_err {f : Nat → NR} {t : Nat} {l : List Nm} {c : Int} (h : gather f t = .ok l) (hz : f t = .error c) : ∀ m, t < m → gather f m = .error c := by
 intro m hm
 induction m with
 | zero => omega
 | succ m ih =>
  rcases (by omega : t = m ∨ t < m) with rfl | hm
  ·simp only [gather, h, hz]
  ·simp only [gather, ih hm]
theorem gather_len {f : Nat → NR} : ∀ {t : Nat} {l : List Nm}, gather f t = .ok l → l.length = t
  | 0, l, h => by cases h; rfl
  | t + 1, l, h => by
    simp only [gather] at h
    split at h
    · cases h
    · next l0 h0 =>
      split at h
      · cases h
        simp [gather_len h0]
      · cases h
theorem gather_pure (f : Nat → Nm) : ∀ t, gather (fun i => .ok (f i)) t = .ok ((List.range t).map f)
  | 0 => rfl
  | t + 1 => by simp only [gather, gather_pure f t, List.range_succ, List.map_append, List.map_cons, List.map_nil]
def rN (N : Nat) (r : LR) : Int := match r with
  | .ok _ => N
  | .error _ => 0
def rL (r : LR) : List Nm := match r with
  | .ok l => l
  | .error _ => []
def rC (r : LR) : Int := match r with
  | .ok _ => 0
  | .error c => c
def madeR (N : Nat) (f : Nat → Nat → NR) : LR := gather (fun t => f (t / N) (t % N)) (N * N)
theorem ix_div {N i k : Nat} (hk : k < N) : (i * N + k) / N = i := by
 rw [Nat.mul_comm, Nat.mul_add_div (by omega), Nat.div_eq_of_lt hk, Nat.add_zero]
theorem ix_mod {N i k : Nat} (hk : k < N) : (i * N + k) % N = k := by
 rw [Nat.mul_comm, Nat.mul_add_mod, Nat.mod_eq_of_lt hk]
theorem ix_lt {N i k : Nat} (hi : i < N) (hk : k < N) : i * N + k < N * N := by
 have := Nat.mul_le_mul_right N (show i + 1 ≤ N by omega)
 rw [Nat.add_mul, Nat.one_mul] at this
 omega
def downs : Nat → List Nat
  | 0 => [0]
  | p + 1 => (p + 1) :: downs p
def pats : Nat → Nat → List (List Int)
  | 0, _ => []
  | 1, p => [[(p : Int)]]
  | m + 2, p => (downs p).flatMap fun f => (pats (m + 1) (p - f)).map ((f : Int) :: ·)
def patsT (m p : Nat) : Nat → List (List Int)
  | 0 => []
  | t + 1 => patsT m p t ++ (pats m t).map (((p - t : Nat) : Int) :: ·)
theorem pats_T (m p : Nat) : pats (m + 2) p = patsT (m + 1) p (p + 1) := by
 have key : ∀ q d, d + q = p → patsT (m + 1) p d ++ (downs q).flatMap (fun f => (pats (m + 1) (p - f)).map ((f : Int) :: ·)) = patsT (m + 1) p (p + 1) := by
  intro q
  induction q with
  | zero =>
   intro d hd
   obtain rfl : d = p := by omega
   simp only [downs, List.flatMap_cons, List.flatMap_nil, List.append_nil, patsT, Nat.sub_self]
   rfl
  | succ q ih =>
   intro d hd
   have e := ih (d + 1) (by omega)
   rw [← e]
   simp only [downs, List.flatMap_cons, patsT, List.append_assoc]
   rw [show p - (q + 1) = d by omega, show p - d = q + 1 by omega]
 exact key p 0 (by omega)
theorem patsT_len (m p : Nat) : ∀ t d, (patsT m p t).length ≤ (patsT m p (t + d)).length
  | t, 0 => Nat.le_refl _
  | t, d + 1 => by
    have := patsT_len m p t d
    show _ ≤ (patsT m p (t + d) ++ _).length
    rw [List.length_append]
    omega
theorem patsT_le {m p t : Nat} (h : t ≤ p) : (patsT (m + 1) p t).length + (pats (m + 1) t).length ≤ (pats (m + 2) p).length := by
 rw [pats_T]
 have h1 := patsT_len (m + 1) p (t + 1) (p - t)
 rw [show t + 1 + (p - t) = p + 1 by omega] at h1
 have h2 : (patsT (m + 1) p (t + 1)).length = (patsT (m + 1) p t).length + (pats (m + 1) t).length := by
  show (patsT (m + 1) p t ++ _).length = _
  rw [List.length_append, List.length_map]
 omega
theorem setMany_list : ∀ (vs l : List Value) (i : Nat), i + vs.length ≤ l.length → setMany l.toArray i vs = (l.take i ++ (vs ++ l.drop (i + vs.length))).toArray
  | [], l, i, _ => by
    show l.toArray = (l.take i ++ ([] ++ l.drop (i + 0))).toArray
    rw [List.nil_append, Nat.add_zero, List.take_append_drop]
  | v :: vs, l, i, h => by
    have hi : i < l.length := by simp at h; omega
    have e1 : l.toArray.setIfInBounds i v = (l.set i v).toArray := by simp
    rw [setMany, e1, setMany_list vs (l.set i v) (i + 1) (by simp at h ⊢; omega)]
    congr 1
    have e2 : (l.set i v).take (i + 1) = l.take i ++ [v] := by
      rw [List.take_add_one, List.take_set_of_le (Nat.le_refl i), List.getElem?_set_self hi]
      rfl
    have e3 : (l.set i v).drop (i + 1 + vs.length) = l.drop (i + (v :: vs).length) := by
      rw [List.drop_set_of_lt Ox]
      congr 1
      simp only [List.length_cons]; omega
    rw [e2, e3, List.append_assoc]
    rfl
section
variable {α : Type} {E : El α}
theorem El.row_get : ∀ (xs : List α) (rest : List Value) (k : Nat), k < xs.length → ((E.flat xs ++ rest).drop (k * E.sz)).take E.sz = E.ec (E.at xs k)
  | [], _, k, h => by simp at h
  | x :: t, rest, 0, _ => by
    rw [El.flat_cons, Nat.zero_mul, List.drop_zero, List.append_assoc, List.take_append_of_le_length (by rw [E.len]; exact Nat.le_refl _), List.take_of_length_le (by rw [E.len]; exact Nat.le_refl _)]
    rfl
  | x :: t, rest, k + 1, h => by
    have e : (k + 1) * E.sz = (E.ec x).length + k * E.sz := by rw [E.len, Nat.add_mul]; omega
    rw [El.flat_cons, List.append_assoc, e, List.drop_append, List.drop_eq_nil_of_le Ox, List.nil_append, Nat.add_sub_cancel_left, El.row_get t rest k (by simpa using h)]
    rfl
theorem fl_range {w : World} {g t k : Nat} {xs : List α} {rest : List Value} (h : Hd w g t (E.flat xs ++ rest).toArray) (hk : k < xs.length) : w.rangeAt g (0 + k * E.sz) (E.ec (E.at xs k)) := by
 have := cells_range h (0 + k * E.sz) E.sz
 rw [Nat.zero_add] at this ⊢
 have e : (((E.flat xs ++ rest).toArray.toList.drop (k * E.sz)).take E.sz) = E.ec (E.at xs k) := El.row_get xs rest k hk
 rwa [e] at this
theorem El.flat_set : ∀ (xs : List α) (k : Nat) (y : α) (rest : List Value), k < xs.length → (E.flat xs ++ rest).take (k * E.sz) ++ (E.ec y ++ (E.flat xs ++ rest).drop (k * E.sz + E.sz)) = E.flat (xs.set k y) ++ rest
  | [], k, _, _, h => by simp at h
  | x :: t, 0, y, rest, _ => by
    have hx := E.len x
    rw [List.set_cons_zero, El.flat_cons, El.flat_cons, Nat.zero_mul, List.take_zero, List.nil_append, Nat.zero_add, List.append_assoc, List.append_assoc, ← hx, List.drop_left]
  | x :: t, k + 1, y, rest, h => by
    have hx := E.len x
    have e : (k + 1) * E.sz = (E.ec x).length + k * E.sz := by rw [hx, Nat.add_mul]; omega
    rw [List.set_cons_succ, El.flat_cons, El.flat_cons, List.append_assoc, List.append_assoc, e, List.take_length_add_append, List.append_assoc, Nat.add_assoc, List.drop_length_add_append, El.flat_set t k y rest (by simpa using h)]
theorem fl_set {xs : List α} {k : Nat} {y : α} {rest : List Value} (hk : k < xs.length) : setMany (E.flat xs ++ rest).toArray (0 + k * E.sz) (E.ec y) = (E.flat (xs.set k y) ++ rest).toArray := by
 have hl := E.flat_len xs
 have hb := Nat.mul_le_mul_right E.sz (show k + 1 ≤ xs.length by omega)
 rw [Nat.add_mul, Nat.one_mul] at hb
 rw [Nat.zero_add, setMany_list _ _ _ (by rw [E.len, List.length_append]; omega), E.len, El.flat_set xs k y rest hk]
theorem fl_size {xs : List α} {k : Nat} {rest : List Value} {y : α} (hk : k < xs.length) : 0 + k * E.sz + (E.ec y).length ≤ ((E.flat xs ++ rest).toArray).size := by
 have hl := E.flat_len xs
 have hb := Nat.mul_le_mul_right E.sz (show k + 1 ≤ xs.length by omega)
 rw [Nat.add_mul, Nat.one_mul] at hb
 rw [E.len]
 simp only [List.size_toArray, List.length_append]
 omega
theorem El.at_set (xs : List α) (k j : Nat) (y : α) (hk : k < xs.length) : E.at (xs.set k y) j = if j = k then y else E.at xs j := by
 unfold El.at
 rw [List.getD_eq_getElem?_getD, List.getElem?_set, List.getD_eq_getElem?_getD]
 by_cases h : k = j
 ·subst h; rw [if_pos rfl, if_pos hk, if_pos rfl]; rfl
 ·rw [if_neg h, if_neg (fun e => h e.symm)]
theorem made_fl (x : α) (n : Nat) : madeCells (E.ec x).toArray (n * E.sz) = (E.flat (List.replicate n x)).toArray := by
 have hp := E.pos
 refine Array.ext (by rw [size_madeCells]; simp [El.flat_len]) fun i h1 h2 => ?_
 rw [size_madeCells] at h1
 have hq : i / E.sz < n := Nat.div_lt_of_lt_mul (by rw [Nat.mul_comm]; exact h1)
 have hr : i % E.sz < E.sz := Nat.mod_lt _ hp
 have hg := E.get (List.replicate n x) (i / E.sz) (i % E.sz) (by simpa using hq) hr
 have hi : i / E.sz * E.sz + i % E.sz = i := by rw [Nat.mul_comm]; exact Nat.div_add_mod i E.sz
 have ha : E.at (List.replicate n x) (i / E.sz) = x := by
  unfold El.at
  rw [List.getD_eq_getElem?_getD, List.getElem?_replicate, if_pos hq]
  rfl
 rw [hi, ha] at hg
 have hx : i % E.sz < (E.ec x).length := by rw [E.len]; exact hr
 have e1 : (E.flat (List.replicate n x))[i]? = some ((E.ec x)[i % E.sz]) := by rw [hg, List.getElem?_eq_getElem hx]
 have hl : i < (E.flat (List.replicate n x)).length := by simpa using h2
 have e2 : (E.flat (List.replicate n x))[i] = (E.ec x)[i % E.sz] := by
  rw [List.getElem?_eq_getElem hl] at e1
  exact Option.some.inj e1
 simp only [List.getElem_toArray]
 rw [e2]
 unfold madeCells
 simp only [Array.getElem_map, Array.getElem_range, List.size_toArray, E.len]
 rw [getElem!_pos _ _ (by simpa [E.len] using hr)]
 rfl
end
theorem numInfo : (Try.prog.info? 29).map (fun i => (i.zero, i.size, i.bytes)) = some (some (.agg #[.int .i64 0, .int .i64 0, .int .i64 0, .int .i64 0, .int .i64 0]), 5, 40) := by kernel_rfl
theorem info_partsN {α β γ : Type} {o : Option TypeInfo} {f : TypeInfo → α} {g : TypeInfo → β} {h : TypeInfo → γ} {x : α} {y : β} {z : γ} (e : o.map (fun i => (f i, g i, h i)) = some (x, y, z)) : ∃ i, o = some i ∧ f i = x ∧ g i = y ∧ h i = z := by
 cases o with
 | none => simp at e
 | some i => simp at e; exact ⟨i, rfl, e.1, e.2.1, e.2.2⟩
abbrev OwnN (u : List Blk) (v : Value) (xs : List Nm) : Prop := OwnG NmE 29 u v xs
def RetM (w : World) (n : Int) (zs : List Nm) (c : Int) (e : Ending) (w' : World) : Prop :=
  ∃ v u, e = .returned (.tuple #[.agg #[.int .i64 n, v], .int .i64 c]) ∧ OwnN u v zs ∧ Made w u w'
abbrev RetR (w : World) (N : Nat) (r : LR) (e : Ending) (w' : World) : Prop := RetM w (rN N r) (rL r) (rC r) e w'
def FnV (w : World) (fv : Value) (D : Array Value → Value → Prop) : Prop :=
  ∃ fn pre caps, fv = .func (.func fn) pre caps ∧ isGo Try.prog fn = true ∧ ∀ w', Below w.heap.size w w' → ∀ vs r, D vs r → Calls Try.prog fn (pre ++ vs ++ caps) w' fun e w'' => e = .returned r ∧ Below w'.heap.size w' w''
theorem below_trans {w w' w'' : World} (h : Below w.heap.size w w') (h' : Below w'.heap.size w' w'') : Below w.heap.size w w'' := h.trans (h'.mono h.size)
theorem FnV.below {w w' : World} {fv : Value} {D : Array Value → Value → Prop} (h : FnV w fv D) (hb : Below w.heap.size w w') : FnV w' fv D := by
 obtain ⟨fn, pre, caps, rfl, hgo, h⟩ := h
 exact ⟨fn, pre, caps, rfl, hgo, fun w1 h1 => h w1 (below_trans hb h1)⟩
abbrev D2 (N M : Nat) (f : Nat → Nat → Value) : Array Value → Value → Prop := fun vs r => ∃ i k, i < N ∧ k < M ∧ vs = #[.int .i64 (i : Int), .int .i64 (k : Int)] ∧ r = f i k
section
variable {R : Option Nat} {ops : Array Oper} {Q : Exit → Act → World → Prop} {B : World} {F : List Nat} {s0 : Option (List Blk × List Blk)}
variable {l : List (Oper × Nat)} {a : Act} {s S : List Blk} {d : Option Tmp} {op : Op} {t : TypeId} {p : String} {af : Array Edge} {v : Value}
theorem rg_callF {fo : Operand} {f : Nat} {cargs : Array Operand} {at_ : Array TypeId} {pre caps vs : Array Value} {P : Program} {gd : Option (Nat × Bool)} (hg : Region.wanted ⟨d, .call ⟨.value fo, cargs, at_⟩, t, p, af, gd⟩ (yielded ops a.tmps) = true)
    (hf : a.eval fo = .func (.func f) pre caps) (hgo : isGo P f = true) (hargs : cargs.map a.eval = vs)
    (h : ∀ w, Kn B F s w → Calls P f (pre ++ vs ++ caps) w (fun e w' => ∃ v s', e = .returned v ∧ Kn B F s' w' ∧ (∀ z ∈ s0, z.1.Sublist s') ∧ Rg R P ops Q B F s0 l (a.put d v) s')) :
    Rg R P ops Q B F s0 ((⟨d, .call ⟨.value fo, cargs, at_⟩, t, p, af, gd⟩, 1) :: l) a s := by
  refine .inl fun w K => ?_
  unfold hop
  rw [if_pos hg]
  unfold Oper.wp
  have hr : (execOp a.eval ⟨d, .call ⟨.value fo, cargs, at_⟩, t, p, af, gd⟩).run P w = .ok (.enter f (pre ++ vs ++ caps)) w := by
    have hx : execOp a.eval ⟨d, .call ⟨.value fo, cargs, at_⟩, t, p, af, gd⟩ = (do let d ← resolve a.eval ⟨.value fo, cargs, at_⟩ t; invoke d.target d.args) := rfl
    have hv : (resolve a.eval ⟨.value fo, cargs, at_⟩ t) = pure { target := .fn (.func f) caps, args := pre ++ vs } := by
      simp only [resolve, hf, hargs, Deferred.ofValue]
    rw [hx, hv]
    exact run_callFunc_go hgo _ w
  rw [hr]
  refine (h w K).mono fun e w' he => ?_
  obtain ⟨v, s', rfl, K', hz, h'⟩ := he
  exact ⟨s', K', hz, h'⟩
theorem rg_fnv {fo : Operand} {cargs : Array Operand} {at_ : Array TypeId} {vs : Array Value} {fv : Value} {D : Array Value → Value → Prop} {gd : Option (Nat × Bool)} (r : Value) (hg : Region.wanted ⟨d, .call ⟨.value fo, cargs, at_⟩, t, p, af, gd⟩ (yielded ops a.tmps) = true)
    (hF : FnV B fv D) (hf : a.eval fo = fv) (hargs : cargs.map a.eval = vs) (hD : D vs r)
    (hz : ∀ z ∈ s0, z.1.Sublist s) (k : Rg R Try.prog ops Q B [] s0 l (a.put d r) s) : Rg R Try.prog ops Q B [] s0 ((⟨d, .call ⟨.value fo, cargs, at_⟩, t, p, af, gd⟩, 1) :: l) a s := by
  obtain ⟨fn, pre, caps, rfl, hgo, h⟩ := hF
  exact rg_callF hg hf hgo hargs fun w K => (h w K.below vs r hD).mono fun e w' ⟨he, hb⟩ => ⟨r, s, he, K.call hb, hz, k⟩
theorem rg_appN {so xo : Operand} {u : List Blk} {xs : List Nm} {x : Nm} {g : Nat} {gd : Option (Nat × Bool)} (hg : Region.wanted ⟨d, .call ⟨.builtin .append, #[so, xo], #[22, 22]⟩, t, p, af, gd⟩ (yielded ops a.tmps) = true)
    (hs : a.eval so = v) (hown : OwnN u v xs) (hx : a.eval xo = .slice (some ⟨g, 0, none⟩) 1 1) (hn : xs.length ≤ 10000000) (hp : S.Perm (u ++ s))
    (hnews : ∀ w, Kn B F S w → Hd w g 29 (nmC x).toArray)
    (hzz : ∀ z ∈ s0, z.1.Sublist s) (h : ∀ u' a' c', OwnN u' (.slice a' (xs.length + 1) c') (xs ++ [x]) → Rg R Try.prog ops Q B F s0 l (a.put d (.slice a' (xs.length + 1) c')) (u' ++ s)) :
    Rg R Try.prog ops Q B F s0 ((⟨d, .call ⟨.builtin .append, #[so, xo], #[22, 22]⟩, t, p, af, gd⟩, 1) :: l) a S := by
  obtain ⟨i, hi, hz, hsz, hb⟩ := info_partsN numInfo
  refine rg_append1 (E := NmE) (u := u) (s := s) (i := i) hg Try.underlying22 hi hz hsz rfl Ox hs hown hx hn hp hnews hzz fun u' v' hO => ?_
  obtain ⟨a', c', rfl, -⟩ := Own.val hO
  have e : (xs ++ [x]).length = xs.length + 1 := by simp
  rw [e] at hO ⊢
  exact h u' a' c' hO
theorem rg_retM {f : Nat} {cargs : Array Operand} {at_ : Array TypeId} {args : Array Value} {n c : Int} {zs : List Nm} {P : Program} {gd : Option (Nat × Bool)} (hg : Region.wanted ⟨d, .call ⟨.value (.func f), cargs, at_⟩, t, p, af, gd⟩ (yielded ops a.tmps) = true) (hgo : isGo P f = true)
    (h : ∀ w, Kn B F s w → Calls P f args w (RetM w n zs c)) (hargs : cargs.map a.eval = args)
    (hz : ∀ z ∈ s0, z.1.Sublist s) (k : ∀ (va : Option Addr) (vc : Nat) (u : List Blk), OwnN u (.slice va zs.length vc) zs → Rg R P ops Q B F s0 l (a.put d (.tuple #[.agg #[.int .i64 n, .slice va zs.length vc], .int .i64 c])) (u ++ s)) :
    Rg R P ops Q B F s0 ((⟨d, .call ⟨.value (.func f), cargs, at_⟩, t, p, af, gd⟩, 1) :: l) a s :=
  rg_call hg hgo hargs fun w K => (h w K).mono fun e w' ⟨v, u, he, hO, hm⟩ => by
    obtain ⟨a', c', rfl, -⟩ := Own.val hO
    exact ⟨_, u ++ s, he, K.add hm, fun z hz' => (hz z hz').trans (List.sublist_append_right _ _), k a' c' u hO⟩
end
theorem FnV.lit {fn : Nat} {D : Array Value → Value → Prop} {w : World} (hgo : isGo Try.prog fn = true) (h : ∀ w' vs r, D vs r → Calls Try.prog fn vs w' fun e w'' => e = .returned r ∧ Below w'.heap.size w' w'') : FnV w (.func (.func fn) #[] #[]) D :=
  ⟨fn, #[], #[], rfl, hgo, fun w' _ vs r hD => by simpa using h w' vs r hD⟩
section
variable {P : Program} {ops : Array Oper} {Q : Exit → Act → World → Prop} {B : World} {F : List Nat} {z : List Blk} {fuel : Nat} {listed : Array Bool} {a : Act} {s : List Blk}
def RT (P : Program) (ops : Array Oper) (Q : Exit → Act → World → Prop) (B : World) (F : List Nat) (z : List Blk) (fuel : Nat) (listed : Array Bool) (a : Act) (s : List Blk) : Prop :=
  ∀ w, Kn B F s w → wpT P .any ops Q (Kn B F z) fuel listed a w
abbrev QT (P : Program) (ops : Array Oper) (Q : Exit → Act → World → Prop) (B : World) (F : List Nat) (z : List Blk) (fuel : Nat) (listed : Array Bool) : Exit → Act → World → Prop :=
  Exit.then (fun a' w' => Kn B F z w' ∧ wpT P .any ops Q (Kn B F z) fuel listed a' w') Q
theorem ek_rt (hz : z.Sublist s) (h : RT P ops Q B F z fuel listed a s) : Ek B F (QT P ops Q B F z fuel listed) .normal a s := fun w K => ⟨K.sub hz, h w K⟩
theorem rt_soft {i : Nat} {o : Oper} (ho : ops[i]? = some o) (hB : (Region.noSelect ops && (Region.free .any ops listed i && (Region.ready .any ops listed).contains i)) = true)
    (hQ : ∀ c d v a w, Q (.panic c) (Act.put a d v) w → Q (.panic c) a w) (hz : z.Sublist s)
    (h : Rg none P ops (QT P ops Q B F z fuel (listed.setIfInBounds i true)) B F (some (z, z)) [(o, 0)] a s) : RT P ops Q B F z (fuel + 1) listed a s := fun w K => by
  obtain ⟨v, hy, hk⟩ := h
  simp only [Bool.and_eq_true] at hB
  exact wpAnyH_take ho hB.1 hB.2.1 hB.2.2 (fun c a w => hQ c _ _ a w) hy (K.sub hz) (hk w K).2
theorem hop_panic {Q1 : Exit → Act → World → Prop} (hq : ∀ c a w, Q1 (.panic c) a w → Q (.panic c) a w) (hq' : LetsOut Q1 → LetsOut Q) {K : Act → World → Prop} {o : Oper} {w : World} (h : hop P ops Q1 K o a w) : hop P ops Q K o a w := by
 unfold hop at *
 split
 ·rename_i hw
  rw [if_pos hw] at h
  unfold Oper.wp at *
  generalize (execOp a.eval o).run P w = r at *
  cases r with
  | ok n w' =>
   cases n <;> simp only [Oper.upon] at h ⊢ <;>
    first
     | exact h
     | exact Calls.mono h (fun e w'' he => by cases e <;> first | exact he | exact hq _ _ _ he | exact hq' he)
  | halt x w' => cases x <;> simp only [Oper.upon] at h ⊢ <;> first | exact h | exact hq _ _ _ h | exact hq' h
 ·rename_i hw
  rw [if_neg hw] at h
  exact h
theorem ek_perm {e : Exit} {s' : List Blk} (hs : s.Perm s') (h : Ek B F Q e a s') : Ek B F Q e a s := fun w K => h w (K.perm hs)
theorem perm_at {b : Blk} {l r t : List Blk} (h : (l ++ r).Perm t) : (l ++ b :: r).Perm (b :: t) := List.perm_middle.trans (h.cons b)
theorem perm_atU {u l r t : List Blk} (h : (l ++ r).Perm t) : (l ++ (u ++ r)).Perm (u ++ t) :=
  (List.perm_append_comm_assoc l u r).trans (h.append_left u)
theorem wk_rt {id : Nat} {l : List Oper} (z : List Blk) (hm : P.follows .mixedOrders = true) (hz : z.Sublist s) (h : RT P l.toArray Q B F z l.length (Array.replicate l.length false) a s) :
    Wk none P B F Q a s (Code.region id l.toArray true) := fun w K => wpIn_wide.2 (wp_region_tr (Kn B F z) hm (by simpa using h w.drew K.drew))
end
def expo (xs : List Nm) : Int := xs.foldl (fun k z => if k < z.k then z.k else k) 0
theorem expo_succ {xs : List Nm} {i : Nat} (h : i < xs.length) : expo (xs.take (i + 1)) = if expo (xs.take i) < (nm xs i).k then (nm xs i).k else expo (xs.take i) := by
 have e : xs.take (i + 1) = xs.take i ++ [nm xs i] := by
  rw [List.take_succ, List.getElem?_eq_getElem h]
  unfold nm El.at
  rw [List.getD_eq_getElem?_getD, List.getElem?_eq_getElem h]
  rfl
 unfold expo
 rw [e, List.foldl_append]
 rfl
theorem expo_all {xs : List Nm} {i : Nat} (h : xs.length ≤ i) : expo (xs.take i) = expo xs := by rw [List.take_of_length_le h]
theorem exponent_any (xs : List Nm) (a : Option Addr) (c : Nat) (hl : xs.length ≤ 1000000) (w : World) (hA : AS w a (nms xs)) : Calls Try.prog 80 #[.slice a xs.length c] w fun e w' => e = .returned (.int .i64 (expo xs)) ∧ Below w.heap.size w w' := by
 go_enter Try.func80, Try.ntmps80
 refine wk_start ?_
 refine wk_seq ?_
 refine wk_region [0] rfl Kx ?_
 simp only [qy]
 refine rg_assign ?_
 simp only [qz]
 refine rg_nil (ek_next (wk_seq ?_))
 refine wk_region [0] rfl Kx ?_
 simp only [qy]
 refine rg_assign ?_
 simp only [qz]
 refine rg_nil (ek_next (wk_seq (wk_seq ?_)))
 refine wk_region [0, 0, 0] rfl Kx ?_
 simp only [qy]
 refine rg_move ?_
 simp only [qz]
 refine rf_len rfl rfl rfl Try.underlying22 ?_
 simp only [qz]
 refine rg_move ?_
 simp only [qz]
 refine rg_nil (ek_next (wk_block ?_))
 refine wk_loopF [3, 5, 8, 9, 10, 11, 12, 13, 14, 15, 16] (fun mz f s => ∃ (i : Nat) (k : Int), f 3 = .int .i64 k ∧ f 8 = .int .i64 i ∧ s = [] ∧ mz = xs.length - i ∧ i ≤ xs.length ∧ Hid (expo (xs.take i) = k)) ((fun (i : Nat) (k : Int) => xs.length - i) (0) (0)) ?_ Kx ?_
 ·exact ⟨0, 0, rfl, rfl, rfl, rfl, by omega, Lib.hid rfl⟩
 rintro mz f1 s ⟨i, k, hs1_3, hs1_8, rfl, hn, hd1, hd2⟩
 simp only [Act.putF, List.foldl_cons, List.foldl_nil, hs1_3, hs1_8, Act.put, Act.eval, q1, q2, q3, q4, q5, q6, q7, q8, q9, q10, q11, q12, q13, q14, q15, q16, q17, q18, Nat.reduceAdd, Bool.not_true, Bool.not_false]
 clear hs1_3 hs1_8
 have hk := hd2
 clear hd2
 refine wk_seq ?_
 refine wk_region [0] rfl Kx ?_
 simp only [qy]
 refine rfb_lss rfl rfl rfl rfl ?_
 intro x h1
 cases x
 ·(try simp only [qd, ne_eq] at h1)
  simp only [qz]
  refine rg_nil (ek_next (wk_seq (wk_cond_f rfl (wk_exit (ek_then_exit (ek_then_exit (ek_block_exit (ek_next (wk_seq ?_)))))))))
  refine wk_region [0, 0] rfl Kx ?_
  simp only [qy]
  refine rg_move ?_
  simp only [qz]
  refine rg_assign ?_
  simp only [qz]
  refine rg_nil (ek_next (wk_ret ?_))
  refine ek_ret (fun w hw => ⟨rfl, _, res_t _ rfl, ?_⟩)
  (try simp only [qz])
  exact ⟨by rw [← hk.out, expo_all Ox], hw.below⟩
 (try simp only [qd, ne_eq] at h1)
 simp only [qz]
 obtain ⟨b, off, rfl, hlt, hcell⟩ := AS.openN hA Ox
 refine rg_nil (ek_next (wk_seq (wk_cond_t rfl (wk_skip (ek_next (wk_seq (wk_block (wk_seq ?_))))))))
 refine wk_region [0, 0, 1, 1] rfl Kx ?_
 simp only [qy]
 refine rf_indexS (n := i) (sz := 5) (j := off + i * 5) rfl rfl rfl rfl Try.underlying22 Kx Ox Ox rfl ?_
 simp only [qz]
 refine rf_loadC (n := 5) (vs := [.int .i64 (nm xs i).a, .int .i64 (nm xs i).b, .int .i64 (nm xs i).c, .int .i64 (nm xs i).d, .int .i64 (nm xs i).k]) rfl rfl rfl Try.underlying29 rfl Kx rfl (fun w hw => atN_range ((hcell i Ox).kn hw hlt (by simp))) ?_
 simp only [qz]
 refine Rgn fun g1 => ?_
 simp only [qz]
 refine rf_storeR (n := 5) rfl rfl Kx rfl rfl (UpdR.here _ _ _ Nl) Nz ?_
 simp only [qz, Nat.reduceAdd]
 refine rg_nil (ek_next ?_)
 refine wk_region [0, 0, 0, 0, 0] rfl Kx ?_
 simp only [qy]
 refine rg_move ?_
 simp only [qz]
 refine rf_field (n := 0) (j := 4) rfl rfl rfl Try.underlying29 rfl Kx rfl ?_
 simp only [qz]
 refine rf_load rfl rfl rfl Try.underlying3 rfl (fun w hw => (Kn.hd0 hw).at rfl) ?_
 simp only [qz]
 apply rg_soft
 case hy => (intro w hw; go_simp; (try go_bits); exact Yld.mk _ _)
 simp only [qz]
 refine rg_assign ?_
 simp only [qz]
 refine rg_nil (ek_block (ek_next ?_))
 refine wk_region [0, 0] rfl Kx ?_
 simp only [qy]
 refine rf_add rfl rfl rfl rfl (wrap_ok Ox Ox) ?_
 simp only [qz]
 refine rg_move ?_
 simp only [qz]
 refine rg_nil ?_
 refine ek_sub (sk _ sn) ?_
 refine ek_roundF (xs.length - (i + 1)) Ox Kx ?_
 exact ⟨i + 1, if k < (nm xs i).k then (nm xs i).k else k, rfl, rfl, by rfl, by rfl, by omega, (Lib.hid (by rw [expo_succ Ox, hk.out]))⟩
theorem scaled_any (z : Nm) (k : Int) (hz : z.Fit 1000000000) (h0 : 0 ≤ z.k) (h1 : z.k ≤ k) (h2 : k ≤ 40) (w : World) : Calls Try.prog 82 #[nmV z, .int .i64 k] w fun e w' => e = .returned (.agg #[.int .i64 (z.to k).a, .int .i64 (z.to k).b, .int .i64 (z.to k).c, .int .i64 (z.to k).d]) ∧ Below w.heap.size w w' := by
 go_enter Try.func82, Try.ntmps82
 refine wk_start ?_
 refine wk_seq ?_
 refine wk_region [1, 1] rfl Kx ?_
 simp only [qy]
 refine Rgn fun g1 => ?_
 simp only [qz]
 refine Rgn fun g2 => ?_
 simp only [qz]
 refine rg_nil (ek_next (wk_seq ?_))
 refine wk_region [0, 0, 1, 1] rfl Kx ?_
 simp only [qy]
 refine rf_field (n := 3) (j := 0) rfl rfl rfl Try.underlying29 rfl Kx rfl ?_
 simp only [qz]
 refine rf_loadR (n := 4) rfl rfl rfl Try.underlying27 rfl Kx (fun w hw => Kn.hd0 (Kn.tl hw)) rfl rfl ?_
 simp only [qz]
 refine Rgn fun g3 => ?_
 simp only [qz]
 refine rf_storeR (n := 4) rfl rfl Kx rfl rfl (UpdR.here _ _ _ Nl) Nz ?_
 simp only [qz, Nat.reduceAdd]
 refine rg_nil (ek_next (wk_seq (wk_seq ?_)))
 refine wk_region [0, 0, 0, 0, 0] rfl Kx ?_
 simp only [qy]
 refine rg_move ?_
 simp only [qz]
 refine rf_field (n := 0) (j := 4) rfl rfl rfl Try.underlying29 rfl Kx rfl ?_
 simp only [qz]
 refine rf_load rfl rfl rfl Try.underlying3 rfl (fun w hw => (Kn.hd0 (Kn.tl (Kn.tl hw))).at rfl) ?_
 simp only [qz]
 refine rf_sub rfl rfl rfl rfl (wrap_ok Ox Ox) ?_
 simp only [qz]
 refine rg_move ?_
 simp only [qz]
 refine rg_nil (ek_next (wk_block ?_))
 refine wk_loopF [12, 13, 14, 15, 16, 17, 18, 19, 20, 21, 22, 23, 24, 25, 26, 27, 28, 29, 30, 31, 32, 33, 34, 35] (fun mz f s => ∃ (j : Nat) (y : Nm), f 12 = .int .i64 j ∧ s = ((g3, .cells #[.int .i64 y.a, .int .i64 y.b, .int .i64 y.c, .int .i64 y.d] 27) :: ((g2, .cells #[.int .i64 0, .int .i64 0, .int .i64 0, .int .i64 0] 27) :: ((g1, .cells #[.int .i64 z.a, .int .i64 z.b, .int .i64 z.c, .int .i64 z.d, .int .i64 z.k] 29) :: []))) ∧ mz = (k - z.k).toNat - j ∧ (j : Int) ≤ k - z.k ∧ Hid (Nm.up j z = y)) ((fun (j : Nat) (y : Nm) => (k - z.k).toNat - j) (0) (z)) ?_ Kx ?_
 ·exact ⟨0, z, rfl, rfl, rfl, Ox, Lib.hid rfl⟩
 rintro mz f1 s ⟨j, y, hs1_12, rfl, hn, hd1, hd2⟩
 simp only [Act.putF, List.foldl_cons, List.foldl_nil, hs1_12, Act.put, Act.eval, q1, q2, q3, q4, q5, q6, q7, q8, q9, q10, q11, q12, q13, q14, q15, q16, q17, q18, Nat.reduceAdd, Bool.not_true, Bool.not_false]
 clear hs1_12
 have hy := hd2
 clear hd2
 have hfy := Nm.up40_fit (n := j) hz Ox
 rw [hy.out] at hfy
 obtain ⟨fa0, fa1, fb0, fb1, fc0, fc1, fd0, fd1⟩ := hfy
 refine wk_seq ?_
 refine wk_region [0] rfl Kx ?_
 simp only [qy]
 refine rfb_lss rfl rfl rfl rfl ?_
 intro x h1
 cases x
 ·(try simp only [qd, ne_eq] at h1)
  simp only [qz]
  refine rg_nil (ek_next (wk_seq (wk_cond_f rfl (wk_exit (ek_then_exit (ek_then_exit (ek_block_exit (ek_next (wk_seq ?_)))))))))
  refine wk_region [0, 1] rfl Kx ?_
  simp only [qy]
  refine rf_loadR (n := 4) rfl rfl rfl Try.underlying27 rfl Kx (fun w hw => Kn.hd0 hw) rfl rfl ?_
  simp only [qz]
  refine rf_storeR (n := 4) rfl rfl Kx rfl rfl (UpdR.there _ (UpdR.here _ _ _ Nl)) Nz ?_
  simp only [qz, Nat.reduceAdd]
  refine rg_nil (ek_next (wk_ret ?_))
  refine ek_ret (fun w hw => ⟨rfl, _, run_results1 rfl rfl (Kn.hd0 (Kn.tl hw)) Try.underlying27 rfl Kx, ?_⟩)
  (try simp only [qz])
  have e : z.to k = y := by unfold Nm.to; rw [show (k - z.k).toNat = j by omega, hy.out]
  exact ⟨by rw [e], hw.below⟩
 (try simp only [qd, ne_eq] at h1)
 simp only [qz]
 refine rg_nil (ek_next (wk_seq (wk_cond_t rfl (wk_skip (ek_next (wk_seq (wk_block ?_)))))))
 refine wk_region [0, 0, 0, 0, 0, 0, 0, 0, 0, 0, 0, 0, 0, 0, 0, 0, 0, 0, 0, 0, 0, 1] rfl Kx ?_
 simp only [qy]
 refine rf_indexA (n := 1) (sz := 1) (j := 1) rfl rfl rfl rfl Try.underlying27 Kx (by decide) rfl ?_
 simp only [qz]
 refine rf_load rfl rfl rfl Try.underlying3 rfl (fun w hw => (Kn.hd0 hw).at rfl) ?_
 simp only [qz]
 refine rf_indexA (n := 3) (sz := 1) (j := 3) rfl rfl rfl rfl Try.underlying27 Kx (by decide) rfl ?_
 simp only [qz]
 refine rf_load rfl rfl rfl Try.underlying3 rfl (fun w hw => (Kn.hd0 hw).at rfl) ?_
 simp only [qz]
 refine rf_sub rfl rfl rfl rfl (wrap_ok Ox Ox) ?_
 simp only [qz]
 refine rf_indexA (n := 0) (sz := 1) (j := 0) rfl rfl rfl rfl Try.underlying27 Kx (by decide) rfl ?_
 simp only [qz]
 refine rf_load rfl rfl rfl Try.underlying3 rfl (fun w hw => (Kn.hd0 hw).at rfl) ?_
 simp only [qz]
 refine rf_indexA (n := 2) (sz := 1) (j := 2) rfl rfl rfl rfl Try.underlying27 Kx (by decide) rfl ?_
 simp only [qz]
 refine rf_load rfl rfl rfl Try.underlying3 rfl (fun w hw => (Kn.hd0 hw).at rfl) ?_
 simp only [qz]
 refine rf_add rfl rfl rfl rfl (wrap_ok Ox Ox) ?_
 simp only [qz]
 refine rf_indexA (n := 1) (sz := 1) (j := 1) rfl rfl rfl rfl Try.underlying27 Kx (by decide) rfl ?_
 simp only [qz]
 refine rf_load rfl rfl rfl Try.underlying3 rfl (fun w hw => (Kn.hd0 hw).at rfl) ?_
 simp only [qz]
 refine rf_indexA (n := 3) (sz := 1) (j := 3) rfl rfl rfl rfl Try.underlying27 Kx (by decide) rfl ?_
 simp only [qz]
 refine rf_load rfl rfl rfl Try.underlying3 rfl (fun w hw => (Kn.hd0 hw).at rfl) ?_
 simp only [qz]
 refine rf_add rfl rfl rfl rfl (wrap_ok Ox Ox) ?_
 simp only [qz]
 refine rf_indexA (n := 2) (sz := 1) (j := 2) rfl rfl rfl rfl Try.underlying27 Kx (by decide) rfl ?_
 simp only [qz]
 refine rf_load rfl rfl rfl Try.underlying3 rfl (fun w hw => (Kn.hd0 hw).at rfl) ?_
 simp only [qz]
 refine rf_indexA (n := 0) (sz := 1) (j := 0) rfl rfl rfl rfl Try.underlying27 Kx (by decide) rfl ?_
 simp only [qz]
 refine rf_load rfl rfl rfl Try.underlying3 rfl (fun w hw => (Kn.hd0 hw).at rfl) ?_
 simp only [qz]
 refine rf_sub rfl rfl rfl rfl (wrap_ok Ox Ox) ?_
 simp only [qz]
 refine rf_build (cs := fun a => #[a.eval (.tmp 18), a.eval (.tmp 23), a.eval (.tmp 28), a.eval (.tmp 33)]) rfl rfl Kx ?_
 simp only [qz]
 refine rf_storeR (n := 4) rfl rfl Kx rfl rfl (UpdR.here _ _ _ Nl) Nz ?_
 simp only [qz, Nat.reduceAdd]
 refine rg_nil (ek_block (ek_next ?_))
 refine wk_region [0, 0] rfl Kx ?_
 simp only [qy]
 refine rf_add rfl rfl rfl rfl (wrap_ok Ox Ox) ?_
 simp only [qz]
 refine rg_move ?_
 simp only [qz]
 refine rg_nil ?_
 refine ek_roundF ((k - z.k).toNat - (j + 1)) Ox Kx ?_
 exact ⟨j + 1, y.tr, rfl, Rx, by rfl, Ox, (Lib.hid (by rw [Nm.up_succ1, hy.out]))⟩
theorem ix_small {i N : Nat} (hi : i < N) (hN : N ≤ 6) : i * N + N ≤ N * N ∧ N * N ≤ 36 := by
 have h1 := Nat.mul_le_mul_right N (show i + 1 ≤ N by omega)
 have h2 := Nat.mul_le_mul hN hN
 rw [Nat.add_mul, Nat.one_mul] at h1
 omega
theorem at_any (N i k : Nat) (xs : List Nm) (a : Option Addr) (c : Nat) (hl : xs.length = N * N) (hN : N ≤ 6) (hi : i < N) (hk : k < N) (w : World) (hA : AS w a (nms xs)) : Calls Try.prog 64 #[.agg #[.int .i64 N, .slice a xs.length c], .int .i64 i, .int .i64 k] w fun e w' => e = .returned (nmV (nm xs (i * N + k))) ∧ Below w.heap.size w w' := by
 have hm := ix_small hi hN
 have hc0 : ((i * N : Nat) : Int) = (i : Int) * N := Int.natCast_mul i N
 obtain ⟨b, off, rfl, hlt, hcell⟩ := AS.openN hA Ox
 go_enter Try.func64, Try.ntmps64
 refine wk_start ?_
 refine wk_seq ?_
 refine wk_region [1, 1] rfl Kx ?_
 simp only [qy]
 refine Rgn fun g1 => ?_
 simp only [qz]
 refine Rgn fun g2 => ?_
 simp only [qz]
 refine rg_nil (ek_next (wk_seq ?_))
 refine wk_region [0, 0, 0, 0, 0, 0, 0, 0, 0, 0, 0, 0, 1] rfl Kx ?_
 simp only [qy]
 refine rf_field (n := 1) (j := 0) rfl rfl rfl Try.underlying83 rfl Kx rfl ?_
 simp only [qz]
 refine rf_field (n := 0) (j := 1) rfl rfl rfl Try.underlying24 rfl Kx rfl ?_
 simp only [qz]
 refine rf_load rfl rfl rfl Try.underlying22 rfl (fun w hw => (Kn.hd0 (Kn.tl hw)).at rfl) ?_
 simp only [qz]
 refine rg_move ?_
 simp only [qz]
 refine rf_field (n := 1) (j := 0) rfl rfl rfl Try.underlying83 rfl Kx rfl ?_
 simp only [qz]
 refine rf_field (n := 0) (j := 0) rfl rfl rfl Try.underlying24 rfl Kx rfl ?_
 simp only [qz]
 refine rf_load rfl rfl rfl Try.underlying3 rfl (fun w hw => (Kn.hd0 (Kn.tl hw)).at rfl) ?_
 simp only [qz]
 refine rf_mul rfl rfl rfl rfl (wrap_ok Ox Ox) ?_
 simp only [qz]
 refine rg_move ?_
 simp only [qz]
 refine rf_add rfl rfl rfl rfl (wrap_ok Ox Ox) ?_
 simp only [qz]
 refine rf_indexS (n := i * N + k) (sz := 5) (j := off + (i * N + k) * 5) rfl rfl rfl rfl Try.underlying22 Kx (by rw [Int.natCast_add, Int.natCast_mul]) Ox rfl ?_
 simp only [qz]
 refine rf_loadC (n := 5) (vs := nmC (nm xs (i * N + k))) rfl rfl rfl Try.underlying29 rfl Kx rfl (fun w hw => atN_range ((hcell _ Ox).kn hw hlt (by simp))) ?_
 simp only [qz]
 refine rf_storeR (n := 5) rfl rfl Kx rfl rfl (UpdR.here _ _ _ Nl) Nz ?_
 simp only [qz, Nat.reduceAdd]
 refine rg_nil (ek_next (wk_ret ?_))
 refine ek_ret (fun w hw => ⟨rfl, _, run_results1 rfl rfl (Kn.hd0 hw) Try.underlying29 rfl Kx, ?_⟩)
 (try simp only [qz])
 first | exact ⟨rfl, hw.below⟩ | exact ⟨trivial, hw.below⟩ | exact hw.below
theorem made_any (N : Nat) (hN : N ≤ 6) (fe : Nat → Nat → NR) (fv : Value) (hE : ∀ i k c, i < N → k < N → fe i k = .error c → c ≠ 0) (w : World) (hF : FnV w fv (D2 N N fun i k => numV (fe i k))) : Calls Try.prog 70 #[.int .i64 N, fv] w fun e w' => RetR w N (madeR N fe) e w' := by
 go_enter Try.func70, Try.ntmps70
 refine wk_start ?_
 refine wk_seq ?_
 refine wk_region [1, 0] rfl Kx ?_
 simp only [qy]
 refine Rgn fun g1 => ?_
 simp only [qz]
 refine rg_assign ?_
 simp only [qz]
 refine rg_nil (ek_next (wk_seq ?_))
 refine wk_region [0, 0, 1, 1] rfl Kx ?_
 simp only [qy]
 refine rg_move ?_
 simp only [qz]
 refine rf_build (cs := fun a => #[a.eval (.tmp 11), .slice none 0 0]) rfl rfl Kx ?_
 simp only [qz]
 refine Rgn fun g2 => ?_
 simp only [qz]
 refine rf_storeR (n := 2) rfl rfl Kx rfl rfl (UpdR.here _ _ _ Nl) Nz ?_
 simp only [qz, Nat.reduceAdd]
 refine rg_nil (ek_next (wk_seq (wk_seq ?_)))
 refine wk_region [0, 0] rfl Kx ?_
 simp only [qy]
 refine rg_move ?_
 simp only [qz]
 refine rg_move ?_
 simp only [qz]
 refine rg_nil (ek_next (wk_block ?_))
 refine wk_loopF [5, 7, 8, 9, 10, 14, 15, 16, 17, 18, 19, 20, 21, 22, 23, 24, 25, 26, 27, 28, 29, 30, 31, 32, 33, 34, 35, 36, 37, 38, 39] (fun mz f s => ∃ (i : Nat) (l : List Nm) (u : List Blk) (av : Option Addr) (cv : Nat), f 14 = .int .i64 i ∧ s = (u ++ ((g2, .cells #[.int .i64 N, .slice av l.length cv] 24) :: ((g1, .cells #[.int .i64 0, .slice none 0 0] 24) :: []))) ∧ mz = N - i ∧ i ≤ N ∧ Hid (gather (fun t => fe (t / N) (t % N)) (i * N) = .ok l) ∧ OwnN u (.slice av l.length cv) l) ((fun (i : Nat) (l : List Nm) (u : List Blk) (av : Option Addr) (cv : Nat) => N - i) (0) ([]) ([]) (none) (0)) ?_ Kx ?_
 ·exact ⟨0, [], [], none, 0, rfl, rfl, rfl, by omega, (Lib.hid (by (try rw [Nat.zero_mul]); (try rfl))), OwnG.nil⟩
 rintro mz f1 s ⟨i, l, u, av, cv, hs1_14, rfl, hn, hd1, hd2, hd3⟩
 simp only [Act.putF, List.foldl_cons, List.foldl_nil, hs1_14, Act.put, Act.eval, q1, q2, q3, q4, q5, q6, q7, q8, q9, q10, q11, q12, q13, q14, q15, q16, q17, q18, Nat.reduceAdd, Bool.not_true, Bool.not_false]
 clear hs1_14
 refine wk_seq ?_
 refine wk_region [0] rfl Kx ?_
 simp only [qy]
 refine rfb_lss rfl rfl rfl rfl ?_
 intro x h1
 cases x
 ·(try simp only [qd, ne_eq] at h1)
  simp only [qz]
  refine rg_nil (ek_next (wk_seq (wk_cond_f rfl (wk_exit (ek_then_exit (ek_then_exit (ek_block_exit (ek_next (wk_seq ?_)))))))))
  refine wk_region [0, 1, 0] rfl Kx ?_
  simp only [qy]
  refine rf_loadR (n := 2) rfl rfl rfl Try.underlying24 rfl Kx (fun w hw => Kn.hd0 (Kn.tlU hw)) rfl rfl ?_
  simp only [qz]
  refine rf_storeR (n := 2) rfl rfl Kx rfl rfl (UpdR.app _ (UpdR.there _ (UpdR.here _ _ _ Nl))) Nz ?_
  simp only [qz, Nat.reduceAdd]
  refine rg_assign ?_
  simp only [qz]
  refine rg_nil (ek_next (wk_ret ?_))
  refine ek_ret (fun w hw => ⟨rfl, _, run_results2 rfl rfl (Kn.hd0 (Kn.tl (Kn.tlU hw))) Try.underlying24 rfl Kx, ?_⟩)
  (try simp only [qz])
  obtain rfl : N = i := by omega
  have hg := hd2.out
  exact ⟨.slice av l.length cv, u, by unfold madeR; rw [hg]; rfl, (by unfold madeR; rw [hg]; exact hd3), hw.made (List.sublist_append_left _ _)⟩
 (try simp only [qd, ne_eq] at h1)
 simp only [qz]
 refine rg_nil (ek_next (wk_seq (wk_cond_t rfl (wk_skip (ek_next (wk_seq (wk_block (wk_seq ?_))))))))
 refine wk_region [0, 0] rfl Kx ?_
 simp only [qy]
 refine rg_move ?_
 simp only [qz]
 refine rg_assign ?_
 simp only [qz]
 refine rg_nil (ek_next (wk_seq ?_))
 refine wk_region [0, 0] rfl Kx ?_
 simp only [qy]
 refine rg_move ?_
 simp only [qz]
 refine rg_move ?_
 simp only [qz]
 refine rg_nil (ek_next (wk_block ?_))
 refine wk_loopF [5, 8, 9, 10, 18, 19, 20, 21, 22, 23, 24, 25, 26, 27, 28, 29, 30, 31, 32, 33, 34, 35, 36, 37, 38] (fun mz f s => ∃ (k : Nat) (l : List Nm) (u : List Blk) (av : Option Addr) (cv : Nat), f 18 = .int .i64 k ∧ s = (u ++ ((g2, .cells #[.int .i64 N, .slice av l.length cv] 24) :: ((g1, .cells #[.int .i64 0, .slice none 0 0] 24) :: []))) ∧ mz = N - k ∧ k ≤ N ∧ Hid (gather (fun t => fe (t / N) (t % N)) (i * N + k) = .ok l) ∧ OwnN u (.slice av l.length cv) l) ((fun (k : Nat) (l : List Nm) (u : List Blk) (av : Option Addr) (cv : Nat) => N - k) (0) (l) (u) (av) (cv)) ?_ Kx ?_
 ·exact ⟨0, l, u, av, cv, rfl, rfl, rfl, by omega, hd2, hd3⟩
 rintro mz f2 s ⟨k, l, u, av, cv, hs2_18, rfl, hn, he1, he2, he3⟩
 simp only [Act.putF, List.foldl_cons, List.foldl_nil, hs2_18, Act.put, Act.eval, q1, q2, q3, q4, q5, q6, q7, q8, q9, q10, q11, q12, q13, q14, q15, q16, q17, q18, Nat.reduceAdd, Bool.not_true, Bool.not_false]
 clear hs2_18
 have hll : l.length ≤ 36 := by (have h1 := gather_len he2.out; have h2 := ix_small (i := i) (N := N) Ox hN; omega)
 refine wk_seq ?_
 refine wk_region [0] rfl Kx ?_
 simp only [qy]
 refine rfb_lss rfl rfl rfl rfl ?_
 intro x h2
 cases x
 ·(try simp only [qd, ne_eq] at h2)
  simp only [qz]
  refine rg_nil (ek_next (wk_seq (wk_cond_f rfl (wk_exit (ek_then_exit (ek_then_exit (ek_block_exit (ek_block (ek_next ?_)))))))))
  refine wk_region [0, 0] rfl Kx ?_
  simp only [qy]
  refine rf_add rfl rfl rfl rfl (wrap_ok Ox Ox) ?_
  simp only [qz]
  refine rg_move ?_
  simp only [qz]
  refine rg_nil ?_
  obtain rfl : N = k := by omega
  refine ek_roundF (N - (i + 1)) Ox Kx ?_
  exact ⟨i + 1, l, u, av, cv, rfl, by rfl, by rfl, Ox, (Lib.hid (by rw [← he2.out, Nat.add_mul, Nat.one_mul])), he3⟩
 (try simp only [qd, ne_eq] at h2)
 simp only [qz]
 refine rg_nil (ek_next (wk_seq (wk_cond_t rfl (wk_skip (ek_next (wk_seq (wk_block (wk_seq ?_))))))))
 refine wk_region [0, 0] rfl Kx ?_
 simp only [qy]
 refine rg_move ?_
 simp only [qz]
 refine rg_assign ?_
 simp only [qz]
 refine rg_nil (ek_next (wk_seq ?_))
 refine wk_region [0, 0, 0, 1, 0, 0, 0, 1, 1, 0] rfl Kx ?_
 simp only [qy]
 refine rg_move ?_
 simp only [qz]
 refine rg_move ?_
 simp only [qz]
 refine rg_move ?_
 simp only [qz]
 refine rg_fnv (numV (fe i k)) Rx hF rfl (by simp only [qm, qs, Act.eval] <;> rfl) ⟨i, k, by omega, by omega, rfl, rfl⟩ Nz ?_
 rcases hr : fe i k with c | z
 ·have hc0 := hE i k c Ox Ox hr
  (try simp only [numV])
  simp only [qz]
  refine rg_move ?_
  simp only [qz]
  refine rf_extract rfl rfl rfl rfl ?_
  simp only [qz]
  refine rf_extract rfl rfl rfl rfl ?_
  simp only [qz]
  refine Rgn fun g3 => ?_
  simp only [qz]
  refine rf_storeR (n := 5) rfl rfl Kx rfl rfl (UpdR.here _ _ _ Nl) Nz ?_
  simp only [qz, Nat.reduceAdd]
  refine rg_assign ?_
  simp only [qz]
  refine rg_nil (ek_next (wk_seq (wk_seq ?_)))
  refine wk_region [0, 0] rfl Kx ?_
  simp only [qy]
  refine rg_move ?_
  simp only [qz]
  refine rfb_neq rfl rfl rfl rfl ?_
  intro x h3
  obtain rfl : x = true := by (refine h3.symm.trans ?_; exact decide_eq_true Ox)
  clear h3
  simp only [qz]
  refine rg_nil (ek_next (wk_cond_t rfl (wk_seq ?_)))
  refine wk_region [0, 0, 1, 0] rfl Kx ?_
  simp only [qy]
  refine rf_build (cs := fun a => #[.int .i64 0, .slice none 0 0]) rfl rfl Kx ?_
  simp only [qz]
  refine rg_move ?_
  simp only [qz]
  refine rf_storeR (n := 2) rfl rfl Kx rfl rfl (UpdR.there _ (UpdR.app _ (UpdR.there _ (UpdR.here _ _ _ Nl)))) Nz ?_
  simp only [qz, Nat.reduceAdd]
  refine rg_assign ?_
  simp only [qz]
  refine rg_nil (ek_next (wk_ret (ek_then_ret (ek_block_ret (ek_then_ret (ek_then_ret (ek_block_ret (ek_block_ret (ek_then_ret (ek_then_ret (ek_block_ret (ek_then_ret ?_))))))))))))
  refine ek_ret (fun w hw => ⟨rfl, _, run_results2 rfl rfl (Kn.hd0 (Kn.tl (Kn.tlU (Kn.tl hw)))) Try.underlying24 rfl Kx, ?_⟩)
  (try simp only [qz])
  have hg := gather_err (t := i * N + k) (c := c) he2.out (by (try dsimp only); rw [ix_div Ox, ix_mod Ox]; exact hr) (N * N) (ix_lt Ox Ox)
  exact ⟨.slice none 0 0, [], by unfold madeR; rw [hg]; rfl, (by unfold madeR; rw [hg]; exact OwnG.nil), .nil hw.below⟩
 (try simp only [numV])
 simp only [qz]
 refine rg_move ?_
 simp only [qz]
 refine rf_extract rfl rfl rfl rfl ?_
 simp only [qz]
 refine rf_extract rfl rfl rfl rfl ?_
 simp only [qz]
 refine Rgn fun g3 => ?_
 simp only [qz]
 refine rf_storeR (n := 5) rfl rfl Kx rfl rfl (UpdR.here _ _ _ Nl) Nz ?_
 simp only [qz, Nat.reduceAdd]
 refine rg_assign ?_
 simp only [qz]
 refine rg_nil (ek_next (wk_seq (wk_seq ?_)))
 refine wk_region [0, 0] rfl Kx ?_
 simp only [qy]
 refine rg_move ?_
 simp only [qz]
 refine rf_neq (b := false) rfl rfl rfl rfl (by decide) ?_
 simp only [qz]
 refine rg_nil (ek_next (wk_cond_f rfl (wk_skip (ek_next ?_))))
 refine wk_region [0, 0, 0, 1, 1, 0, 1] rfl Kx ?_
 simp only [qy]
 refine rf_field (n := 0) (j := 1) rfl rfl rfl Try.underlying24 rfl Kx rfl ?_
 simp only [qz]
 refine rf_load rfl rfl rfl Try.underlying22 rfl (fun w hw => (Kn.hd0 (Kn.tlU (Kn.tl hw))).at rfl) ?_
 simp only [qz]
 refine rf_loadR (n := 5) rfl rfl rfl Try.underlying29 rfl Kx (fun w hw => Kn.hd0 hw) rfl rfl ?_
 simp only [qz]
 refine rg_newS (cs := ?_) (ty := ?_) (n := 1) (c := 1) Rx (fun w => ?_) Nz (fun g4 => ?_); rotate_left 2
 focus (go_simp; rfl)
 simp only [qz]
 refine rg_appN (x := z) Rx rfl he3 rfl Ox (perm_atU (l := [_, _]) (((((List.Perm.refl _).cons _).cons _).cons _).cons _)) (fun w hw => Kn.hd0 hw) Nz (fun uN1 aN1 cN1 hON1 => ?_)
 simp only [qz]
 refine rf_field (n := 0) (j := 1) rfl rfl rfl Try.underlying24 rfl Kx rfl ?_
 simp only [qz]
 refine rf_store rfl rfl Kx rfl rfl (UpdR.app _ (UpdR.there _ (UpdR.there _ (UpdR.here _ _ _ Nl)))) Nz ?_
 simp only [qz]
 refine rg_nil (ek_block (ek_next ?_))
 refine wk_region [0, 0] rfl Kx ?_
 simp only [qy]
 refine rf_add rfl rfl rfl rfl (wrap_ok Ox Ox) ?_
 simp only [qz]
 refine rg_move ?_
 simp only [qz]
 refine rg_nil ?_
 refine ek_sub (List.Sublist.append_left (sk _ (sk _ (sc _ (sc _ sn)))) _) ?_
 refine ek_roundF (N - (k + 1)) Ox Kx ?_
 exact ⟨k + 1, l ++ [z], uN1, aN1, cN1, rfl, (by simp only [List.length_append, List.length_cons, List.length_nil, Nat.zero_add]), by rfl, Ox, (Lib.hid (by rw [← Nat.add_assoc]; exact gather_ok he2.out (by (try dsimp only); rw [ix_div Ox, ix_mod Ox]; exact hr))), (by simpa using hON1)⟩
def idR (i k : Nat) : NR := .ok (if i = k then Nm.one else Nm.zero)
theorem identity1_any (i k : Nat) (w : World) : Calls Try.prog 71 #[.int .i64 (i : Int), .int .i64 (k : Int)] w fun e w' => e = .returned (numV (idR i k)) ∧ Below w.heap.size w w' := by
 go_enter Try.func71, Try.ntmps71
 refine wk_start ?_
 refine wk_seq ?_
 refine wk_region [1, 0] rfl Kx ?_
 simp only [qy]
 refine Rgn fun g1 => ?_
 simp only [qz]
 refine rg_assign ?_
 simp only [qz]
 refine rg_nil (ek_next (wk_seq (wk_seq ?_)))
 refine wk_region [0, 0, 0] rfl Kx ?_
 simp only [qy]
 refine rg_move ?_
 simp only [qz]
 refine rg_move ?_
 simp only [qz]
 refine rfb_eql rfl rfl rfl rfl ?_
 intro x h1
 cases x
 ·(try simp only [qd, ne_eq] at h1)
  simp only [qz]
  refine rg_nil (ek_next (wk_cond_f rfl (wk_skip (ek_next (wk_seq ?_)))))
  refine wk_region [0, 1, 0] rfl Kx ?_
  simp only [qy]
  refine rf_build (cs := fun a => #[.int .i64 0, .int .i64 0, .int .i64 0, .int .i64 0, .int .i64 0]) rfl rfl Kx ?_
  simp only [qz]
  refine rf_storeR (n := 5) rfl rfl Kx rfl rfl (UpdR.here _ _ _ Nl) Nz ?_
  simp only [qz, Nat.reduceAdd]
  refine rg_assign ?_
  simp only [qz]
  refine rg_nil (ek_next (wk_ret ?_))
  refine ek_ret (fun w hw => ⟨rfl, _, run_results2 rfl rfl (Kn.hd0 hw) Try.underlying29 rfl Kx, ?_⟩)
  (try simp only [qz])
  exact ⟨by (unfold idR; first | (rw [if_pos Ox]; done) | (rw [if_neg Ox]; done) | (rw [if_pos Ox]; rfl) | (rw [if_neg Ox]; rfl)), hw.below⟩
 (try simp only [qd, ne_eq] at h1)
 simp only [qz]
 refine rg_nil (ek_next (wk_cond_t rfl (wk_seq ?_)))
 refine wk_region [0, 0, 1, 0] rfl Kx ?_
 simp only [qy]
 refine rf_build (cs := fun a => #[a.eval (.const (.int .i64 1)), .int .i64 0, .int .i64 0, .int .i64 0]) rfl rfl Kx ?_
 simp only [qz]
 refine rf_build (cs := fun a => #[cellAt (a.eval (.tmp 9)) 0, cellAt (a.eval (.tmp 9)) 1, cellAt (a.eval (.tmp 9)) 2, cellAt (a.eval (.tmp 9)) 3, .int .i64 0]) rfl rfl Kx ?_
 simp only [qz]
 refine rf_storeR (n := 5) rfl rfl Kx rfl rfl (UpdR.here _ _ _ Nl) Nz ?_
 simp only [qz, Nat.reduceAdd]
 refine rg_assign ?_
 simp only [qz]
 refine rg_nil (ek_next (wk_ret (ek_then_ret ?_)))
 refine ek_ret (fun w hw => ⟨rfl, _, run_results2 rfl rfl (Kn.hd0 hw) Try.underlying29 rfl Kx, ?_⟩)
 (try simp only [qz])
 exact ⟨by (unfold idR; first | (rw [if_pos Ox]; done) | (rw [if_neg Ox]; done) | (rw [if_pos Ox]; rfl) | (rw [if_neg Ox]; rfl)), hw.below⟩
def identR (n : Int) : LR := if 1 ≤ n ∧ n ≤ 6 then madeR n.toNat idR else .error 2
theorem identity_any (n : Int) (w : World) : Calls Try.prog 22 #[.int .i64 n] w fun e w' => RetM w (rN n.toNat (identR n)) (rL (identR n)) (rC (identR n)) e w' := by
 go_enter Try.func22, Try.ntmps22
 refine wk_start ?_
 refine wk_seq ?_
 refine wk_region [1, 0] rfl Kx ?_
 simp only [qy]
 refine Rgn fun g1 => ?_
 simp only [qz]
 refine rg_assign ?_
 simp only [qz]
 refine rg_nil (ek_next (wk_seq (wk_seq ?_)))
 refine wk_region [0, 0, 0, 0, 0, 0] rfl Kx ?_
 simp only [qy]
 refine rg_move ?_
 simp only [qz]
 refine rfb_lss rfl rfl rfl rfl ?_
 intro x h1
 cases x
 ·(try simp only [qd, ne_eq] at h1)
  simp only [qz]
  refine rg_move ?_
  simp only [qz]
  apply rg_soft_g
  case hg => rfl
  case hy => (intro w hw; go_simp; (try go_bits); exact Yld.mk _ _)
  simp only [qz]
  refine rfb_gtr rfl rfl rfl rfl ?_
  intro x h2
  cases x
  ·(try simp only [qd, ne_eq] at h2)
   simp only [qz]
   refine rf_pick rfl rfl rfl ?_
   simp only [qz]
   refine rg_nil (ek_next (wk_cond_f rfl (wk_skip (ek_next (wk_seq ?_)))))
   refine wk_region [0, 1, 0, 0, 1, 0] rfl Kx ?_
   simp only [qy]
   refine rg_move ?_
   simp only [qz]
   obtain ⟨N, rfl⟩ : ∃ N : Nat, n = N := ⟨n.toNat, by omega⟩
   apply rg_retM Rx Kx
   case hargs => exact Ax
   case h => exact fun w hw => made_any N Ox idR _ (fun i k c _ _ h => by cases h) w (FnV.lit Kx (fun w' vs r ⟨i, k, _, _, hv, hr⟩ => by subst hv hr; exact identity1_any i k w'))
   case hz => exact Nz
   intro va2 vc2 u2 hO2
   simp only [qz]
   refine rf_extract rfl rfl rfl rfl ?_
   simp only [qz]
   refine rf_extract rfl rfl rfl rfl ?_
   simp only [qz]
   refine rf_storeR (n := 2) rfl rfl Kx rfl rfl (UpdR.app _ (UpdR.here _ _ _ Nl)) Nz ?_
   simp only [qz, Nat.reduceAdd]
   refine rg_assign ?_
   simp only [qz]
   refine rg_nil (ek_next (wk_ret ?_))
   refine ek_ret (fun w hw => ⟨rfl, _, run_results2 rfl rfl (Kn.hd0 (Kn.tlU hw)) Try.underlying24 rfl Kx, ?_⟩)
   (try simp only [qz])
   have hid : identR (N : Int) = madeR N idR := by (unfold identR; rw [if_pos Ox, Int.toNat_natCast])
   rw [Int.toNat_natCast, hid]
   exact ⟨.slice va2 (rL (madeR N idR)).length vc2, u2, rfl, hO2, hw.made (List.sublist_append_left _ _)⟩
  (try simp only [qd, ne_eq] at h2)
  simp only [qz]
  refine rf_pick rfl rfl rfl ?_
  simp only [qz]
  refine rg_nil (ek_next (wk_cond_t rfl (wk_seq ?_)))
  refine wk_region [0, 1, 0] rfl Kx ?_
  simp only [qy]
  refine rf_build (cs := fun a => #[.int .i64 0, .slice none 0 0]) rfl rfl Kx ?_
  simp only [qz]
  refine rf_storeR (n := 2) rfl rfl Kx rfl rfl (UpdR.here _ _ _ Nl) Nz ?_
  simp only [qz, Nat.reduceAdd]
  refine rg_assign ?_
  simp only [qz]
  refine rg_nil (ek_next (wk_ret (ek_then_ret ?_)))
  refine ek_ret (fun w hw => ⟨rfl, _, run_results2 rfl rfl (Kn.hd0 hw) Try.underlying24 rfl Kx, ?_⟩)
  (try simp only [qz])
  have hid : identR n = .error 2 := by (unfold identR; rw [if_neg Ox])
  rw [hid]
  exact ⟨.slice none 0 0, [], rfl, OwnG.nil, .nil hw.below⟩
 (try simp only [qd, ne_eq] at h1)
 simp only [qz]
 refine rg_move ?_
 simp only [qz]
 refine rg_skip Rx ?_
 simp only [qz]
 refine rg_skip Rx ?_
 simp only [qz]
 refine rf_pick rfl rfl rfl ?_
 simp only [qz]
 refine rg_nil (ek_next (wk_cond_t rfl (wk_seq ?_)))
 refine wk_region [0, 1, 0] rfl Kx ?_
 simp only [qy]
 refine rf_build (cs := fun a => #[.int .i64 0, .slice none 0 0]) rfl rfl Kx ?_
 simp only [qz]
 refine rf_storeR (n := 2) rfl rfl Kx rfl rfl (UpdR.here _ _ _ Nl) Nz ?_
 simp only [qz, Nat.reduceAdd]
 refine rg_assign ?_
 simp only [qz]
 refine rg_nil (ek_next (wk_ret (ek_then_ret ?_)))
 refine ek_ret (fun w hw => ⟨rfl, _, run_results2 rfl rfl (Kn.hd0 hw) Try.underlying24 rfl Kx, ?_⟩)
 (try simp only [qz])
 have hid : identR n = .error 2 := by (unfold identR; rw [if_neg Ox])
 rw [hid]
 exact ⟨.slice none 0 0, [], rfl, OwnG.nil, .nil hw.below⟩
section
variable {P : Program} {w : World}
end
theorem Hd.belowS {w w' : World} {g t : Nat} {cs : Array Value} (h : Hd w g t cs) (hb : Below w.heap.size w w') : Hd w' g t cs := (hb.block g h.lt).trans h
theorem validB_N' {n : Int} {xs : List Nm} (h : validB n xs = true) : ∃ N : Nat, n = N ∧ 1 ≤ N ∧ N ≤ 6 ∧ xs.length = N * N ∧ xs.length ≤ 36 ∧ allOk xs = true := by
 simp only [validB, Bool.and_eq_true, decide_eq_true_eq] at h
 obtain ⟨h1, h2, h3, h4⟩ := h
 obtain ⟨N, rfl⟩ : ∃ N : Nat, n = N := ⟨n.toNat, by omega⟩
 have h5 : xs.length = N * N := by
  have e : ((N * N : Nat) : Int) = (N : Int) * N := Int.natCast_mul N N
  omega
 have h6 : N * N ≤ 6 * 6 := Nat.mul_le_mul Ox Ox
 exact ⟨N, rfl, by omega, by omega, h5, by omega, h4⟩
theorem retM_err {w w' : World} {K : Nat} {c : Int} {r : LR} (h : r = .error c) (hb : Below w.heap.size w w') : RetM w (rN K r) (rL r) (rC r) (.returned (.tuple #[.agg #[.int .i64 0, .slice none 0 0], .int .i64 c])) w' := by
 subst h
 exact ⟨.slice none 0 0, [], rfl, OwnG.nil, .nil hb⟩
theorem wrap_eqB {n r : Int} (h : n = r) (h0 : -9223372036854775808 ≤ r) (h1 : r < 9223372036854775808) : IntKind.i64.wrap n = r := by
 rw [h]; exact wrap_ok Ox Ox
structure Q4 where
  a : Rat
  b : Rat
  c : Rat
  d : Rat
namespace Q4
theorem ext' {x y : Q4} (h1 : x.a = y.a) (h2 : x.b = y.b) (h3 : x.c = y.c) (h4 : x.d = y.d) : x = y := by cases x; cases y; simp_all
def zero : Q4 := ⟨0, 0, 0, 0⟩
def one : Q4 := ⟨1, 0, 0, 0⟩
def add (x y : Q4) : Q4 := ⟨x.a + y.a, x.b + y.b, x.c + y.c, x.d + y.d⟩
def neg (x : Q4) : Q4 := ⟨-x.a, -x.b, -x.c, -x.d⟩
def mul (x y : Q4) : Q4 := ⟨x.a * y.a - x.b * y.d - x.c * y.c - x.d * y.b, x.a * y.b + x.b * y.a - x.c * y.d - x.d * y.c, x.a * y.c + x.b * y.b + x.c * y.a - x.d * y.d, x.a * y.d + x.b * y.c + x.c * y.b + x.d * y.a⟩
instance : Zero Q4 := ⟨zero⟩
instance : One Q4 := ⟨one⟩
instance : Add Q4 := ⟨add⟩
instance : Mul Q4 := ⟨mul⟩
instance : Neg Q4 := ⟨neg⟩
instance : Sub Q4 := ⟨fun x y => add x (neg y)⟩
theorem za : (0 : Q4).a = 0 := rfl
theorem zb : (0 : Q4).b = 0 := rfl
theorem zc : (0 : Q4).c = 0 := rfl
theorem zd : (0 : Q4).d = 0 := rfl
theorem oa : (1 : Q4).a = 1 := rfl
theorem ob : (1 : Q4).b = 0 := rfl
theorem oc : (1 : Q4).c = 0 := rfl
theorem od : (1 : Q4).d = 0 := rfl
variable (x y z : Q4)
theorem aa : (x + y).a = x.a + y.a := rfl
theorem ab : (x + y).b = x.b + y.b := rfl
theorem ac : (x + y).c = x.c + y.c := rfl
theorem ad : (x + y).d = x.d + y.d := rfl
theorem na : (-x).a = -x.a := rfl
theorem nb : (-x).b = -x.b := rfl
theorem nc : (-x).c = -x.c := rfl
theorem nd : (-x).d = -x.d := rfl
theorem sc : (x - y).c = x.c + -y.c := rfl
theorem ma : (x * y).a = x.a * y.a - x.b * y.d - x.c * y.c - x.d * y.b := rfl
theorem mb : (x * y).b = x.a * y.b + x.b * y.a - x.c * y.d - x.d * y.c := rfl
theorem mc : (x * y).c = x.a * y.c + x.b * y.b + x.c * y.a - x.d * y.d := rfl
theorem md : (x * y).d = x.a * y.d + x.b * y.c + x.c * y.b + x.d * y.a := rfl
theorem add_comm : x + y = y + x := by apply ext' <;> simp only [aa, ab, ac, ad] <;> grind
theorem add_assoc : x + y + z = x + (y + z) := by apply ext' <;> simp only [aa, ab, ac, ad] <;> grind
theorem add_zero : x + 0 = x := by apply ext' <;> simp only [aa, ab, ac, ad, za, zb, zc, zd] <;> grind
theorem zero_add : 0 + x = x := by rw [add_comm, add_zero]
theorem add_neg : x + -x = 0 := by apply ext' <;> simp only [aa, ab, ac, ad, na, nb, nc, nd, za, zb, zc, zd] <;> grind
theorem mul_comm : x * y = y * x := by apply ext' <;> simp only [ma, mb, mc, md] <;> grind
theorem mul_assoc : x * y * z = x * (y * z) := by apply ext' <;> simp only [ma, mb, mc, md] <;> grind
theorem mul_one : x * 1 = x := by apply ext' <;> simp only [ma, mb, mc, md, oa, ob, oc, od] <;> grind
theorem one_mul : 1 * x = x := by rw [mul_comm, mul_one]
theorem mul_zero : x * 0 = 0 := by apply ext' <;> simp only [ma, mb, mc, md, za, zb, zc, zd] <;> grind
theorem zero_mul : 0 * x = 0 := by rw [mul_comm, mul_zero]
theorem mul_add : x * (y + z) = x * y + x * z := by apply ext' <;> simp only [ma, mb, mc, md, aa, ab, ac, ad] <;> grind
theorem add_mul : (x + y) * z = x * z + y * z := by rw [mul_comm, mul_add, mul_comm z x, mul_comm z y]
theorem mul_neg : x * -y = -(x * y) := by apply ext' <;> simp only [ma, mb, mc, md, na, nb, nc, nd] <;> grind
theorem sub_self : x - x = 0 := add_neg x
def dh (x : Q4) : Q4 := ⟨(x.b - x.d) / 2, (x.a + x.c) / 2, (x.b + x.d) / 2, (x.c - x.a) / 2⟩
def dn : Nat → Q4 → Q4
  | 0, x => x
  | n + 1, x => dn n (dh x)
theorem dh_inj {x y : Q4} (h : dh x = dh y) : x = y := by
 have h1 : (dh x).a = (dh y).a := by rw [h]
 have h2 : (dh x).b = (dh y).b := by rw [h]
 have h3 : (dh x).c = (dh y).c := by rw [h]
 have h4 : (dh x).d = (dh y).d := by rw [h]
 simp only [dh] at h1 h2 h3 h4
 apply ext' <;> grind
theorem dn_inj : ∀ (n : Nat) {x y : Q4}, dn n x = dn n y → x = y
  | 0, _, _, h => h
  | n + 1, _, _, h => dh_inj (dn_inj n h)
theorem dh_add : dh (x + y) = dh x + dh y := by apply ext' <;> simp only [dh, aa, ab, ac, ad] <;> grind
theorem dn_add : ∀ (n : Nat) (x y : Q4), dn n (x + y) = dn n x + dn n y
  | 0, _, _ => rfl
  | n + 1, x, y => by simp only [dn]; rw [dh_add, dn_add n]
theorem dh_mul : dh (x * y) = dh x * y := by apply ext' <;> simp only [dh, ma, mb, mc, md] <;> grind
theorem dn_mul : ∀ (n : Nat) (x y : Q4), dn n (x * y) = dn n x * y
  | 0, _, _ => rfl
  | n + 1, x, y => by simp only [dn]; rw [dh_mul, dn_mul n]
theorem dn_dn : ∀ (m n : Nat) (x : Q4), dn m (dn n x) = dn (n + m) x
  | m, 0, x => by rw [Nat.zero_add]; rfl
  | m, n + 1, x => by
    rw [show n + 1 + m = (n + m) + 1 by omega]
    exact dn_dn m n (dh x)
theorem dn_mul2 (m n : Nat) (x y : Q4) : dn (m + n) (x * y) = dn m x * dn n y := by
 rw [← dn_dn, dn_mul, mul_comm, dn_mul, mul_comm]
end Q4
def Nm.co (z : Nm) : Q4 := ⟨(z.a : Rat), (z.b : Rat), (z.c : Rat), (z.d : Rat)⟩
def Nm.val (z : Nm) : Q4 := Q4.dn z.k.toNat z.co
theorem co_tr (z : Nm) : Q4.dh z.tr.co = z.co := by
 apply Q4.ext' <;> simp only [Q4.dh, Nm.co, Nm.tr, Rat.intCast_add, Rat.intCast_sub] <;> grind
theorem val_tr {z : Nm} (h : 0 ≤ z.k) : z.tr.val = z.val := by
 unfold Nm.val
 have : z.tr.k.toNat = z.k.toNat + 1 := by simp only [Nm.tr]; omega
 rw [this]
 show Q4.dn z.k.toNat (Q4.dh z.tr.co) = _
 rw [co_tr]
theorem val_up : ∀ (n : Nat) {z : Nm}, 0 ≤ z.k → (Nm.up n z).val = z.val
  | 0, _, _ => rfl
  | n + 1, z, h => by
    have := val_up n (z := z.tr) (by simp only [Nm.tr]; omega)
    show (Nm.up n z.tr).val = _
    rw [this, val_tr h]
theorem co_inj {x y : Nm} (hk : x.k = y.k) (h : x.co = y.co) : x = y := by
 have h1 : (x.a : Rat) = y.a := by show x.co.a = y.co.a; rw [h]
 have h2 : (x.b : Rat) = y.b := by show x.co.b = y.co.b; rw [h]
 have h3 : (x.c : Rat) = y.c := by show x.co.c = y.co.c; rw [h]
 have h4 : (x.d : Rat) = y.d := by show x.co.d = y.co.d; rw [h]
 obtain ⟨a, b, c, d, k⟩ := x
 obtain ⟨a', b', c', d', k'⟩ := y
 dsimp only at *
 rw [Rat.intCast_inj.1 h1, Rat.intCast_inj.1 h2, Rat.intCast_inj.1 h3, Rat.intCast_inj.1 h4, hk]
theorem eqv_val {x y : Nm} (hx : 0 ≤ x.k) (hy : 0 ≤ y.k) (h : x.val = y.val) : Eqv x y := by
 refine ⟨(y.k).toNat, (x.k).toNat, ?_⟩
 have hk : (Nm.up (y.k).toNat x).k = (Nm.up (x.k).toNat y).k := by rw [Nm.up_k, Nm.up_k]; omega
 refine co_inj hk ?_
 have h1 := val_up (y.k).toNat hx
 have h2 := val_up (x.k).toNat hy
 rw [h, ← h2] at h1
 unfold Nm.val at h1
 rw [hk] at h1
 exact Q4.dn_inj _ h1
theorem to_up {x : Nm} {m : Int} (h : 0 ≤ x.k) : (x.to m).val = x.val := val_up _ h
theorem val_mulR {x y : Nm} (hx : 0 ≤ x.k) (hy : 0 ≤ y.k) : (x.mulR y).val = x.val * y.val := by
 unfold Nm.val
 have : (x.mulR y).k.toNat = x.k.toNat + y.k.toNat := by simp only [Nm.mulR]; omega
 rw [this, ← Q4.dn_mul2]
 congr 1
 apply Q4.ext' <;> simp only [Nm.co, Nm.mulR, Q4.ma, Q4.mb, Q4.mc, Q4.md, Rat.intCast_add, Rat.intCast_sub, Rat.intCast_mul]
theorem val_one : Nm.one.val = 1 := rfl
def sumQ : Nat → (Nat → Q4) → Q4
  | 0, _ => 0
  | n + 1, f => sumQ n f + f n
theorem sumQ_congr : ∀ {n : Nat} {f g : Nat → Q4}, (∀ i, i < n → f i = g i) → sumQ n f = sumQ n g
  | 0, _, _, _ => rfl
  | n + 1, f, g, h => by simp only [sumQ]; rw [sumQ_congr fun i hi => h i (by omega), h n (by omega)]
def dl (i j : Nat) : Q4 := if i = j then 1 else 0
theorem amTurn_lt (z : Nm) (n : Nat) (hz : z.Ok) (hn : n < 8) (w : World) : Calls Try.prog 129 #[nmV z, .int .i64 (n : Int)] w fun e w' => e = .returned (.tuple #[nmV (Nm.turn n z), .int .i64 0]) ∧ Below w.heap.size w w' := by
 have h := amTurn_ok z n hz w
 rwa [show ((n : Int) % 8).toNat = n by omega] at h
theorem bt_yes {x y : Nm} (hx : x.Ok) (hz : NotZ x y) {n : Nat} (hn : n < 8) (h : Nm.turn n x = y) : btV x y = n ∧ btB x y = true := by
 unfold btV btB
 rw [btw_eq hx hz hn h]
 exact ⟨rfl, rfl⟩
theorem bt_no {x y : Nm} (h : ∀ j, j < 8 → Nm.turn j x ≠ y) : btV x y = 0 ∧ btB x y = false := by
 unfold btV btB
 rw [btw_no h]
 exact ⟨rfl, rfl⟩
theorem between_any (x y : Nm) (hx : x.Ok) (hz : NotZ x y) (w : World) : Calls Try.prog 90 #[nmV x, nmV y] w fun e w' => e = .returned (.tuple #[.int .i64 (btV x y), .bool (btB x y)]) ∧ Below w.heap.size w w' := by
 go_enter Try.func90, Try.ntmps90
 refine wk_start ?_
 refine wk_seq ?_
 refine wk_region [1, 1, 0, 0] rfl Kx ?_
 simp only [qy]
 refine Rgn fun g1 => ?_
 simp only [qz]
 refine Rgn fun g2 => ?_
 simp only [qz]
 refine rg_assign ?_
 simp only [qz]
 refine rg_assign ?_
 simp only [qz]
 refine rg_nil (ek_next (wk_seq (wk_seq ?_)))
 refine wk_region [0] rfl Kx ?_
 simp only [qy]
 refine rg_move ?_
 simp only [qz]
 refine rg_nil (ek_next (wk_block ?_))
 refine wk_loopF [4, 5, 6, 7, 8, 9, 10, 11, 12, 13, 14, 15, 16, 17, 18, 19, 20, 21, 22, 23, 24, 25, 26] (fun mz f s => ∃ (n : Nat), f 9 = .int .i64 n ∧ s = ((g2, .cells #[.int .i64 y.a, .int .i64 y.b, .int .i64 y.c, .int .i64 y.d, .int .i64 y.k] 29) :: ((g1, .cells #[.int .i64 x.a, .int .i64 x.b, .int .i64 x.c, .int .i64 x.d, .int .i64 x.k] 29) :: [])) ∧ mz = 8 - n ∧ n ≤ 8 ∧ Hid (∀ j, j < n → Nm.turn j x ≠ y)) ((fun (n : Nat) => 8 - n) (0)) ?_ Kx ?_
 ·exact ⟨0, rfl, rfl, rfl, by omega, (Lib.hid (fun j hj => by omega))⟩
 rintro mz f1 s ⟨n, hs1_9, rfl, hn, hd1, hd2⟩
 simp only [Act.putF, List.foldl_cons, List.foldl_nil, hs1_9, Act.put, Act.eval, q1, q2, q3, q4, q5, q6, q7, q8, q9, q10, q11, q12, q13, q14, q15, q16, q17, q18, Nat.reduceAdd, Bool.not_true, Bool.not_false]
 clear hs1_9
 refine wk_seq ?_
 refine wk_region [0] rfl Kx ?_
 simp only [qy]
 refine rfb_lss rfl rfl rfl rfl ?_
 intro x h1
 cases x
 ·(try simp only [qd, ne_eq] at h1)
  simp only [qz]
  refine rg_nil (ek_next (wk_seq (wk_cond_f rfl (wk_exit (ek_then_exit (ek_then_exit (ek_block_exit (ek_next (wk_seq ?_)))))))))
  refine wk_region [0, 0] rfl Kx ?_
  simp only [qy]
  refine rg_assign ?_
  simp only [qz]
  refine rg_assign ?_
  simp only [qz]
  refine rg_nil (ek_next (wk_ret ?_))
  refine ek_ret (fun w hw => ⟨rfl, _, res_tt _ _ rfl, ?_⟩)
  (try simp only [qz])
  obtain rfl : n = 8 := by omega
  obtain ⟨e1, e2⟩ := bt_no hd2.out
  exact ⟨by rw [e1, e2], hw.below⟩
 (try simp only [qd, ne_eq] at h1)
 simp only [qz]
 refine rg_nil (ek_next (wk_seq (wk_cond_t rfl (wk_skip (ek_next (wk_seq (wk_block (wk_seq ?_))))))))
 refine wk_region [0, 0] rfl Kx ?_
 simp only [qy]
 refine rg_move ?_
 simp only [qz]
 refine rg_assign ?_
 simp only [qz]
 refine rg_nil (ek_next (wk_seq ?_))
 refine wk_region [0, 0, 1, 0, 0, 0, 1, 1, 0] rfl Kx ?_
 simp only [qy]
 refine rf_loadR (n := 5) rfl rfl rfl Try.underlying29 rfl Kx (fun w hw => Kn.hd0 (Kn.tl hw)) rfl rfl ?_
 simp only [qz]
 refine rg_move ?_
 simp only [qz]
 apply rg_pure Rx Kx
 case hargs => exact Ax
 case h => exact fun w hw => amTurn_lt x n hx Ox w
 case hz => exact Nz
 simp only [qz]
 refine rg_move ?_
 simp only [qz]
 refine rf_extract rfl rfl rfl rfl ?_
 simp only [qz]
 refine rf_extract rfl rfl rfl rfl ?_
 simp only [qz]
 refine Rgn fun g3 => ?_
 simp only [qz]
 refine rf_storeR (n := 5) rfl rfl Kx rfl rfl (UpdR.here _ _ _ Nl) Nz ?_
 simp only [qz, Nat.reduceAdd]
 refine rg_assign ?_
 simp only [qz]
 refine rg_nil (ek_next (wk_seq ?_))
 refine wk_region [0, 0, 0, 0, 0, 0, 0] rfl Kx ?_
 simp only [qy]
 refine rg_move ?_
 simp only [qz]
 refine rf_eql (b := true) rfl rfl rfl rfl (by decide) ?_
 simp only [qz]
 refine rg_move ?_
 simp only [qz]
 refine rf_loadR (n := 5) rfl rfl rfl Try.underlying29 rfl Kx (fun w hw => Kn.hd0 hw) rfl rfl ?_
 simp only [qz]
 refine rf_loadR (n := 5) rfl rfl rfl Try.underlying29 rfl Kx (fun w hw => Kn.hd0 (Kn.tl hw)) rfl rfl ?_
 simp only [qz]
 refine rfb_eqN (Nm.turn n x) (y) rfl rfl rfl rfl ?_
 intro x h2
 cases x
 ·(try simp only [qd, ne_eq] at h2)
  simp only [qz]
  refine rf_pick rfl rfl rfl ?_
  simp only [qz]
  refine rg_nil (ek_next (wk_cond_f rfl (wk_skip (ek_block (ek_next ?_)))))
  refine wk_region [0, 0] rfl Kx ?_
  simp only [qy]
  refine rf_add rfl rfl rfl rfl (wrap_ok Ox Ox) ?_
  simp only [qz]
  refine rg_move ?_
  simp only [qz]
  refine rg_nil ?_
  refine ek_sub (sk _ (sc _ (sc _ sn))) ?_
  refine ek_roundF (8 - (n + 1)) Ox Kx ?_
  exact ⟨n + 1, rfl, by rfl, by rfl, Ox, (Lib.hid (fun j hj => by rcases (by omega : j < n ∨ j = n) with h | rfl; exact hd2.out j h; exact h2))⟩
 (try simp only [qd, ne_eq] at h2)
 simp only [qz]
 refine rf_pick rfl rfl rfl ?_
 simp only [qz]
 refine rg_nil (ek_next (wk_cond_t rfl (wk_seq ?_)))
 refine wk_region [0, 0, 0] rfl Kx ?_
 simp only [qy]
 refine rg_move ?_
 simp only [qz]
 refine rg_assign ?_
 simp only [qz]
 refine rg_assign ?_
 simp only [qz]
 refine rg_nil (ek_next (wk_ret (ek_block_ret (ek_then_ret (ek_then_ret (ek_block_ret (ek_then_ret ?_)))))))
 refine ek_ret (fun w hw => ⟨rfl, _, res_tt _ _ rfl, ?_⟩)
 (try simp only [qz])
 obtain ⟨e1, e2⟩ := bt_yes hx hz (show n < 8 by omega) h2
 exact ⟨by rw [e1, e2], hw.below⟩
def SPR (N : Nat) (E : Ed) (T : Nat → Int) (at_ : Nat) (tu : Int) : Bool → (Nat → Int) → Prop
  | true, T' => SpT N E T at_ tu T'
  | false, _ => SpF N E T at_ tu
theorem spr_known {N : Nat} {E : Ed} {T : Nat → Int} {at_ : Nat} {tu v : Int} (hat : at_ < 2 * N) (hr : RngA N T) (h : T at_ = v) (h0 : 0 ≤ tu) (h1 : tu ≤ 7) (hv : 0 ≤ T at_) : SPR N E T at_ tu (decide (v = tu)) T := by
 by_cases e : v = tu
 ·rw [decide_eq_true e]; exact spT_known hr (h.trans e) h0
 rw [decide_eq_false e]; exact spF_known hat hr (by rw [h]; exact e) hv h0 h1
def KvA (tl : List (Int × Int)) : Prop := ∀ q x, getI tl q = some x → 0 ≤ x ∧ x ≤ 7
theorem KvA.rng {N : Nat} {tl : List (Int × Int)} (h : KvA tl) : RngA N (toT tl) := fun v _ => by
  cases hg : getI tl (v : Int) with
  | none => rw [toT_none hg]; exact ⟨by decide, by decide⟩
  | some x => have := h _ _ hg; rw [toT_some hg]; omega
theorem KvA.push {tl : List (Int × Int)} {k x : Int} (h : KvA tl) (h0 : 0 ≤ x) (h1 : x ≤ 7) : KvA (tl ++ [(k, x)]) := fun q y hy => by
  rw [getI_app] at hy
  cases hg : getI tl q with
  | some z => rw [hg] at hy; cases hy; exact h _ _ hg
  | none =>
    rw [hg] at hy
    dsimp only at hy
    split at hy
    · cases hy; exact ⟨h0, h1⟩
    · cases hy
theorem push_or {seen : Array Nat} {j m : Nat} (h : (seen.push j).contains m = true) : seen.contains m = true ∨ m = j := by
 rw [Array.contains_push] at h
 simpa using h
theorem left_push {seen : Array Nat} {j n : Nat} (h : seen.contains j = false) (hj : j < n) : leftE (fun i => (seen.push j).contains i) n < leftE (fun i => seen.contains i) n :=
  leftE_push h (by rw [Array.contains_push]; simp) (fun m hm => by rw [Array.contains_push]; simp only [hm, Bool.true_or]) n hj
theorem get_lt {α : Type} {l : List α} {j : Nat} {x : α} (h : l[j]? = some x) : j < l.length := by
 rcases Nat.lt_or_ge j l.length with h1 | h1
 ·exact h1
 rw [List.getElem?_eq_none h1] at h; cases h
section
variable {R : Option Nat} {ops : Array Oper} {Q : Exit → Act → World → Prop} {B : World} {F : List Nat}
variable {l : List (Oper × Nat)} {a : Act} {S : List Blk} {d : Option Tmp} {t : TypeId} {p : String} {af : Array Edge}
theorem rg_spread {P : Program} {f : Nat} {cargs : Array Operand} {at_ : Array TypeId} {args : Array Value} {gd : Option (Nat × Bool)} {rest : List Blk} {N bt gp be v : Nat} {E : Ed} {L : List (Nat × Nat × Nat)} {tl : List (Int × Int)} {tu nn : Int}
    (hg : Region.wanted ⟨d, .call ⟨.value (.func f), cargs, at_⟩, t, p, af, gd⟩ (yielded ops a.tmps) = true) (hgo : isGo P f = true) (hargs : cargs.map a.eval = args)
    (hp : S.Perm ((bt, mapO kvI tl) :: (gp, .cells #[.int .i64 nn, .map (some bt), .map (some be)] 117) :: (be, mapO (kvE N) L) :: rest))
    (h : ∀ w, Kn w [bt, gp, be] [(bt, mapO kvI tl), (gp, .cells #[.int .i64 nn, .map (some bt), .map (some be)] 117), (be, mapO (kvE N) L)] w → Calls P f args w fun e w' => ∃ b tl', e = .returned (.bool b) ∧ Kn w [bt, gp, be] [(bt, mapO kvI tl'), (gp, .cells #[.int .i64 nn, .map (some bt), .map (some be)] 117), (be, mapO (kvE N) L)] w' ∧ SPR N E (toT tl) v tu b (toT tl') ∧ KvA tl')
    (k : ∀ b tl', SPR N E (toT tl) v tu b (toT tl') → KvA tl' → Rg R P ops Q B F none l (a.put d (.bool b)) ((bt, mapO kvI tl') :: (gp, .cells #[.int .i64 nn, .map (some bt), .map (some be)] 117) :: (be, mapO (kvE N) L) :: rest)) :
    Rg R P ops Q B F none ((⟨d, .call ⟨.value (.func f), cargs, at_⟩, t, p, af, gd⟩, 1) :: l) a S :=
  rg_call hg hgo hargs fun w K => by
    have K1 : Kn B F ([(bt, mapO kvI tl), (gp, .cells #[.int .i64 nn, .map (some bt), .map (some be)] 117), (be, mapO (kvE N) L)] ++ rest) w := K.perm hp
    refine (h w K1.self).mono fun e w' ⟨b, tl', he, hK, hT, hv⟩ => ⟨_, _, he, K1.effApp hK, Nz, k b tl' hT hv⟩
end
theorem spread_any (N : Nat) (hN : N ≤ 6) (E : Ed) (L : List (Nat × Nat × Nat)) (hL : LisA N E L) (gp bt be : Nat) (nn : Int) : ∀ (m : Nat) (tl : List (Int × Int)) (at_ : Nat) (tu : Int), unkA N (toT tl) (2 * N) = m → at_ < 2 * N → 0 ≤ tu → tu ≤ 7 → KvA tl → ∀ w : World, Kn w [bt, gp, be] [(bt, mapO kvI tl), (gp, .cells #[.int .i64 nn, .map (some bt), .map (some be)] 117), (be, mapO (kvE N) L)] w →
    Calls Try.prog 91 #[.pointer (some ⟨gp, 0, none⟩), .int .i64 (at_ : Int), .int .i64 tu] w fun e w' => ∃ b tl', e = .returned (.bool b) ∧ Kn w [bt, gp, be] [(bt, mapO kvI tl'), (gp, .cells #[.int .i64 nn, .map (some bt), .map (some be)] 117), (be, mapO (kvE N) L)] w' ∧ SPR N E (toT tl) at_ tu b (toT tl') ∧ KvA tl' := by
  intro m
  induction m using Nat.strongRecOn with
  | ind m ih =>
  intro tl at_ tu hm hat hz0 hz1 hkv w hK
  go_enter Try.func91, Try.ntmps91
  refine wk_startF hK ?_
  refine wk_seq ?_
  refine wk_region [0] rfl Kx ?_
  simp only [qy]
  refine rg_assign ?_
  simp only [qz]
  refine rg_nil (ek_next (wk_seq (wk_seq ?_)))
  refine wk_region [0, 0, 0, 0, 0, 0, 0, 0, 0, 0, 0] rfl Kx ?_
  simp only [qy]
  refine rg_move ?_
  simp only [qz]
  apply rg_soft
  case hy => (intro w hw; go_simp; (try go_bits); exact Yld.mk _ _)
  simp only [qz]
  refine rf_field (n := 0) (j := 1) rfl rfl rfl Try.underlying117 rfl Kx rfl ?_
  simp only [qz]
  refine rf_load rfl rfl rfl Try.underlying114 rfl (fun w hw => (Kn.hd0 (Kn.tl hw)).at rfl) ?_
  simp only [qz]
  refine rg_move ?_
  simp only [qz]
  rcases hgi : getI tl (at_ : Int) with _ | v
  · refine rg_lookup0 rfl rfl rfl rfl Try.underlying114 Try.underlying3 (fun w => by kernel_rfl) hgi (List.Mem.head _) ?_
    simp only [qz]
    refine rg_move ?_
    simp only [qz]
    refine rf_extract rfl rfl rfl rfl ?_
    simp only [qz]
    refine rf_extract rfl rfl rfl rfl ?_
    simp only [qz]
    refine rg_assign ?_
    simp only [qz]
    refine rg_assign ?_
    simp only [qz]
    refine rg_nil (ek_next (wk_seq ?_))
    refine wk_region [0] rfl Kx ?_
    simp only [qy]
    refine rg_move ?_
    simp only [qz]
    refine rg_nil (ek_next (wk_cond_f rfl (wk_skip (ek_next (wk_seq ?_)))))
    have hT : toT tl at_ < 0 := by rw [toT_none hgi]; decide
    refine wk_region [0, 0, 0, 0, 0, 0, 1] rfl Kx ?_
    simp only [qy]
    refine rg_move ?_
    simp only [qz]
    apply rg_soft
    case hy => (intro w hw; go_simp; (try go_bits); exact Yld.mk _ _)
    simp only [qz]
    refine rf_field (n := 0) (j := 1) rfl rfl rfl Try.underlying117 rfl Kx rfl ?_
    simp only [qz]
    refine rf_load rfl rfl rfl Try.underlying114 rfl (fun w hw => (Kn.hd0 (Kn.tl hw)).at rfl) ?_
    simp only [qz]
    refine rg_move ?_
    simp only [qz]
    refine rg_move ?_
    simp only [qz]
    refine rg_updateI Rx rfl rfl rfl Try.underlying114 Try.underlying3 hgi (Rep.here _) ?_
    simp only [qz]
    refine rg_nil (ek_next (wk_seq (wk_seq ?_)))
    refine wk_region [0, 0, 0, 0, 1] rfl Kx ?_
    simp only [qy]
    refine rg_move ?_
    simp only [qz]
    apply rg_soft
    case hy => (intro w hw; go_simp; (try go_bits); exact Yld.mk _ _)
    simp only [qz]
    refine rf_field (n := 0) (j := 2) rfl rfl rfl Try.underlying117 rfl Kx rfl ?_
    simp only [qz]
    refine rf_load rfl rfl rfl Try.underlying115 rfl (fun w hw => (Kn.hd0 (Kn.tl hw)).at rfl) ?_
    simp only [qz]
    refine rg_range Rx rfl Try.underlying115 (List.Mem.tail _ (List.Mem.tail _ (List.Mem.head _))) (fun r => ?_)
    simp only [qz]
    refine rg_nil (ek_next (wk_block ?_))
    refine wk_loopF [6, 9, 10, 35, 36, 37, 38, 39, 40, 41, 42, 43, 44, 45, 46, 47, 48, 49, 50, 51, 52, 53, 54, 55, 56, 57, 58, 59, 60, 61, 62, 63, 64] (fun mz f s => ∃ (tm : List (Int × Int)) (seen : Array Nat), s = ((r, .mapIter (some be) L.length seen L.length) :: ((bt, mapO kvI tm) :: ((gp, .cells #[.int .i64 nn, .map (some bt), .map (some be)] 117) :: ((be, mapO (kvE N) L) :: [])))) ∧ mz = leftE (fun j => seen.contains j) L.length ∧ Hid (SpI N E L (toT tl) at_ tu (toT tm) (fun j => seen.contains j)) ∧ KvA tm) ((fun (tm : List (Int × Int)) (seen : Array Nat) => leftE (fun j => seen.contains j) L.length) (tl ++ [((at_ : Int), tu)]) (#[])) ?_ Kx ?_
    · exact ⟨tl ++ [((at_ : Int), tu)], #[], rfl, rfl, (Lib.hid (by rw [toT_push hgi]; exact spI_start hkv.rng hz0 hz1 (fun j => by simp))), (hkv.push hz0 hz1)⟩
    rintro mz f1 s ⟨tm, seen, rfl, hn, hd1, hd2⟩
    simp only [Act.putF, List.foldl_cons, List.foldl_nil, Act.put, Act.eval, q1, q2, q3, q4, q5, q6, q7, q8, q9, q10, q11, q12, q13, q14, q15, q16, q17, q18, Nat.reduceAdd, Bool.not_true, Bool.not_false]
    refine wk_seq ?_
    refine wk_region [1, 0] rfl Kx ?_
    simp only [qy]
    refine rg_next Rx rfl (List.Mem.tail _ (List.Mem.tail _ (List.Mem.head _))) (fun hall => ?_) (fun ej ex hex hsn => ?_)
    · simp only [Act.put, Act.eval, qn, qv, Nat.reduceAdd]
      refine rf_extract rfl rfl rfl rfl ?_
      simp only [qz]
      refine rg_nil (ek_next (wk_seq (wk_cond_f rfl (wk_exit (ek_then_exit (ek_then_exit (ek_block_exit (ek_next (wk_seq ?_)))))))))
      refine wk_region [0] rfl Kx ?_
      simp only [qy]
      refine rg_assign ?_
      simp only [qz]
      refine rg_nil (ek_next (wk_ret ?_))
      refine ek_sub (sk _ (sc _ (sc _ (sc _ sn)))) ?_
      refine ek_ret (fun w hw => ⟨rfl, _, res_t _ rfl, ?_⟩)
      (try simp only [qz])
      exact ⟨true, tm, rfl, hw, hd1.out.done hL hat hz0 hT hall, hd2⟩
    · obtain ⟨ei, ek, et⟩ := ex
      obtain ⟨hei, hek, het, -⟩ := hL.old _ _ _ _ hex
      simp only [kvE]
      simp only [qz]
      refine rf_extract rfl rfl rfl rfl ?_
      simp only [qz]
      refine rg_nil (ek_next (wk_seq (wk_cond_t rfl (wk_skip (ek_next (wk_block (wk_seq ?_)))))))
      refine wk_region [1, 0, 0, 1, 1, 0] rfl Kx ?_
      simp only [qy]
      refine rg_entry Rx rfl (List.Mem.head _) (List.Mem.tail _ (List.Mem.tail _ (List.Mem.tail _ (List.Mem.head _)))) hex ?_
      simp only [kvE]
      simp only [qz]
      refine rf_extract rfl rfl rfl rfl ?_
      simp only [qz]
      refine rf_extract rfl rfl rfl rfl ?_
      simp only [qz]
      refine Rgn fun g1 => ?_
      simp only [qz]
      refine rf_storeR (n := 2) rfl rfl Kx rfl rfl (UpdR.here _ _ _ Nl) Nz ?_
      simp only [qz, Nat.reduceAdd]
      refine rg_assign ?_
      simp only [qz]
      refine rg_nil (ek_next (wk_seq (wk_seq ?_)))
      refine wk_region [0, 0, 0, 0, 0, 0, 0, 0, 0, 0] rfl Kx ?_
      simp only [qy]
      refine rf_indexA (n := 0) (sz := 1) (j := 0) rfl rfl rfl rfl Try.underlying119 Kx (by decide) rfl ?_
      simp only [qz]
      refine rf_load rfl rfl rfl Try.underlying3 rfl (fun w hw => (Kn.hd0 hw).at rfl) ?_
      simp only [qz]
      refine rg_move ?_
      simp only [qz]
      refine rfb_neq rfl rfl rfl rfl ?_
      intro x h1
      cases x
      · (try simp only [qd, ne_eq] at h1)
        simp only [qz]
        refine rg_move ?_
        simp only [qz]
        refine rg_skip Rx ?_
        simp only [qz]
        refine rg_skip Rx ?_
        simp only [qz]
        refine rg_skip Rx ?_
        simp only [qz]
        refine rg_skip Rx ?_
        simp only [qz]
        refine rf_pick rfl rfl rfl ?_
        simp only [qz]
        refine rg_nil (ek_next (wk_cond_f rfl (wk_skip (ek_next (wk_seq ?_)))))
        have hx : at_ = ei ∨ at_ = N + ek := by omega
        obtain ⟨u, hu⟩ : ∃ u : Nat, (u : Int) = ei + (N + ek) - at_ := ⟨((ei : Int) + (N + ek) - at_).toNat, by omega⟩
        refine wk_region [0, 0, 0, 0, 0, 0, 0, 0, 0, 0, 0, 0, 0, 1, 0] rfl Kx ?_
        simp only [qy]
        refine rg_move ?_
        simp only [qz]
        refine rf_indexA (n := 0) (sz := 1) (j := 0) rfl rfl rfl rfl Try.underlying119 Kx (by decide) rfl ?_
        simp only [qz]
        refine rf_load rfl rfl rfl Try.underlying3 rfl (fun w hw => (Kn.hd0 hw).at rfl) ?_
        simp only [qz]
        refine rf_indexA (n := 1) (sz := 1) (j := 1) rfl rfl rfl rfl Try.underlying119 Kx (by decide) rfl ?_
        simp only [qz]
        refine rf_load rfl rfl rfl Try.underlying3 rfl (fun w hw => (Kn.hd0 hw).at rfl) ?_
        simp only [qz]
        refine rf_add rfl rfl rfl rfl (wrap_ok Ox Ox) ?_
        simp only [qz]
        refine rg_move ?_
        simp only [qz]
        refine rf_sub (r := (u : Int)) rfl rfl rfl rfl (wrap_eqB Ox Ox Ox) ?_
        simp only [qz]
        refine rg_move ?_
        simp only [qz]
        refine rg_move ?_
        simp only [qz]
        refine rf_sub rfl rfl rfl rfl (wrap_ok Ox Ox) ?_
        simp only [qz]
        refine rf_add rfl rfl rfl rfl (wrap_ok Ox Ox) ?_
        simp only [qz]
        refine rf_rem (r := ((et : Int) - tu + 8) % 8) rfl rfl rfl rfl Ox (Int.tmod_eq_emod_of_nonneg Ox) ?_
        simp only [qz]
        refine rg_spread (N := N) (E := E) (L := L) (tl := tm) (nn := nn) (args := #[.pointer (some ⟨gp, 0, none⟩), .int .i64 (u : Int), .int .i64 (((et : Int) - tu + 8) % 8)]) Rx Kx (by simp only [qm, qs, Act.eval]) (perm_at (l := [_, _]) (perm_at (l := [_, _]) (perm_at (l := [_, _]) (List.Perm.refl _)))) (fun w hK' => ih _ (by rw [← hm]; exact hd1.out.unk hat hz0 hT) tm u (((et : Int) - tu + 8) % 8) rfl Ox Ox Ox hd2 w hK') (fun bb tn hres hkn => ?_)
        cases bb
        · simp only [Act.put, Act.eval, qn, qv, Nat.reduceAdd]
          refine rf_not rfl rfl rfl ?_
          simp only [qz]
          refine rg_nil (ek_next (wk_cond_t rfl (wk_seq ?_)))
          refine wk_region [0] rfl Kx ?_
          simp only [qy]
          refine rg_assign ?_
          simp only [qz]
          refine rg_nil (ek_next (wk_ret (ek_block_ret (ek_then_ret (ek_block_ret (ek_then_ret ?_))))))
          refine ek_sub (sc _ (sc _ (sc _ (sk _ (sk _ sn))))) ?_
          refine ek_ret (fun w hw => ⟨rfl, _, res_t _ rfl, ?_⟩)
          (try simp only [qz])
          exact ⟨false, tn, rfl, hw, hd1.out.no hL hat hz0 hT hex hx hu rfl hres, hkn⟩
        · simp only [Act.put, Act.eval, qn, qv, Nat.reduceAdd]
          refine rf_not rfl rfl rfl ?_
          simp only [qz]
          refine rg_nil (ek_next (wk_cond_f rfl (wk_skip (ek_block ?_))))
          refine ek_sub (sc _ (sc _ (sc _ (sk _ (sc _ sn))))) ?_
          refine ek_perm (perm_at (l := [_, _, _]) (List.Perm.refl _)) ?_
          refine ek_roundF (leftE (fun j => (seen.push ej).contains j) L.length) ((by rw [hn]; exact left_push hsn (get_lt hex))) Kx ?_
          exact ⟨tn, seen.push ej, by rfl, by rfl, (Lib.hid (hd1.out.step hL hat hz0 hz1 hex hx hu rfl hres (fun m h => push_or h))), hkn⟩
      · (try simp only [qd, ne_eq] at h1)
        simp only [qz]
        refine rg_move ?_
        simp only [qz]
        refine rf_indexA (n := 1) (sz := 1) (j := 1) rfl rfl rfl rfl Try.underlying119 Kx (by decide) rfl ?_
        simp only [qz]
        refine rf_load rfl rfl rfl Try.underlying3 rfl (fun w hw => (Kn.hd0 hw).at rfl) ?_
        simp only [qz]
        apply rg_soft_g
        case hg => rfl
        case hy => (intro w hw; go_simp; (try go_bits); exact Yld.mk _ _)
        simp only [qz]
        refine rfb_neq rfl rfl rfl rfl ?_
        intro x h2
        cases x
        · (try simp only [qd, ne_eq] at h2)
          simp only [qz]
          refine rf_pick rfl rfl rfl ?_
          simp only [qz]
          refine rg_nil (ek_next (wk_cond_f rfl (wk_skip (ek_next (wk_seq ?_)))))
          have hx : at_ = ei ∨ at_ = N + ek := by omega
          obtain ⟨u, hu⟩ : ∃ u : Nat, (u : Int) = ei + (N + ek) - at_ := ⟨((ei : Int) + (N + ek) - at_).toNat, by omega⟩
          refine wk_region [0, 0, 0, 0, 0, 0, 0, 0, 0, 0, 0, 0, 0, 1, 0] rfl Kx ?_
          simp only [qy]
          refine rg_move ?_
          simp only [qz]
          refine rf_indexA (n := 0) (sz := 1) (j := 0) rfl rfl rfl rfl Try.underlying119 Kx (by decide) rfl ?_
          simp only [qz]
          refine rf_load rfl rfl rfl Try.underlying3 rfl (fun w hw => (Kn.hd0 hw).at rfl) ?_
          simp only [qz]
          refine rf_indexA (n := 1) (sz := 1) (j := 1) rfl rfl rfl rfl Try.underlying119 Kx (by decide) rfl ?_
          simp only [qz]
          refine rf_load rfl rfl rfl Try.underlying3 rfl (fun w hw => (Kn.hd0 hw).at rfl) ?_
          simp only [qz]
          refine rf_add rfl rfl rfl rfl (wrap_ok Ox Ox) ?_
          simp only [qz]
          refine rg_move ?_
          simp only [qz]
          refine rf_sub (r := (u : Int)) rfl rfl rfl rfl (wrap_eqB Ox Ox Ox) ?_
          simp only [qz]
          refine rg_move ?_
          simp only [qz]
          refine rg_move ?_
          simp only [qz]
          refine rf_sub rfl rfl rfl rfl (wrap_ok Ox Ox) ?_
          simp only [qz]
          refine rf_add rfl rfl rfl rfl (wrap_ok Ox Ox) ?_
          simp only [qz]
          refine rf_rem (r := ((et : Int) - tu + 8) % 8) rfl rfl rfl rfl Ox (Int.tmod_eq_emod_of_nonneg Ox) ?_
          simp only [qz]
          refine rg_spread (N := N) (E := E) (L := L) (tl := tm) (nn := nn) (args := #[.pointer (some ⟨gp, 0, none⟩), .int .i64 (u : Int), .int .i64 (((et : Int) - tu + 8) % 8)]) Rx Kx (by simp only [qm, qs, Act.eval]) (perm_at (l := [_, _]) (perm_at (l := [_, _]) (perm_at (l := [_, _]) (List.Perm.refl _)))) (fun w hK' => ih _ (by rw [← hm]; exact hd1.out.unk hat hz0 hT) tm u (((et : Int) - tu + 8) % 8) rfl Ox Ox Ox hd2 w hK') (fun bb tn hres hkn => ?_)
          cases bb
          · simp only [Act.put, Act.eval, qn, qv, Nat.reduceAdd]
            refine rf_not rfl rfl rfl ?_
            simp only [qz]
            refine rg_nil (ek_next (wk_cond_t rfl (wk_seq ?_)))
            refine wk_region [0] rfl Kx ?_
            simp only [qy]
            refine rg_assign ?_
            simp only [qz]
            refine rg_nil (ek_next (wk_ret (ek_block_ret (ek_then_ret (ek_block_ret (ek_then_ret ?_))))))
            refine ek_sub (sc _ (sc _ (sc _ (sk _ (sk _ sn))))) ?_
            refine ek_ret (fun w hw => ⟨rfl, _, res_t _ rfl, ?_⟩)
            (try simp only [qz])
            exact ⟨false, tn, rfl, hw, hd1.out.no hL hat hz0 hT hex hx hu rfl hres, hkn⟩
          · simp only [Act.put, Act.eval, qn, qv, Nat.reduceAdd]
            refine rf_not rfl rfl rfl ?_
            simp only [qz]
            refine rg_nil (ek_next (wk_cond_f rfl (wk_skip (ek_block ?_))))
            refine ek_sub (sc _ (sc _ (sc _ (sk _ (sc _ sn))))) ?_
            refine ek_perm (perm_at (l := [_, _, _]) (List.Perm.refl _)) ?_
            refine ek_roundF (leftE (fun j => (seen.push ej).contains j) L.length) ((by rw [hn]; exact left_push hsn (get_lt hex))) Kx ?_
            exact ⟨tn, seen.push ej, by rfl, by rfl, (Lib.hid (hd1.out.step hL hat hz0 hz1 hex hx hu rfl hres (fun m h => push_or h))), hkn⟩
        · (try simp only [qd, ne_eq] at h2)
          simp only [qz]
          refine rf_pick rfl rfl rfl ?_
          simp only [qz]
          refine rg_nil (ek_next (wk_cond_t rfl (wk_exit (ek_then_exit (ek_block_exit ?_)))))
          refine ek_sub (sk _ (sc _ (sc _ (sc _ (sc _ sn))))) ?_
          refine ek_roundF (leftE (fun j => (seen.push ej).contains j) L.length) ((by rw [hn]; exact left_push hsn (get_lt hex))) Kx ?_
          exact ⟨tm, seen.push ej, by rfl, by rfl, (Lib.hid (hd1.out.skip hex Ox (fun m h => push_or h))), hd2⟩
  · refine rg_lookup1 rfl rfl rfl rfl Try.underlying114 Try.underlying3 (fun w => by kernel_rfl) hgi (List.Mem.head _) ?_
    simp only [qz]
    refine rg_move ?_
    simp only [qz]
    refine rf_extract rfl rfl rfl rfl ?_
    simp only [qz]
    refine rf_extract rfl rfl rfl rfl ?_
    simp only [qz]
    refine rg_assign ?_
    simp only [qz]
    refine rg_assign ?_
    simp only [qz]
    refine rg_nil (ek_next (wk_seq ?_))
    refine wk_region [0] rfl Kx ?_
    simp only [qy]
    refine rg_move ?_
    simp only [qz]
    refine rg_nil (ek_next (wk_cond_t rfl (wk_seq ?_)))
    refine wk_region [0, 0, 0, 0] rfl Kx ?_
    simp only [qy]
    refine rg_move ?_
    simp only [qz]
    refine rg_move ?_
    simp only [qz]
    refine rf_eql rfl rfl rfl rfl rfl ?_
    simp only [qz]
    refine rg_assign ?_
    simp only [qz]
    refine rg_nil (ek_next (wk_ret (ek_then_ret ?_)))
    refine ek_ret (fun w hw => ⟨rfl, _, res_t _ rfl, ?_⟩)
    (try simp only [qz])
    exact ⟨decide (v = tu), tl, rfl, hw, spr_known hat hkv.rng (toT_some hgi) hz0 hz1 (by rw [toT_some hgi]; exact (hkv _ _ hgi).1), hkv⟩
end Go.Proofs.Ytjeijnjaleldkaa
