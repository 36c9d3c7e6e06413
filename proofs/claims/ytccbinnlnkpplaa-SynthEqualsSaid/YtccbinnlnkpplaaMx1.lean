/- Matrices: which are valid. -/
import Derived.Test.YtccbinnlnkpplaaSq
import Derived.Test.YtccbinnlnkpplaaAm4
import Derived.Test.YtccbinnlnkpplaaEq
import Derived.Test.YtccbinnlnkpplaaCallV
import Derived.Test.YtccbinnlnkpplaaXt
namespace Go.Proofs.Ytccbinnlnkpplaa
set_option linter.all false
open Go.RowKit

def allOk (xs : List Nm) : Bool := xs.all Nm.okB
def validB (n : Int) (xs : List Nm) : Bool := decide (1 ≤ n) && (decide (n ≤ 6) && (decide ((xs.length : Int) = n * n) && allOk xs))
theorem allOk_false {xs : List Nm} {k : Nat} (hk : k < xs.length) (h : (nm xs k).okB = false) : allOk xs = false := by
  unfold allOk
  rw [List.all_eq_false]
  exact ⟨nm xs k, NmE.at_mem hk, by rw [h]; decide⟩
theorem allOk_true {xs : List Nm} (h : ∀ k, k < xs.length → (nm xs k).okB = true) : allOk xs = true := by
  unfold allOk
  rw [List.all_eq_true]
  intro z hz
  obtain ⟨k, hk, rfl⟩ := List.getElem_of_mem hz
  have := h k hk
  unfold nm El.at at this
  rwa [List.getD_eq_getElem?_getD, List.getElem?_eq_getElem hk] at this
theorem ok_at {xs : List Nm} (h : allOk xs = true) {k : Nat} (hk : k < xs.length) : (nm xs k).Ok := okB_iff.1 (List.all_eq_true.1 h _ (NmE.at_mem hk))
def evB (z : Nm) : Bool := decide ((z.a + z.c) % 2 = 0) && decide ((z.b + z.d) % 2 = 0)
theorem okB_alt (z : Nm) : z.okB = (decide (-1000000000 ≤ z.a ∧ z.a ≤ 1000000000 ∧ -1000000000 ≤ z.b ∧ z.b ≤ 1000000000 ∧ -1000000000 ≤ z.c ∧ z.c ≤ 1000000000 ∧ -1000000000 ≤ z.d ∧ z.d ≤ 1000000000) && (decide (0 ≤ z.k) && (decide (z.k ≤ 40) && (decide (z.k = 0) || !evB z)))) := by
  rw [Bool.eq_iff_iff, okB_iff]
  simp only [evB, Bool.and_eq_true, Bool.or_eq_true, decide_eq_true_eq, Bool.not_eq_true', Bool.and_eq_false_iff, decide_eq_false_iff_not]
  constructor
  · rintro ⟨⟨h1, h2, h3, h4, h5, h6, h7, h8⟩, h9, h10, h11⟩
    refine ⟨⟨h1, h2, h3, h4, h5, h6, h7, h8⟩, h9, h10, ?_⟩
    simp only [Nm.even] at h11
    omega
  rintro ⟨⟨h1, h2, h3, h4, h5, h6, h7, h8⟩, h9, h10, h11⟩
  refine ⟨⟨h1, h2, h3, h4, h5, h6, h7, h8⟩, h9, h10, ?_⟩
  simp only [Nm.even]
  omega
abbrev rngP (z : Nm) : Prop := -1000000000 ≤ z.a ∧ z.a ≤ 1000000000 ∧ -1000000000 ≤ z.b ∧ z.b ≤ 1000000000 ∧ -1000000000 ≤ z.c ∧ z.c ≤ 1000000000 ∧ -1000000000 ≤ z.d ∧ z.d ≤ 1000000000
theorem okB_rest {z : Nm} (h : rngP z) (h0 : 0 ≤ z.k) (h1 : z.k ≤ 40) : z.okB = (decide (z.k = 0) || !evB z) := by
  rw [okB_alt, decide_eq_true h, decide_eq_true h0, decide_eq_true h1]; rfl
theorem okB_no {z : Nm} (h : ¬ (rngP z ∧ 0 ≤ z.k ∧ z.k ≤ 40)) : z.okB = false := by
  rw [okB_alt]
  by_cases h1 : rngP z
  · by_cases h2 : 0 ≤ z.k
    · rw [decide_eq_false (p := z.k ≤ 40) (fun h3 => h ⟨h1, h2, h3⟩)]; simp
    rw [decide_eq_false h2]; simp
  rw [decide_eq_false h1]; rfl
theorem tmod2 (n : Int) : n.tmod 2 = 0 ↔ n % 2 = 0 := by
  rcases Int.le_total 0 n with h | h
  · rw [Int.tmod_eq_emod_of_nonneg h]
  have e := Int.neg_tmod (-n) 2
  rw [Int.neg_neg, Int.tmod_eq_emod_of_nonneg (show 0 ≤ -n by omega)] at e
  omega
set_option maxRecDepth 100000 in
set_option maxHeartbeats 1000000 in
theorem rValidNum_any (z : Nm) (w : World) : Calls Try.prog 50 #[nmV z] w fun e w' => e = .returned (.bool z.okB) ∧ Below w.heap.size w w' := by
  go_enter Try.func50, Try.ntmps50
  refine wk_start ?_
  refine wk_seq ?_
  refine wk_region [1, 0] rfl Kx ?_
  simp only [qy]
  refine Rgn fun g1 => ?_
  simp only [qz]
  refine rg_assign ?_
  simp only [qz]
  refine rg_nil (ek_next (wk_seq (wk_seq ?_)))
  refine wk_region [0] rfl Kx ?_
  simp only [qy]
  refine rg_assign ?_
  simp only [qz]
  refine rg_nil (ek_next (wk_block ?_))
  refine wk_unroll 4 ?_
  refine wk_seq (wk_seq ?_)
  refine wk_region [0, 0] rfl Kx ?_
  simp only [qy]
  refine rg_move ?_
  simp only [qz]
  refine rf_lss (b := true) rfl rfl rfl rfl (by decide) ?_
  simp only [qz]
  refine rg_nil (ek_next (wk_cond_t rfl (wk_skip (ek_next (wk_seq (wk_block (wk_seq ?_)))))))
  refine wk_region [0, 0, 0, 0, 0, 0, 0, 0, 0, 0, 0, 0] rfl Kx ?_
  simp only [qy]
  refine rg_move ?_
  simp only [qz]
  refine rf_field (n := 3) (j := 0) rfl rfl rfl Try.underlying45 rfl Kx rfl ?_
  simp only [qz]
  refine rf_indexA (n := 0) (sz := 1) (j := 0) rfl rfl rfl rfl Try.underlying43 Kx (by decide) rfl ?_
  simp only [qz]
  refine rf_load rfl rfl rfl Try.underlying3 rfl (fun w hw => (Kn.hd0 hw).at rfl) ?_
  simp only [qz]
  refine rfb_lss rfl rfl rfl rfl ?_
  intro x h1
  cases x
  · (try simp only [qd, ne_eq] at h1)
    simp only [qz]
    refine rg_move ?_
    simp only [qz]
    apply rg_soft_g
    case hg => rfl
    case hy => (intro w hw; go_simp; (try go_bits); exact Yld.mk _ _)
    simp only [qz]
    refine rf_field (n := 3) (j := 0) rfl rfl rfl Try.underlying45 rfl Kx rfl ?_
    simp only [qz]
    refine rf_indexA (n := 0) (sz := 1) (j := 0) rfl rfl rfl rfl Try.underlying43 Kx (by decide) rfl ?_
    simp only [qz]
    refine rf_load rfl rfl rfl Try.underlying3 rfl (fun w hw => (Kn.hd0 hw).at rfl) ?_
    simp only [qz]
    refine rfb_gtr rfl rfl rfl rfl ?_
    intro x h2
    cases x
    · (try simp only [qd, ne_eq] at h2)
      simp only [qz]
      refine rf_pick rfl rfl rfl ?_
      simp only [qz]
      refine rg_nil (ek_next (wk_cond_f rfl (wk_skip (ek_block (ek_next ?_)))))
      refine wk_region [0, 0, 0] rfl Kx ?_
      simp only [qy]
      refine rg_move ?_
      simp only [qz]
      refine rf_add (r := 1) rfl rfl rfl rfl (by decide) ?_
      simp only [qz]
      refine rg_assign ?_
      simp only [qz]
      refine rg_nil (ek_again (wk_seq (wk_seq ?_)))
      refine wk_region [0, 0] rfl Kx ?_
      simp only [qy]
      refine rg_move ?_
      simp only [qz]
      refine rf_lss (b := true) rfl rfl rfl rfl (by decide) ?_
      simp only [qz]
      refine rg_nil (ek_next (wk_cond_t rfl (wk_skip (ek_next (wk_seq (wk_block (wk_seq ?_)))))))
      refine wk_region [0, 0, 0, 0, 0, 0, 0, 0, 0, 0, 0, 0] rfl Kx ?_
      simp only [qy]
      refine rg_move ?_
      simp only [qz]
      refine rf_field (n := 3) (j := 0) rfl rfl rfl Try.underlying45 rfl Kx rfl ?_
      simp only [qz]
      refine rf_indexA (n := 1) (sz := 1) (j := 1) rfl rfl rfl rfl Try.underlying43 Kx (by decide) rfl ?_
      simp only [qz]
      refine rf_load rfl rfl rfl Try.underlying3 rfl (fun w hw => (Kn.hd0 hw).at rfl) ?_
      simp only [qz]
      refine rfb_lss rfl rfl rfl rfl ?_
      intro x h3
      cases x
      · (try simp only [qd, ne_eq] at h3)
        simp only [qz]
        refine rg_move ?_
        simp only [qz]
        apply rg_soft_g
        case hg => rfl
        case hy => (intro w hw; go_simp; (try go_bits); exact Yld.mk _ _)
        simp only [qz]
        refine rf_field (n := 3) (j := 0) rfl rfl rfl Try.underlying45 rfl Kx rfl ?_
        simp only [qz]
        refine rf_indexA (n := 1) (sz := 1) (j := 1) rfl rfl rfl rfl Try.underlying43 Kx (by decide) rfl ?_
        simp only [qz]
        refine rf_load rfl rfl rfl Try.underlying3 rfl (fun w hw => (Kn.hd0 hw).at rfl) ?_
        simp only [qz]
        refine rfb_gtr rfl rfl rfl rfl ?_
        intro x h4
        cases x
        · (try simp only [qd, ne_eq] at h4)
          simp only [qz]
          refine rf_pick rfl rfl rfl ?_
          simp only [qz]
          refine rg_nil (ek_next (wk_cond_f rfl (wk_skip (ek_block (ek_next ?_)))))
          refine wk_region [0, 0, 0] rfl Kx ?_
          simp only [qy]
          refine rg_move ?_
          simp only [qz]
          refine rf_add (r := 2) rfl rfl rfl rfl (by decide) ?_
          simp only [qz]
          refine rg_assign ?_
          simp only [qz]
          refine rg_nil (ek_again (wk_seq (wk_seq ?_)))
          refine wk_region [0, 0] rfl Kx ?_
          simp only [qy]
          refine rg_move ?_
          simp only [qz]
          refine rf_lss (b := true) rfl rfl rfl rfl (by decide) ?_
          simp only [qz]
          refine rg_nil (ek_next (wk_cond_t rfl (wk_skip (ek_next (wk_seq (wk_block (wk_seq ?_)))))))
          refine wk_region [0, 0, 0, 0, 0, 0, 0, 0, 0, 0, 0, 0] rfl Kx ?_
          simp only [qy]
          refine rg_move ?_
          simp only [qz]
          refine rf_field (n := 3) (j := 0) rfl rfl rfl Try.underlying45 rfl Kx rfl ?_
          simp only [qz]
          refine rf_indexA (n := 2) (sz := 1) (j := 2) rfl rfl rfl rfl Try.underlying43 Kx (by decide) rfl ?_
          simp only [qz]
          refine rf_load rfl rfl rfl Try.underlying3 rfl (fun w hw => (Kn.hd0 hw).at rfl) ?_
          simp only [qz]
          refine rfb_lss rfl rfl rfl rfl ?_
          intro x h5
          cases x
          · (try simp only [qd, ne_eq] at h5)
            simp only [qz]
            refine rg_move ?_
            simp only [qz]
            apply rg_soft_g
            case hg => rfl
            case hy => (intro w hw; go_simp; (try go_bits); exact Yld.mk _ _)
            simp only [qz]
            refine rf_field (n := 3) (j := 0) rfl rfl rfl Try.underlying45 rfl Kx rfl ?_
            simp only [qz]
            refine rf_indexA (n := 2) (sz := 1) (j := 2) rfl rfl rfl rfl Try.underlying43 Kx (by decide) rfl ?_
            simp only [qz]
            refine rf_load rfl rfl rfl Try.underlying3 rfl (fun w hw => (Kn.hd0 hw).at rfl) ?_
            simp only [qz]
            refine rfb_gtr rfl rfl rfl rfl ?_
            intro x h6
            cases x
            · (try simp only [qd, ne_eq] at h6)
              simp only [qz]
              refine rf_pick rfl rfl rfl ?_
              simp only [qz]
              refine rg_nil (ek_next (wk_cond_f rfl (wk_skip (ek_block (ek_next ?_)))))
              refine wk_region [0, 0, 0] rfl Kx ?_
              simp only [qy]
              refine rg_move ?_
              simp only [qz]
              refine rf_add (r := 3) rfl rfl rfl rfl (by decide) ?_
              simp only [qz]
              refine rg_assign ?_
              simp only [qz]
              refine rg_nil (ek_again (wk_seq (wk_seq ?_)))
              refine wk_region [0, 0] rfl Kx ?_
              simp only [qy]
              refine rg_move ?_
              simp only [qz]
              refine rf_lss (b := true) rfl rfl rfl rfl (by decide) ?_
              simp only [qz]
              refine rg_nil (ek_next (wk_cond_t rfl (wk_skip (ek_next (wk_seq (wk_block (wk_seq ?_)))))))
              refine wk_region [0, 0, 0, 0, 0, 0, 0, 0, 0, 0, 0, 0] rfl Kx ?_
              simp only [qy]
              refine rg_move ?_
              simp only [qz]
              refine rf_field (n := 3) (j := 0) rfl rfl rfl Try.underlying45 rfl Kx rfl ?_
              simp only [qz]
              refine rf_indexA (n := 3) (sz := 1) (j := 3) rfl rfl rfl rfl Try.underlying43 Kx (by decide) rfl ?_
              simp only [qz]
              refine rf_load rfl rfl rfl Try.underlying3 rfl (fun w hw => (Kn.hd0 hw).at rfl) ?_
              simp only [qz]
              refine rfb_lss rfl rfl rfl rfl ?_
              intro x h7
              cases x
              · (try simp only [qd, ne_eq] at h7)
                simp only [qz]
                refine rg_move ?_
                simp only [qz]
                apply rg_soft_g
                case hg => rfl
                case hy => (intro w hw; go_simp; (try go_bits); exact Yld.mk _ _)
                simp only [qz]
                refine rf_field (n := 3) (j := 0) rfl rfl rfl Try.underlying45 rfl Kx rfl ?_
                simp only [qz]
                refine rf_indexA (n := 3) (sz := 1) (j := 3) rfl rfl rfl rfl Try.underlying43 Kx (by decide) rfl ?_
                simp only [qz]
                refine rf_load rfl rfl rfl Try.underlying3 rfl (fun w hw => (Kn.hd0 hw).at rfl) ?_
                simp only [qz]
                refine rfb_gtr rfl rfl rfl rfl ?_
                intro x h8
                cases x
                · (try simp only [qd, ne_eq] at h8)
                  simp only [qz]
                  refine rf_pick rfl rfl rfl ?_
                  simp only [qz]
                  refine rg_nil (ek_next (wk_cond_f rfl (wk_skip (ek_block (ek_next ?_)))))
                  refine wk_region [0, 0, 0] rfl Kx ?_
                  simp only [qy]
                  refine rg_move ?_
                  simp only [qz]
                  refine rf_add (r := 4) rfl rfl rfl rfl (by decide) ?_
                  simp only [qz]
                  refine rg_assign ?_
                  simp only [qz]
                  refine rg_nil (ek_again (wk_seq (wk_seq ?_)))
                  refine wk_region [0, 0] rfl Kx ?_
                  simp only [qy]
                  refine rg_move ?_
                  simp only [qz]
                  refine rf_lss (b := false) rfl rfl rfl rfl (by decide) ?_
                  simp only [qz]
                  refine rg_nil (ek_next (wk_cond_f rfl (wk_exit (ek_then_exit (ek_then_exit (ek_block_exit (ek_next (wk_seq (wk_seq ?_)))))))))
                  refine wk_region [0, 0, 0, 0, 0, 0, 0, 0] rfl Kx ?_
                  simp only [qy]
                  refine rf_field (n := 0) (j := 4) rfl rfl rfl Try.underlying45 rfl Kx rfl ?_
                  simp only [qz]
                  refine rf_load rfl rfl rfl Try.underlying3 rfl (fun w hw => (Kn.hd0 hw).at rfl) ?_
                  simp only [qz]
                  refine rfb_lss rfl rfl rfl rfl ?_
                  intro x h9
                  cases x
                  · (try simp only [qd, ne_eq] at h9)
                    simp only [qz]
                    refine rg_move ?_
                    simp only [qz]
                    refine rf_field (n := 0) (j := 4) rfl rfl rfl Try.underlying45 rfl Kx rfl ?_
                    simp only [qz]
                    refine rf_load rfl rfl rfl Try.underlying3 rfl (fun w hw => (Kn.hd0 hw).at rfl) ?_
                    simp only [qz]
                    refine rfb_gtr rfl rfl rfl rfl ?_
                    intro x h10
                    cases x
                    · (try simp only [qd, ne_eq] at h10)
                      simp only [qz]
                      refine rf_pick rfl rfl rfl ?_
                      simp only [qz]
                      refine rg_nil (ek_next (wk_cond_f rfl (wk_skip (ek_next (wk_seq ?_)))))
                      refine wk_region [0, 0, 0, 0, 0, 0, 0, 0, 0, 0, 0, 0, 0, 0, 0, 0, 0, 0, 0, 0, 0, 0, 0, 0, 0, 0] rfl Kx ?_
                      simp only [qy]
                      refine rf_field (n := 0) (j := 4) rfl rfl rfl Try.underlying45 rfl Kx rfl ?_
                      simp only [qz]
                      refine rf_load rfl rfl rfl Try.underlying3 rfl (fun w hw => (Kn.hd0 hw).at rfl) ?_
                      simp only [qz]
                      refine rfb_eql rfl rfl rfl rfl ?_
                      intro x h11
                      cases x
                      · (try simp only [qd, ne_eq] at h11)
                        simp only [qz]
                        refine rg_move ?_
                        simp only [qz]
                        refine rf_field (n := 3) (j := 0) rfl rfl rfl Try.underlying45 rfl Kx rfl ?_
                        simp only [qz]
                        refine rf_indexA (n := 0) (sz := 1) (j := 0) rfl rfl rfl rfl Try.underlying43 Kx (by decide) rfl ?_
                        simp only [qz]
                        refine rf_load rfl rfl rfl Try.underlying3 rfl (fun w hw => (Kn.hd0 hw).at rfl) ?_
                        simp only [qz]
                        refine rf_field (n := 3) (j := 0) rfl rfl rfl Try.underlying45 rfl Kx rfl ?_
                        simp only [qz]
                        refine rf_indexA (n := 2) (sz := 1) (j := 2) rfl rfl rfl rfl Try.underlying43 Kx (by decide) rfl ?_
                        simp only [qz]
                        refine rf_load rfl rfl rfl Try.underlying3 rfl (fun w hw => (Kn.hd0 hw).at rfl) ?_
                        simp only [qz]
                        refine rf_add rfl rfl rfl rfl (wrap_ok Ox Ox) ?_
                        simp only [qz]
                        refine rf_rem (r := (z.a + z.c).tmod 2) rfl rfl rfl rfl (by decide) rfl ?_
                        simp only [qz]
                        refine rfb_neq rfl rfl rfl rfl ?_
                        intro x h12
                        cases x
                        · (try simp only [qd, ne_eq] at h12)
                          simp only [qz]
                          refine rf_pick rfl rfl rfl ?_
                          simp only [qz]
                          refine rg_move ?_
                          simp only [qz]
                          refine rf_field (n := 3) (j := 0) rfl rfl rfl Try.underlying45 rfl Kx rfl ?_
                          simp only [qz]
                          refine rf_indexA (n := 1) (sz := 1) (j := 1) rfl rfl rfl rfl Try.underlying43 Kx (by decide) rfl ?_
                          simp only [qz]
                          refine rf_load rfl rfl rfl Try.underlying3 rfl (fun w hw => (Kn.hd0 hw).at rfl) ?_
                          simp only [qz]
                          refine rf_field (n := 3) (j := 0) rfl rfl rfl Try.underlying45 rfl Kx rfl ?_
                          simp only [qz]
                          refine rf_indexA (n := 3) (sz := 1) (j := 3) rfl rfl rfl rfl Try.underlying43 Kx (by decide) rfl ?_
                          simp only [qz]
                          refine rf_load rfl rfl rfl Try.underlying3 rfl (fun w hw => (Kn.hd0 hw).at rfl) ?_
                          simp only [qz]
                          refine rf_add rfl rfl rfl rfl (wrap_ok Ox Ox) ?_
                          simp only [qz]
                          refine rf_rem (r := (z.b + z.d).tmod 2) rfl rfl rfl rfl (by decide) rfl ?_
                          simp only [qz]
                          refine rf_neq rfl rfl rfl rfl rfl ?_
                          simp only [qz]
                          refine rf_pick rfl rfl rfl ?_
                          simp only [qz]
                          refine rg_assign ?_
                          simp only [qz]
                          refine rg_nil (ek_next (wk_ret ?_))
                          refine ek_ret (fun w hw => ⟨rfl, _, res_t _ rfl, ?_⟩)
                          (try simp only [qz])
                          exact ⟨by first | rw [okB_no Ox] | (rw [okB_rest Ox Ox Ox]; unfold evB; (try simp only [ne_eq, tmod2] at *); by_cases hA : (z.a + z.c) % 2 = 0 <;> by_cases hB : (z.b + z.d) % 2 = 0 <;> simp_all [tmod2]), hw.below⟩
                        (try simp only [qd, ne_eq] at h12)
                        simp only [qz]
                        refine rf_pick rfl rfl rfl ?_
                        simp only [qz]
                        refine rg_move ?_
                        simp only [qz]
                        refine rg_skip Rx ?_
                        simp only [qz]
                        refine rg_skip Rx ?_
                        simp only [qz]
                        refine rg_skip Rx ?_
                        simp only [qz]
                        refine rg_skip Rx ?_
                        simp only [qz]
                        refine rg_skip Rx ?_
                        simp only [qz]
                        refine rg_skip Rx ?_
                        simp only [qz]
                        refine rg_skip Rx ?_
                        simp only [qz]
                        refine rg_skip Rx ?_
                        simp only [qz]
                        refine rg_skip Rx ?_
                        simp only [qz]
                        refine rf_pick rfl rfl rfl ?_
                        simp only [qz]
                        refine rg_assign ?_
                        simp only [qz]
                        refine rg_nil (ek_next (wk_ret ?_))
                        refine ek_ret (fun w hw => ⟨rfl, _, res_t _ rfl, ?_⟩)
                        (try simp only [qz])
                        exact ⟨by first | rw [okB_no Ox] | (rw [okB_rest Ox Ox Ox]; unfold evB; (try simp only [ne_eq, tmod2] at *); by_cases hA : (z.a + z.c) % 2 = 0 <;> by_cases hB : (z.b + z.d) % 2 = 0 <;> simp_all [tmod2]), hw.below⟩
                      (try simp only [qd, ne_eq] at h11)
                      simp only [qz]
                      refine rg_move ?_
                      simp only [qz]
                      refine rg_skip Rx ?_
                      simp only [qz]
                      refine rg_skip Rx ?_
                      simp only [qz]
                      refine rg_skip Rx ?_
                      simp only [qz]
                      refine rg_skip Rx ?_
                      simp only [qz]
                      refine rg_skip Rx ?_
                      simp only [qz]
                      refine rg_skip Rx ?_
                      simp only [qz]
                      refine rg_skip Rx ?_
                      simp only [qz]
                      refine rg_skip Rx ?_
                      simp only [qz]
                      refine rg_skip Rx ?_
                      simp only [qz]
                      refine rf_pick rfl rfl rfl ?_
                      simp only [qz]
                      refine rg_move ?_
                      simp only [qz]
                      refine rg_skip Rx ?_
                      simp only [qz]
                      refine rg_skip Rx ?_
                      simp only [qz]
                      refine rg_skip Rx ?_
                      simp only [qz]
                      refine rg_skip Rx ?_
                      simp only [qz]
                      refine rg_skip Rx ?_
                      simp only [qz]
                      refine rg_skip Rx ?_
                      simp only [qz]
                      refine rg_skip Rx ?_
                      simp only [qz]
                      refine rg_skip Rx ?_
                      simp only [qz]
                      refine rg_skip Rx ?_
                      simp only [qz]
                      refine rf_pick rfl rfl rfl ?_
                      simp only [qz]
                      refine rg_assign ?_
                      simp only [qz]
                      refine rg_nil (ek_next (wk_ret ?_))
                      refine ek_ret (fun w hw => ⟨rfl, _, res_t _ rfl, ?_⟩)
                      (try simp only [qz])
                      exact ⟨by first | rw [okB_no Ox] | (rw [okB_rest Ox Ox Ox]; unfold evB; (try simp only [ne_eq, tmod2] at *); by_cases hA : (z.a + z.c) % 2 = 0 <;> by_cases hB : (z.b + z.d) % 2 = 0 <;> simp_all [tmod2]), hw.below⟩
                    (try simp only [qd, ne_eq] at h10)
                    simp only [qz]
                    refine rf_pick rfl rfl rfl ?_
                    simp only [qz]
                    refine rg_nil (ek_next (wk_cond_t rfl (wk_seq ?_)))
                    refine wk_region [0] rfl Kx ?_
                    simp only [qy]
                    refine rg_assign ?_
                    simp only [qz]
                    refine rg_nil (ek_next (wk_ret (ek_then_ret ?_)))
                    refine ek_ret (fun w hw => ⟨rfl, _, res_t _ rfl, ?_⟩)
                    (try simp only [qz])
                    exact ⟨by first | rw [okB_no Ox] | (rw [okB_rest Ox Ox Ox]; unfold evB; (try simp only [ne_eq, tmod2] at *); by_cases hA : (z.a + z.c) % 2 = 0 <;> by_cases hB : (z.b + z.d) % 2 = 0 <;> simp_all [tmod2]), hw.below⟩
                  (try simp only [qd, ne_eq] at h9)
                  simp only [qz]
                  refine rg_move ?_
                  simp only [qz]
                  refine rg_skip Rx ?_
                  simp only [qz]
                  refine rg_skip Rx ?_
                  simp only [qz]
                  refine rg_skip Rx ?_
                  simp only [qz]
                  refine rf_pick rfl rfl rfl ?_
                  simp only [qz]
                  refine rg_nil (ek_next (wk_cond_t rfl (wk_seq ?_)))
                  refine wk_region [0] rfl Kx ?_
                  simp only [qy]
                  refine rg_assign ?_
                  simp only [qz]
                  refine rg_nil (ek_next (wk_ret (ek_then_ret ?_)))
                  refine ek_ret (fun w hw => ⟨rfl, _, res_t _ rfl, ?_⟩)
                  (try simp only [qz])
                  exact ⟨by first | rw [okB_no Ox] | (rw [okB_rest Ox Ox Ox]; unfold evB; (try simp only [ne_eq, tmod2] at *); by_cases hA : (z.a + z.c) % 2 = 0 <;> by_cases hB : (z.b + z.d) % 2 = 0 <;> simp_all [tmod2]), hw.below⟩
                (try simp only [qd, ne_eq] at h8)
                simp only [qz]
                refine rf_pick rfl rfl rfl ?_
                simp only [qz]
                refine rg_nil (ek_next (wk_cond_t rfl (wk_seq ?_)))
                refine wk_region [0] rfl Kx ?_
                simp only [qy]
                refine rg_assign ?_
                simp only [qz]
                refine rg_nil (ek_next (wk_ret (ek_block_ret (ek_then_ret (ek_then_ret (ek_block_ret (ek_then_ret ?_)))))))
                refine ek_ret (fun w hw => ⟨rfl, _, res_t _ rfl, ?_⟩)
                (try simp only [qz])
                exact ⟨by first | rw [okB_no Ox] | (rw [okB_rest Ox Ox Ox]; unfold evB; (try simp only [ne_eq, tmod2] at *); by_cases hA : (z.a + z.c) % 2 = 0 <;> by_cases hB : (z.b + z.d) % 2 = 0 <;> simp_all [tmod2]), hw.below⟩
              (try simp only [qd, ne_eq] at h7)
              simp only [qz]
              refine rg_move ?_
              simp only [qz]
              refine rg_skip Rx ?_
              simp only [qz]
              refine rg_skip Rx ?_
              simp only [qz]
              refine rg_skip Rx ?_
              simp only [qz]
              refine rg_skip Rx ?_
              simp only [qz]
              refine rg_skip Rx ?_
              simp only [qz]
              refine rf_pick rfl rfl rfl ?_
              simp only [qz]
              refine rg_nil (ek_next (wk_cond_t rfl (wk_seq ?_)))
              refine wk_region [0] rfl Kx ?_
              simp only [qy]
              refine rg_assign ?_
              simp only [qz]
              refine rg_nil (ek_next (wk_ret (ek_block_ret (ek_then_ret (ek_then_ret (ek_block_ret (ek_then_ret ?_)))))))
              refine ek_ret (fun w hw => ⟨rfl, _, res_t _ rfl, ?_⟩)
              (try simp only [qz])
              exact ⟨by first | rw [okB_no Ox] | (rw [okB_rest Ox Ox Ox]; unfold evB; (try simp only [ne_eq, tmod2] at *); by_cases hA : (z.a + z.c) % 2 = 0 <;> by_cases hB : (z.b + z.d) % 2 = 0 <;> simp_all [tmod2]), hw.below⟩
            (try simp only [qd, ne_eq] at h6)
            simp only [qz]
            refine rf_pick rfl rfl rfl ?_
            simp only [qz]
            refine rg_nil (ek_next (wk_cond_t rfl (wk_seq ?_)))
            refine wk_region [0] rfl Kx ?_
            simp only [qy]
            refine rg_assign ?_
            simp only [qz]
            refine rg_nil (ek_next (wk_ret (ek_block_ret (ek_then_ret (ek_then_ret (ek_block_ret (ek_then_ret ?_)))))))
            refine ek_ret (fun w hw => ⟨rfl, _, res_t _ rfl, ?_⟩)
            (try simp only [qz])
            exact ⟨by first | rw [okB_no Ox] | (rw [okB_rest Ox Ox Ox]; unfold evB; (try simp only [ne_eq, tmod2] at *); by_cases hA : (z.a + z.c) % 2 = 0 <;> by_cases hB : (z.b + z.d) % 2 = 0 <;> simp_all [tmod2]), hw.below⟩
          (try simp only [qd, ne_eq] at h5)
          simp only [qz]
          refine rg_move ?_
          simp only [qz]
          refine rg_skip Rx ?_
          simp only [qz]
          refine rg_skip Rx ?_
          simp only [qz]
          refine rg_skip Rx ?_
          simp only [qz]
          refine rg_skip Rx ?_
          simp only [qz]
          refine rg_skip Rx ?_
          simp only [qz]
          refine rf_pick rfl rfl rfl ?_
          simp only [qz]
          refine rg_nil (ek_next (wk_cond_t rfl (wk_seq ?_)))
          refine wk_region [0] rfl Kx ?_
          simp only [qy]
          refine rg_assign ?_
          simp only [qz]
          refine rg_nil (ek_next (wk_ret (ek_block_ret (ek_then_ret (ek_then_ret (ek_block_ret (ek_then_ret ?_)))))))
          refine ek_ret (fun w hw => ⟨rfl, _, res_t _ rfl, ?_⟩)
          (try simp only [qz])
          exact ⟨by first | rw [okB_no Ox] | (rw [okB_rest Ox Ox Ox]; unfold evB; (try simp only [ne_eq, tmod2] at *); by_cases hA : (z.a + z.c) % 2 = 0 <;> by_cases hB : (z.b + z.d) % 2 = 0 <;> simp_all [tmod2]), hw.below⟩
        (try simp only [qd, ne_eq] at h4)
        simp only [qz]
        refine rf_pick rfl rfl rfl ?_
        simp only [qz]
        refine rg_nil (ek_next (wk_cond_t rfl (wk_seq ?_)))
        refine wk_region [0] rfl Kx ?_
        simp only [qy]
        refine rg_assign ?_
        simp only [qz]
        refine rg_nil (ek_next (wk_ret (ek_block_ret (ek_then_ret (ek_then_ret (ek_block_ret (ek_then_ret ?_)))))))
        refine ek_ret (fun w hw => ⟨rfl, _, res_t _ rfl, ?_⟩)
        (try simp only [qz])
        exact ⟨by first | rw [okB_no Ox] | (rw [okB_rest Ox Ox Ox]; unfold evB; (try simp only [ne_eq, tmod2] at *); by_cases hA : (z.a + z.c) % 2 = 0 <;> by_cases hB : (z.b + z.d) % 2 = 0 <;> simp_all [tmod2]), hw.below⟩
      (try simp only [qd, ne_eq] at h3)
      simp only [qz]
      refine rg_move ?_
      simp only [qz]
      refine rg_skip Rx ?_
      simp only [qz]
      refine rg_skip Rx ?_
      simp only [qz]
      refine rg_skip Rx ?_
      simp only [qz]
      refine rg_skip Rx ?_
      simp only [qz]
      refine rg_skip Rx ?_
      simp only [qz]
      refine rf_pick rfl rfl rfl ?_
      simp only [qz]
      refine rg_nil (ek_next (wk_cond_t rfl (wk_seq ?_)))
      refine wk_region [0] rfl Kx ?_
      simp only [qy]
      refine rg_assign ?_
      simp only [qz]
      refine rg_nil (ek_next (wk_ret (ek_block_ret (ek_then_ret (ek_then_ret (ek_block_ret (ek_then_ret ?_)))))))
      refine ek_ret (fun w hw => ⟨rfl, _, res_t _ rfl, ?_⟩)
      (try simp only [qz])
      exact ⟨by first | rw [okB_no Ox] | (rw [okB_rest Ox Ox Ox]; unfold evB; (try simp only [ne_eq, tmod2] at *); by_cases hA : (z.a + z.c) % 2 = 0 <;> by_cases hB : (z.b + z.d) % 2 = 0 <;> simp_all [tmod2]), hw.below⟩
    (try simp only [qd, ne_eq] at h2)
    simp only [qz]
    refine rf_pick rfl rfl rfl ?_
    simp only [qz]
    refine rg_nil (ek_next (wk_cond_t rfl (wk_seq ?_)))
    refine wk_region [0] rfl Kx ?_
    simp only [qy]
    refine rg_assign ?_
    simp only [qz]
    refine rg_nil (ek_next (wk_ret (ek_block_ret (ek_then_ret (ek_then_ret (ek_block_ret (ek_then_ret ?_)))))))
    refine ek_ret (fun w hw => ⟨rfl, _, res_t _ rfl, ?_⟩)
    (try simp only [qz])
    exact ⟨by first | rw [okB_no Ox] | (rw [okB_rest Ox Ox Ox]; unfold evB; (try simp only [ne_eq, tmod2] at *); by_cases hA : (z.a + z.c) % 2 = 0 <;> by_cases hB : (z.b + z.d) % 2 = 0 <;> simp_all [tmod2]), hw.below⟩
  (try simp only [qd, ne_eq] at h1)
  simp only [qz]
  refine rg_move ?_
  simp only [qz]
  refine rg_skip Rx ?_
  simp only [qz]
  refine rg_skip Rx ?_
  simp only [qz]
  refine rg_skip Rx ?_
  simp only [qz]
  refine rg_skip Rx ?_
  simp only [qz]
  refine rg_skip Rx ?_
  simp only [qz]
  refine rf_pick rfl rfl rfl ?_
  simp only [qz]
  refine rg_nil (ek_next (wk_cond_t rfl (wk_seq ?_)))
  refine wk_region [0] rfl Kx ?_
  simp only [qy]
  refine rg_assign ?_
  simp only [qz]
  refine rg_nil (ek_next (wk_ret (ek_block_ret (ek_then_ret (ek_then_ret (ek_block_ret (ek_then_ret ?_)))))))
  refine ek_ret (fun w hw => ⟨rfl, _, res_t _ rfl, ?_⟩)
  (try simp only [qz])
  exact ⟨by first | rw [okB_no Ox] | (rw [okB_rest Ox Ox Ox]; unfold evB; (try simp only [ne_eq, tmod2] at *); by_cases hA : (z.a + z.c) % 2 = 0 <;> by_cases hB : (z.b + z.d) % 2 = 0 <;> simp_all [tmod2]), hw.below⟩

set_option maxRecDepth 100000 in
set_option maxHeartbeats 1000000 in
theorem numbers1_any (z : Nm) (w : World) : Calls Try.prog 172 #[nmV z] w fun e w' => e = .returned (.bool (!z.okB)) ∧ Below w.heap.size w w' := by
  go_enter Try.func172, Try.ntmps172
  refine wk_start ?_
  refine wk_seq ?_
  refine wk_region [1, 0] rfl Kx ?_
  simp only [qy]
  refine Rgn fun g1 => ?_
  simp only [qz]
  refine rg_assign ?_
  simp only [qz]
  refine rg_nil (ek_next (wk_seq ?_))
  refine wk_region [0, 1, 0, 0] rfl Kx ?_
  simp only [qy]
  refine rf_loadR (n := 5) rfl rfl rfl Try.underlying45 rfl Kx (fun w hw => Kn.hd0 hw) rfl rfl ?_
  simp only [qz]
  apply rg_pure Rx Kx
  case hargs => exact Ax
  case h => exact fun w hw => amvalid_any z w
  case hz => exact Nz
  simp only [qz]
  refine rf_not rfl rfl rfl ?_
  simp only [qz]
  refine rg_assign ?_
  simp only [qz]
  refine rg_nil (ek_next (wk_ret ?_))
  refine ek_ret (fun w hw => ⟨rfl, _, res_t _ rfl, ?_⟩)
  (try simp only [qz])
  first | exact ⟨rfl, hw.below⟩ | exact ⟨trivial, hw.below⟩ | exact hw.below

set_option maxRecDepth 100000 in
set_option maxHeartbeats 1000000 in
theorem index_num (xs : List Nm) (a : Option Addr) (c : Nat) (hl : xs.length ≤ 1000000) (w : World) (hA : AS w a (nms xs)) : Calls Try.prog 202 #[.slice a xs.length c, .func (.func 172) #[] #[]] w fun e w' => ∃ i : Int, e = .returned (.int .i64 i) ∧ decide (0 ≤ i) = !allOk xs ∧ Below w.heap.size w w' := by
  go_enter Try.func202, Try.ntmps202
  refine wk_start ?_
  refine wk_seq ?_
  refine wk_region [0] rfl Kx ?_
  simp only [qy]
  refine rg_assign ?_
  simp only [qz]
  refine rg_nil (ek_next (wk_seq (wk_seq ?_)))
  refine wk_region [0, 0, 0] rfl Kx ?_
  simp only [qy]
  refine rg_move ?_
  simp only [qz]
  refine rf_len rfl rfl rfl Try.underlying36 ?_
  simp only [qz]
  refine rg_move ?_
  simp only [qz]
  refine rg_nil (ek_next (wk_block ?_))
  refine wk_loopF [4, 5, 8, 9, 10, 11, 12, 13, 14, 15, 16, 17, 18] (fun mz f s => ∃ (k : Nat), f 4 = .int .i64 0 ∧ f 8 = .int .i64 k ∧ s = [] ∧ mz = xs.length - k ∧ k ≤ xs.length ∧ (∀ j, j < k → (nm xs j).okB = true)) ((fun (k : Nat) => xs.length - k) (0)) ?_ Kx ?_
  · exact ⟨0, rfl, rfl, rfl, rfl, by omega, fun j hj => by omega⟩
  rintro mz f1 s ⟨k, hs1_4, hs1_8, rfl, hn, hd1, hd2⟩
  simp only [Act.putF, List.foldl_cons, List.foldl_nil, hs1_4, hs1_8, Act.put, Act.eval, q1, q2, q3, q4, q5, q6, q7, q8, q9, q10, q11, q12, q13, q14, q15, q16, q17, q18, Nat.reduceAdd, Bool.not_true, Bool.not_false]
  clear hs1_4 hs1_8
  refine wk_seq ?_
  refine wk_region [0] rfl Kx ?_
  simp only [qy]
  refine rfb_lss rfl rfl rfl rfl ?_
  intro x h1
  cases x
  · (try simp only [qd, ne_eq] at h1)
    simp only [qz]
    refine rg_nil (ek_next (wk_seq (wk_cond_f rfl (wk_exit (ek_then_exit (ek_then_exit (ek_block_exit (ek_next (wk_seq ?_)))))))))
    refine wk_region [0] rfl Kx ?_
    simp only [qy]
    refine rg_assign ?_
    simp only [qz]
    refine rg_nil (ek_next (wk_ret ?_))
    refine ek_ret (fun w hw => ⟨rfl, _, res_t _ rfl, ?_⟩)
    (try simp only [qz])
    exact ⟨-1, rfl, by rw [allOk_true (fun j hj => hd2 j Ox)]; simp, hw.below⟩
  (try simp only [qd, ne_eq] at h1)
  simp only [qz]
  obtain ⟨b, off, rfl, hlt, hcell⟩ := AS.openN hA Ox
  refine rg_nil (ek_next (wk_seq (wk_cond_t rfl (wk_skip (ek_next (wk_seq (wk_block (wk_seq ?_))))))))
  refine wk_region [0, 0] rfl Kx ?_
  simp only [qy]
  refine rg_move ?_
  simp only [qz]
  refine rg_assign ?_
  simp only [qz]
  refine rg_nil (ek_next (wk_seq ?_))
  refine wk_region [0, 0, 0, 0, 0, 1] rfl Kx ?_
  simp only [qy]
  refine rg_move ?_
  simp only [qz]
  refine rg_move ?_
  simp only [qz]
  refine rg_move ?_
  simp only [qz]
  refine rf_indexS (n := k) (sz := 5) (j := off + k * 5) rfl rfl rfl rfl Try.underlying36 Kx Ox Ox rfl ?_
  simp only [qz]
  refine rf_loadC (n := 5) (vs := [.int .i64 (nm xs k).a, .int .i64 (nm xs k).b, .int .i64 (nm xs k).c, .int .i64 (nm xs k).d, .int .i64 (nm xs k).k]) rfl rfl rfl Try.underlying45 rfl Kx rfl (fun w hw => atN_range ((hcell k Ox).kn hw hlt (by simp))) ?_
  simp only [qz]
  refine CV.rg_callVb (f := 172) (caps := #[]) (vs := #[nmV (nm xs k)]) (b := !(nm xs k).okB) Rx rfl Kx (by simp only [qm, qs, Act.eval] <;> rfl) (fun w hw => numbers1_any (nm xs k) w) Nz ?_
  intro x h2
  cases x
  · (try simp only [qd, ne_eq] at h2)
    simp only [qz]
    refine rg_nil (ek_next (wk_cond_f rfl (wk_skip (ek_block (ek_next ?_)))))
    refine wk_region [0, 0] rfl Kx ?_
    simp only [qy]
    refine rf_add rfl rfl rfl rfl (wrap_ok Ox Ox) ?_
    simp only [qz]
    refine rg_move ?_
    simp only [qz]
    refine rg_nil ?_
    refine ek_roundF (xs.length - (k + 1)) Ox Kx ?_
    exact ⟨k + 1, rfl, rfl, by rfl, by rfl, by omega, (fun j hj => by rcases (by omega : j < k ∨ j = k) with h | rfl; exact hd2 j h; simpa using h2)⟩
  (try simp only [qd, ne_eq] at h2)
  simp only [qz]
  refine rg_nil (ek_next (wk_cond_t rfl (wk_seq ?_)))
  refine wk_region [0, 0] rfl Kx ?_
  simp only [qy]
  refine rg_move ?_
  simp only [qz]
  refine rg_assign ?_
  simp only [qz]
  refine rg_nil (ek_next (wk_ret (ek_block_ret (ek_then_ret (ek_then_ret (ek_block_ret (ek_then_ret ?_)))))))
  refine ek_ret (fun w hw => ⟨rfl, _, res_t _ rfl, ?_⟩)
  (try simp only [qz])
  exact ⟨(k : Int), rfl, by rw [allOk_false (k := k) Ox (by simpa using h2)]; simp, hw.below⟩

set_option maxRecDepth 100000 in
set_option maxHeartbeats 1000000 in
theorem contains_num (xs : List Nm) (a : Option Addr) (c : Nat) (hl : xs.length ≤ 1000000) (w : World) (hA : AS w a (nms xs)) : Calls Try.prog 171 #[.slice a xs.length c, .func (.func 172) #[] #[]] w fun e w' => e = .returned (.bool (!allOk xs)) ∧ Below w.heap.size w w' := by
  go_enter Try.func171, Try.ntmps171
  refine wk_start ?_
  refine wk_seq ?_
  refine wk_region [0] rfl Kx ?_
  simp only [qy]
  refine rg_assign ?_
  simp only [qz]
  refine rg_nil (ek_next (wk_seq ?_))
  refine wk_region [0, 0, 1, 0, 0] rfl Kx ?_
  simp only [qy]
  refine rg_move ?_
  simp only [qz]
  refine rg_move ?_
  simp only [qz]
  apply rg_call Rx Kx
  case hargs => exact Ax
  refine fun w hw => (index_num xs a c hl w (hA.kn0 hw)).mono ?_
  rintro e w' ⟨i, rfl, hi, hb⟩
  refine ⟨_, _, rfl, hw.call hb, Nz, ?_⟩
  simp only [qz]
  refine rf_geq rfl rfl rfl rfl rfl ?_
  simp only [qz]
  refine rg_assign ?_
  simp only [qz]
  refine rg_nil (ek_next (wk_ret ?_))
  refine ek_ret (fun w hw => ⟨rfl, _, res_t _ rfl, ?_⟩)
  (try simp only [qz])
  exact ⟨by rw [← hi], hw.below⟩

set_option maxRecDepth 100000 in
set_option maxHeartbeats 1000000 in
theorem numbers_any (xs : List Nm) (a : Option Addr) (c : Nat) (hl : xs.length ≤ 1000000) (w : World) (hA : AS w a (nms xs)) : Calls Try.prog 134 #[.slice a xs.length c] w fun e w' => e = .returned (.bool (allOk xs)) ∧ Below w.heap.size w w' := by
  go_enter Try.func134, Try.ntmps134
  refine wk_start ?_
  refine wk_seq ?_
  refine wk_region [0] rfl Kx ?_
  simp only [qy]
  refine rg_assign ?_
  simp only [qz]
  refine rg_nil (ek_next (wk_seq ?_))
  refine wk_region [0, 1, 0, 0] rfl Kx ?_
  simp only [qy]
  refine rg_move ?_
  simp only [qz]
  apply rg_pure Rx Kx
  case hargs => exact Ax
  case h => exact fun w hw => contains_num xs a c hl w (hA.kn0 hw)
  case hz => exact Nz
  simp only [qz]
  refine rf_not rfl rfl rfl ?_
  simp only [qz]
  refine rg_assign ?_
  simp only [qz]
  refine rg_nil (ek_next (wk_ret ?_))
  refine ek_ret (fun w hw => ⟨rfl, _, res_t _ rfl, ?_⟩)
  (try simp only [qz])
  exact ⟨by rw [Bool.not_not], hw.below⟩

theorem small_sq {n : Int} (h0 : 1 ≤ n) (h1 : n ≤ 6) : 1 ≤ n * n ∧ n * n ≤ 36 := by
  have : n = 1 ∨ n = 2 ∨ n = 3 ∨ n = 4 ∨ n = 5 ∨ n = 6 := by omega
  rcases this with rfl | rfl | rfl | rfl | rfl | rfl <;> decide
set_option maxRecDepth 100000 in
set_option maxHeartbeats 1000000 in
theorem mvalid_any (n : Int) (xs : List Nm) (a : Option Addr) (c : Nat) (hl : xs.length ≤ 1000000) (w : World) (hA : AS w a (nms xs)) : Calls Try.prog 77 #[.agg #[.int .i64 n, .slice a xs.length c]] w fun e w' => e = .returned (.bool (validB n xs)) ∧ Below w.heap.size w w' := by
  go_enter Try.func77, Try.ntmps77
  refine wk_start ?_
  refine wk_seq ?_
  refine wk_region [1, 0] rfl Kx ?_
  simp only [qy]
  refine Rgn fun g1 => ?_
  simp only [qz]
  refine rg_assign ?_
  simp only [qz]
  refine rg_nil (ek_next (wk_seq ?_))
  refine wk_region [0, 0, 0, 0, 0, 0, 0, 0, 0, 0, 0, 0, 0, 0, 0, 0, 0, 0, 0, 0, 0, 0, 1, 0, 0] rfl Kx ?_
  simp only [qy]
  refine rf_field (n := 0) (j := 0) rfl rfl rfl Try.underlying38 rfl Kx rfl ?_
  simp only [qz]
  refine rf_load rfl rfl rfl Try.underlying3 rfl (fun w hw => (Kn.hd0 hw).at rfl) ?_
  simp only [qz]
  refine rfb_geq rfl rfl rfl rfl ?_
  intro x h1
  cases x
  · (try simp only [qd, ne_eq] at h1)
    simp only [qz]
    refine rg_move ?_
    simp only [qz]
    refine rg_skip Rx ?_
    simp only [qz]
    refine rg_skip Rx ?_
    simp only [qz]
    refine rg_skip Rx ?_
    simp only [qz]
    refine rf_pick rfl rfl rfl ?_
    simp only [qz]
    refine rg_move ?_
    simp only [qz]
    refine rg_skip Rx ?_
    simp only [qz]
    refine rg_skip Rx ?_
    simp only [qz]
    refine rg_skip Rx ?_
    simp only [qz]
    refine rg_skip Rx ?_
    simp only [qz]
    refine rg_skip Rx ?_
    simp only [qz]
    refine rg_skip Rx ?_
    simp only [qz]
    refine rg_skip Rx ?_
    simp only [qz]
    refine rg_skip Rx ?_
    simp only [qz]
    refine rg_skip Rx ?_
    simp only [qz]
    refine rf_pick rfl rfl rfl ?_
    simp only [qz]
    refine rg_move ?_
    simp only [qz]
    refine rg_skip Rx ?_
    simp only [qz]
    refine rg_skip Rx ?_
    simp only [qz]
    refine rg_skip_h Rx Nz ?_
    simp only [qz]
    refine rf_pick rfl rfl rfl ?_
    simp only [qz]
    refine rg_assign ?_
    simp only [qz]
    refine rg_nil (ek_next (wk_ret ?_))
    refine ek_ret (fun w hw => ⟨rfl, _, res_t _ rfl, ?_⟩)
    (try simp only [qz])
    exact ⟨by unfold validB; simp [*] <;> (try omega), hw.below⟩
  (try simp only [qd, ne_eq] at h1)
  simp only [qz]
  refine rg_move ?_
  simp only [qz]
  refine rf_field (n := 0) (j := 0) rfl rfl rfl Try.underlying38 rfl Kx rfl ?_
  simp only [qz]
  refine rf_load rfl rfl rfl Try.underlying3 rfl (fun w hw => (Kn.hd0 hw).at rfl) ?_
  simp only [qz]
  refine rfb_leq rfl rfl rfl rfl ?_
  intro x h2
  cases x
  · (try simp only [qd, ne_eq] at h2)
    simp only [qz]
    refine rf_pick rfl rfl rfl ?_
    simp only [qz]
    refine rg_move ?_
    simp only [qz]
    refine rg_skip Rx ?_
    simp only [qz]
    refine rg_skip Rx ?_
    simp only [qz]
    refine rg_skip Rx ?_
    simp only [qz]
    refine rg_skip Rx ?_
    simp only [qz]
    refine rg_skip Rx ?_
    simp only [qz]
    refine rg_skip Rx ?_
    simp only [qz]
    refine rg_skip Rx ?_
    simp only [qz]
    refine rg_skip Rx ?_
    simp only [qz]
    refine rg_skip Rx ?_
    simp only [qz]
    refine rf_pick rfl rfl rfl ?_
    simp only [qz]
    refine rg_move ?_
    simp only [qz]
    refine rg_skip Rx ?_
    simp only [qz]
    refine rg_skip Rx ?_
    simp only [qz]
    refine rg_skip_h Rx Nz ?_
    simp only [qz]
    refine rf_pick rfl rfl rfl ?_
    simp only [qz]
    refine rg_assign ?_
    simp only [qz]
    refine rg_nil (ek_next (wk_ret ?_))
    refine ek_ret (fun w hw => ⟨rfl, _, res_t _ rfl, ?_⟩)
    (try simp only [qz])
    exact ⟨by unfold validB; simp [*] <;> (try omega), hw.below⟩
  (try simp only [qd, ne_eq] at h2)
  simp only [qz]
  refine rf_pick rfl rfl rfl ?_
  simp only [qz]
  refine rg_move ?_
  simp only [qz]
  refine rf_field (n := 0) (j := 1) rfl rfl rfl Try.underlying38 rfl Kx rfl ?_
  simp only [qz]
  refine rf_load rfl rfl rfl Try.underlying36 rfl (fun w hw => (Kn.hd0 hw).at rfl) ?_
  simp only [qz]
  refine rf_len rfl rfl rfl Try.underlying36 ?_
  simp only [qz]
  refine rf_field (n := 0) (j := 0) rfl rfl rfl Try.underlying38 rfl Kx rfl ?_
  simp only [qz]
  refine rf_load rfl rfl rfl Try.underlying3 rfl (fun w hw => (Kn.hd0 hw).at rfl) ?_
  simp only [qz]
  refine rf_field (n := 0) (j := 0) rfl rfl rfl Try.underlying38 rfl Kx rfl ?_
  simp only [qz]
  refine rf_load rfl rfl rfl Try.underlying3 rfl (fun w hw => (Kn.hd0 hw).at rfl) ?_
  simp only [qz]
  have hnn := small_sq (n := n) Ox Ox
  refine rf_mul rfl rfl rfl rfl (wrap_ok Ox Ox) ?_
  simp only [qz]
  refine rfb_eql rfl rfl rfl rfl ?_
  intro x h3
  cases x
  · (try simp only [qd, ne_eq] at h3)
    simp only [qz]
    refine rf_pick rfl rfl rfl ?_
    simp only [qz]
    refine rg_move ?_
    simp only [qz]
    refine rg_skip Rx ?_
    simp only [qz]
    refine rg_skip Rx ?_
    simp only [qz]
    refine rg_skip_h Rx Nz ?_
    simp only [qz]
    refine rf_pick rfl rfl rfl ?_
    simp only [qz]
    refine rg_assign ?_
    simp only [qz]
    refine rg_nil (ek_next (wk_ret ?_))
    refine ek_ret (fun w hw => ⟨rfl, _, res_t _ rfl, ?_⟩)
    (try simp only [qz])
    exact ⟨by unfold validB; simp [*] <;> (try omega), hw.below⟩
  (try simp only [qd, ne_eq] at h3)
  simp only [qz]
  refine rf_pick rfl rfl rfl ?_
  simp only [qz]
  refine rg_move ?_
  simp only [qz]
  refine rf_field (n := 0) (j := 1) rfl rfl rfl Try.underlying38 rfl Kx rfl ?_
  simp only [qz]
  refine rf_load rfl rfl rfl Try.underlying36 rfl (fun w hw => (Kn.hd0 hw).at rfl) ?_
  simp only [qz]
  apply rg_pure Rx Kx
  case hargs => exact Ax
  case h => exact fun w hw => numbers_any xs a c hl w (hA.kn0 hw)
  case hz => exact Nz
  simp only [qz]
  refine rf_pick rfl rfl rfl ?_
  simp only [qz]
  refine rg_assign ?_
  simp only [qz]
  refine rg_nil (ek_next (wk_ret ?_))
  refine ek_ret (fun w hw => ⟨rfl, _, res_t _ rfl, ?_⟩)
  (try simp only [qz])
  exact ⟨by unfold validB; simp [*] <;> (try omega), hw.below⟩

set_option maxRecDepth 100000 in
set_option maxHeartbeats 1000000 in
theorem rmvalid_any (n : Int) (xs : List Nm) (a : Option Addr) (c : Nat) (hl : xs.length ≤ 1000000) (w : World) (hA : AS w a (nms xs)) : Calls Try.prog 65 #[.agg #[.int .i64 n, .slice a xs.length c]] w fun e w' => e = .returned (.bool (validB n xs)) ∧ Below w.heap.size w w' := by
  go_enter Try.func65, Try.ntmps65
  refine wk_start ?_
  refine wk_seq ?_
  refine wk_region [1, 0] rfl Kx ?_
  simp only [qy]
  refine Rgn fun g1 => ?_
  simp only [qz]
  refine rg_assign ?_
  simp only [qz]
  refine rg_nil (ek_next (wk_seq (wk_seq ?_)))
  refine wk_region [0, 0, 0, 0, 0, 0, 0, 0, 0, 0, 0, 0, 0, 0, 0, 0, 0, 0, 0] rfl Kx ?_
  simp only [qy]
  refine rf_field (n := 0) (j := 0) rfl rfl rfl Try.underlying38 rfl Kx rfl ?_
  simp only [qz]
  refine rf_load rfl rfl rfl Try.underlying3 rfl (fun w hw => (Kn.hd0 hw).at rfl) ?_
  simp only [qz]
  refine rfb_lss rfl rfl rfl rfl ?_
  intro x h1
  cases x
  · (try simp only [qd, ne_eq] at h1)
    simp only [qz]
    refine rg_move ?_
    simp only [qz]
    refine rf_field (n := 0) (j := 0) rfl rfl rfl Try.underlying38 rfl Kx rfl ?_
    simp only [qz]
    refine rf_load rfl rfl rfl Try.underlying3 rfl (fun w hw => (Kn.hd0 hw).at rfl) ?_
    simp only [qz]
    refine rfb_gtr rfl rfl rfl rfl ?_
    intro x h2
    cases x
    · (try simp only [qd, ne_eq] at h2)
      simp only [qz]
      refine rf_pick rfl rfl rfl ?_
      simp only [qz]
      refine rg_move ?_
      simp only [qz]
      refine rf_field (n := 0) (j := 1) rfl rfl rfl Try.underlying38 rfl Kx rfl ?_
      simp only [qz]
      refine rf_load rfl rfl rfl Try.underlying36 rfl (fun w hw => (Kn.hd0 hw).at rfl) ?_
      simp only [qz]
      refine rf_len rfl rfl rfl Try.underlying36 ?_
      simp only [qz]
      refine rf_field (n := 0) (j := 0) rfl rfl rfl Try.underlying38 rfl Kx rfl ?_
      simp only [qz]
      refine rf_load rfl rfl rfl Try.underlying3 rfl (fun w hw => (Kn.hd0 hw).at rfl) ?_
      simp only [qz]
      refine rf_field (n := 0) (j := 0) rfl rfl rfl Try.underlying38 rfl Kx rfl ?_
      simp only [qz]
      refine rf_load rfl rfl rfl Try.underlying3 rfl (fun w hw => (Kn.hd0 hw).at rfl) ?_
      simp only [qz]
      have hnn := small_sq (n := n) Ox Ox
      refine rf_mul rfl rfl rfl rfl (wrap_ok Ox Ox) ?_
      simp only [qz]
      refine rfb_neq rfl rfl rfl rfl ?_
      intro x h3
      cases x
      · (try simp only [qd, ne_eq] at h3)
        simp only [qz]
        refine rf_pick rfl rfl rfl ?_
        simp only [qz]
        refine rg_nil (ek_next (wk_cond_f rfl (wk_skip (ek_next (wk_seq (wk_seq ?_))))))
        refine wk_region [0] rfl Kx ?_
        simp only [qy]
        refine rg_assign ?_
        simp only [qz]
        refine rg_nil (ek_next (wk_block ?_))
        refine wk_loopF [2, 3, 23, 24, 25, 26, 27, 28, 29, 30, 31, 32, 33, 34, 35, 36] (fun mz f s => ∃ (k : Nat), f 2 = .bool false ∧ f 3 = .int .i64 k ∧ s = ((g1, .cells #[.int .i64 n, .slice a xs.length c] 38) :: []) ∧ mz = xs.length - k ∧ k ≤ xs.length ∧ (∀ j, j < k → (nm xs j).okB = true)) ((fun (k : Nat) => xs.length - k) (0)) ?_ Kx ?_
        · exact ⟨0, rfl, rfl, rfl, rfl, by omega, fun j hj => by omega⟩
        rintro mz f1 s ⟨k, hs1_2, hs1_3, rfl, hn, hd1, hd2⟩
        simp only [Act.putF, List.foldl_cons, List.foldl_nil, hs1_2, hs1_3, Act.put, Act.eval, q1, q2, q3, q4, q5, q6, q7, q8, q9, q10, q11, q12, q13, q14, q15, q16, q17, q18, Nat.reduceAdd, Bool.not_true, Bool.not_false]
        clear hs1_2 hs1_3
        refine wk_seq (wk_seq ?_)
        refine wk_region [0, 0, 0, 0, 0] rfl Kx ?_
        simp only [qy]
        refine rg_move ?_
        simp only [qz]
        refine rf_field (n := 0) (j := 1) rfl rfl rfl Try.underlying38 rfl Kx rfl ?_
        simp only [qz]
        refine rf_load rfl rfl rfl Try.underlying36 rfl (fun w hw => (Kn.hd0 hw).at rfl) ?_
        simp only [qz]
        refine rf_len rfl rfl rfl Try.underlying36 ?_
        simp only [qz]
        refine rfb_lss rfl rfl rfl rfl ?_
        intro x h4
        cases x
        · (try simp only [qd, ne_eq] at h4)
          simp only [qz]
          refine rg_nil (ek_next (wk_cond_f rfl (wk_exit (ek_then_exit (ek_then_exit (ek_block_exit (ek_next (wk_seq ?_))))))))
          refine wk_region [0] rfl Kx ?_
          simp only [qy]
          refine rg_assign ?_
          simp only [qz]
          refine rg_nil (ek_next (wk_ret ?_))
          refine ek_ret (fun w hw => ⟨rfl, _, res_t _ rfl, ?_⟩)
          (try simp only [qz])
          exact ⟨by unfold validB; rw [allOk_true (fun j hj => hd2 j Ox)]; simp [*] <;> omega, hw.below⟩
        (try simp only [qd, ne_eq] at h4)
        simp only [qz]
        obtain ⟨b, off, ha, hlt, hcell⟩ := AS.openN hA Ox
        subst ha
        refine rg_nil (ek_next (wk_cond_t rfl (wk_skip (ek_next (wk_seq (wk_block (wk_seq ?_)))))))
        refine wk_region [0, 0, 0, 0, 0, 1, 0] rfl Kx ?_
        simp only [qy]
        refine rf_field (n := 0) (j := 1) rfl rfl rfl Try.underlying38 rfl Kx rfl ?_
        simp only [qz]
        refine rf_load rfl rfl rfl Try.underlying36 rfl (fun w hw => (Kn.hd0 hw).at rfl) ?_
        simp only [qz]
        refine rg_move ?_
        simp only [qz]
        refine rf_indexS (n := k) (sz := 5) (j := off + k * 5) rfl rfl rfl rfl Try.underlying36 Kx Ox Ox rfl ?_
        simp only [qz]
        refine rf_loadC (n := 5) (vs := [.int .i64 (nm xs k).a, .int .i64 (nm xs k).b, .int .i64 (nm xs k).c, .int .i64 (nm xs k).d, .int .i64 (nm xs k).k]) rfl rfl rfl Try.underlying45 rfl Kx rfl (fun w hw => atN_range ((hcell k Ox).kn hw hlt (by simp))) ?_
        simp only [qz]
        apply rg_pureb Rx Kx
        case hargs => exact Ax
        case h => exact fun w hw => rValidNum_any (nm xs k) w
        case hz => exact Nz
        intro x h5
        cases x
        · (try simp only [qd, ne_eq] at h5)
          simp only [qz]
          refine rf_not rfl rfl rfl ?_
          simp only [qz]
          refine rg_nil (ek_next (wk_cond_t rfl (wk_seq ?_)))
          refine wk_region [0] rfl Kx ?_
          simp only [qy]
          refine rg_assign ?_
          simp only [qz]
          refine rg_nil (ek_next (wk_ret (ek_block_ret (ek_then_ret (ek_then_ret (ek_block_ret (ek_then_ret ?_)))))))
          refine ek_ret (fun w hw => ⟨rfl, _, res_t _ rfl, ?_⟩)
          (try simp only [qz])
          exact ⟨by unfold validB; rw [allOk_false (k := k) Ox h5]; simp, hw.below⟩
        (try simp only [qd, ne_eq] at h5)
        simp only [qz]
        refine rf_not rfl rfl rfl ?_
        simp only [qz]
        refine rg_nil (ek_next (wk_cond_f rfl (wk_skip (ek_block (ek_next ?_)))))
        refine wk_region [0, 0, 0] rfl Kx ?_
        simp only [qy]
        refine rg_move ?_
        simp only [qz]
        refine rf_add rfl rfl rfl rfl (wrap_ok Ox Ox) ?_
        simp only [qz]
        refine rg_assign ?_
        simp only [qz]
        refine rg_nil ?_
        refine ek_roundF (xs.length - (k + 1)) Ox Kx ?_
        exact ⟨k + 1, rfl, rfl, by rfl, by rfl, by omega, (fun j hj => by rcases (by omega : j < k ∨ j = k) with h | rfl; exact hd2 j h; exact h5)⟩
      (try simp only [qd, ne_eq] at h3)
      simp only [qz]
      refine rf_pick rfl rfl rfl ?_
      simp only [qz]
      refine rg_nil (ek_next (wk_cond_t rfl (wk_seq ?_)))
      refine wk_region [0] rfl Kx ?_
      simp only [qy]
      refine rg_assign ?_
      simp only [qz]
      refine rg_nil (ek_next (wk_ret (ek_then_ret ?_)))
      refine ek_ret (fun w hw => ⟨rfl, _, res_t _ rfl, ?_⟩)
      (try simp only [qz])
      exact ⟨by unfold validB; simp [*] <;> (try omega), hw.below⟩
    (try simp only [qd, ne_eq] at h2)
    simp only [qz]
    refine rf_pick rfl rfl rfl ?_
    simp only [qz]
    refine rg_move ?_
    simp only [qz]
    refine rg_skip Rx ?_
    simp only [qz]
    refine rg_skip Rx ?_
    simp only [qz]
    refine rg_skip Rx ?_
    simp only [qz]
    refine rg_skip Rx ?_
    simp only [qz]
    refine rg_skip Rx ?_
    simp only [qz]
    refine rg_skip Rx ?_
    simp only [qz]
    refine rg_skip Rx ?_
    simp only [qz]
    refine rg_skip Rx ?_
    simp only [qz]
    refine rg_skip Rx ?_
    simp only [qz]
    refine rf_pick rfl rfl rfl ?_
    simp only [qz]
    refine rg_nil (ek_next (wk_cond_t rfl (wk_seq ?_)))
    refine wk_region [0] rfl Kx ?_
    simp only [qy]
    refine rg_assign ?_
    simp only [qz]
    refine rg_nil (ek_next (wk_ret (ek_then_ret ?_)))
    refine ek_ret (fun w hw => ⟨rfl, _, res_t _ rfl, ?_⟩)
    (try simp only [qz])
    exact ⟨by unfold validB; simp [*] <;> (try omega), hw.below⟩
  (try simp only [qd, ne_eq] at h1)
  simp only [qz]
  refine rg_move ?_
  simp only [qz]
  refine rg_skip Rx ?_
  simp only [qz]
  refine rg_skip Rx ?_
  simp only [qz]
  refine rg_skip Rx ?_
  simp only [qz]
  refine rf_pick rfl rfl rfl ?_
  simp only [qz]
  refine rg_move ?_
  simp only [qz]
  refine rg_skip Rx ?_
  simp only [qz]
  refine rg_skip Rx ?_
  simp only [qz]
  refine rg_skip Rx ?_
  simp only [qz]
  refine rg_skip Rx ?_
  simp only [qz]
  refine rg_skip Rx ?_
  simp only [qz]
  refine rg_skip Rx ?_
  simp only [qz]
  refine rg_skip Rx ?_
  simp only [qz]
  refine rg_skip Rx ?_
  simp only [qz]
  refine rg_skip Rx ?_
  simp only [qz]
  refine rf_pick rfl rfl rfl ?_
  simp only [qz]
  refine rg_nil (ek_next (wk_cond_t rfl (wk_seq ?_)))
  refine wk_region [0] rfl Kx ?_
  simp only [qy]
  refine rg_assign ?_
  simp only [qz]
  refine rg_nil (ek_next (wk_ret (ek_then_ret ?_)))
  refine ek_ret (fun w hw => ⟨rfl, _, res_t _ rfl, ?_⟩)
  (try simp only [qz])
  exact ⟨by unfold validB; simp [*] <;> (try omega), hw.below⟩

end Go.Proofs.Ytccbinnlnkpplaa
