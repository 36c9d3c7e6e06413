/- Texts in one: Mx1, Mob, ChPl, Rt, RtR, Pt0, WdPl, Add64, Sub64, WtP, Xi, VaPl, PeDo, R4, Mx2, Ws4, Mt1, BgPl, Bg, Bg1, Bg2. -/
import Derived.Test.YthjjkajjpejcdaaGreatLTpB
import Derived.OrdersIn
import Derived.Shelf.Spec.BitsCarry
namespace Go.Proofs.YthjjkajjpejcdaaGreat
set_option linter.all false
set_option maxRecDepth 100000
set_option maxHeartbeats 1000000
open Go.RowKit
def allOk (xs : List Nm) : Bool := xs.all Nm.okB
def validB (n : Int) (xs : List Nm) : Bool := decide (1 ≤ n) && (decide (n ≤ 6) && (decide ((xs.length : Int) = n * n) && allOk xs))
theorem allOk_false {xs : List Nm} {k : Nat} (hk : k < xs.length) (h : (nm xs k).okB = false) : allOk xs = false := by
 unfold allOk
 rw [List.all_eq_false]
 exact ⟨nm xs k, NmE.at_mem hk, by rw [h]; decide⟩
theorem allOk_true {xs : List Nm} (h : ∀ k, k < xs.length → (nm xs k).okB = true) : allOk xs = true := by
 unfold allOk
 rw [List.all_eq_true]
 intro z hz
 obtain ⟨k, hk, rfl⟩ := List.getElem_of_mem hz
 have := h k hk
 unfold nm El.at at this
 rwa [List.getD_eq_getElem?_getD, List.getElem?_eq_getElem hk] at this
theorem ok_at {xs : List Nm} (h : allOk xs = true) {k : Nat} (hk : k < xs.length) : (nm xs k).Ok := okB_iff.1 (List.all_eq_true.1 h _ (NmE.at_mem hk))
def evB (z : Nm) : Bool := decide ((z.a + z.c) % 2 = 0) && decide ((z.b + z.d) % 2 = 0)
theorem okB_alt (z : Nm) : z.okB = (decide (-1000000000 ≤ z.a ∧ z.a ≤ 1000000000 ∧ -1000000000 ≤ z.b ∧ z.b ≤ 1000000000 ∧ -1000000000 ≤ z.c ∧ z.c ≤ 1000000000 ∧ -1000000000 ≤ z.d ∧ z.d ≤ 1000000000) && (decide (0 ≤ z.k) && (decide (z.k ≤ 40) && (decide (z.k = 0) || !evB z)))) := by
 rw [Bool.eq_iff_iff, okB_iff]
 simp only [evB, Bool.and_eq_true, Bool.or_eq_true, decide_eq_true_eq, Bool.not_eq_true', Bool.and_eq_false_iff, decide_eq_false_iff_not]
 constructor
 ·rintro ⟨⟨h1, h2, h3, h4, h5, h6, h7, h8⟩, h9, h10, h11⟩
  refine ⟨⟨h1, h2, h3, h4, h5, h6, h7, h8⟩, h9, h10, ?_⟩; simp only [Nm.even] at h11
  omega
 rintro ⟨⟨h1, h2, h3, h4, h5, h6, h7, h8⟩, h9, h10, h11⟩
 refine ⟨⟨h1, h2, h3, h4, h5, h6, h7, h8⟩, h9, h10, ?_⟩
 simp only [Nm.even]
 omega
abbrev rngP (z : Nm) : Prop := -1000000000 ≤ z.a ∧ z.a ≤ 1000000000 ∧ -1000000000 ≤ z.b ∧ z.b ≤ 1000000000 ∧ -1000000000 ≤ z.c ∧ z.c ≤ 1000000000 ∧ -1000000000 ≤ z.d ∧ z.d ≤ 1000000000
theorem okB_rest {z : Nm} (h : rngP z) (h0 : 0 ≤ z.k) (h1 : z.k ≤ 40) : z.okB = (decide (z.k = 0) || !evB z) := by
 rw [okB_alt, decide_eq_true h, decide_eq_true h0, decide_eq_true h1]; rfl
theorem okB_no {z : Nm} (h : ¬ (rngP z ∧ 0 ≤ z.k ∧ z.k ≤ 40)) : z.okB = false := by
 rw [okB_alt]
 by_cases h1 : rngP z
 ·by_cases h2 : 0 ≤ z.k
  ·rw [decide_eq_false (p := z.k ≤ 40) (fun h3 => h ⟨h1, h2, h3⟩)]; simp
  rw [decide_eq_false h2]; simp
 rw [decide_eq_false h1]; rfl
theorem tmod2 (n : Int) : n.tmod 2 = 0 ↔ n % 2 = 0 := by
 rcases Int.le_total 0 n with h | h
 ·rw [Int.tmod_eq_emod_of_nonneg h]
 have e := Int.neg_tmod (-n) 2
 rw [Int.neg_neg, Int.tmod_eq_emod_of_nonneg (show 0 ≤ -n by omega)] at e
 omega
theorem rValidNum_any (z : Nm) (w : World) : Calls Tryz.prog 11 #[nmV z] w fun e w' => e = .returned (.bool z.okB) ∧ Below w.heap.size w w' := by
 go_enter Tryz.func11, Tryz.ntmps11
 refine wk_start ?_
 refine wk_seq ?_
 refine Wr [1, 0] ?_
 refine Rgn fun g1 => ?_
 refine Zx ?_
 refine Zr ?_
 refine Wx [0] ?_
 refine rg_nil (ek_next (wk_block ?_))
 refine wk_unroll 4 ?_
 refine wk_seq (wk_seq ?_)
 refine Wx [0, 0] ?_
 refine rf_lss (b := true) rfl rfl rfl rfl (by decide) (Nq ?_)
 refine Zr ?_
 refine Wx [0, 0, 0, 0, 0, 0, 0, 0, 0, 0, 0, 0] ?_
 refine Fd 3 0 UU44 ?_
 refine Ia 0 1 0 UU42 ?_
 refine rf_load rfl rfl rfl UU3 rfl (fun w hw => (Kn.hd0 hw).at rfl) (Nq ?_)
 refine rfb_lss rfl rfl rfl rfl ?_
 rintro (_ | _) h1 <;> try simp only [qd, ne_eq] at h1
 ·refine Zx ?_
  apply rg_soft_g
  case hg => rfl
  case hy => (intro w hw; exact Gy)
  simp only [qz]; refine Fd 3 0 UU44 ?_; refine Ia 0 1 0 UU42 ?_; refine rf_load rfl rfl rfl UU3 rfl (fun w hw => (Kn.hd0 hw).at rfl) (Nq ?_); refine rfb_gtr rfl rfl rfl rfl ?_
  rintro (_ | _) h2 <;> try simp only [qd, ne_eq] at h2
  ·refine Zx ?_
   refine Zr ?_; refine Wx [0, 0, 0] ?_; refine rf_add (r := 1) rfl rfl rfl rfl (by decide) (Zx ?_); refine Zr ?_; refine Wx [0, 0] ?_; refine rf_lss (b := true) rfl rfl rfl rfl (by decide) (Nq ?_); refine Zr ?_; refine Wx [0, 0, 0, 0, 0, 0, 0, 0, 0, 0, 0, 0] ?_; refine Fd 3 0 UU44 ?_; refine Ia 1 1 1 UU42 ?_; refine rf_load rfl rfl rfl UU3 rfl (fun w hw => (Kn.hd0 hw).at rfl) (Nq ?_)
   refine rfb_lss rfl rfl rfl rfl ?_
   rintro (_ | _) h3 <;> try simp only [qd, ne_eq] at h3
   ·refine Zx ?_
    apply rg_soft_g
    case hg => rfl
    case hy => (intro w hw; exact Gy)
    simp only [qz]; refine Fd 3 0 UU44 ?_; refine Ia 1 1 1 UU42 ?_; refine rf_load rfl rfl rfl UU3 rfl (fun w hw => (Kn.hd0 hw).at rfl) (Nq ?_); refine rfb_gtr rfl rfl rfl rfl ?_
    rintro (_ | _) h4 <;> try simp only [qd, ne_eq] at h4
    ·refine Zx ?_
     refine Zr ?_; refine Wx [0, 0, 0] ?_; refine rf_add (r := 2) rfl rfl rfl rfl (by decide) (Zx ?_); refine Zr ?_; refine Wx [0, 0] ?_; refine rf_lss (b := true) rfl rfl rfl rfl (by decide) (Nq ?_); refine Zr ?_; refine Wx [0, 0, 0, 0, 0, 0, 0, 0, 0, 0, 0, 0] ?_; refine Fd 3 0 UU44 ?_; refine Ia 2 1 2 UU42 ?_; refine rf_load rfl rfl rfl UU3 rfl (fun w hw => (Kn.hd0 hw).at rfl) (Nq ?_)
     refine rfb_lss rfl rfl rfl rfl ?_
     rintro (_ | _) h5 <;> try simp only [qd, ne_eq] at h5
     ·refine Zx ?_
      apply rg_soft_g
      case hg => rfl
      case hy => (intro w hw; exact Gy)
      simp only [qz]; refine Fd 3 0 UU44 ?_; refine Ia 2 1 2 UU42 ?_; refine rf_load rfl rfl rfl UU3 rfl (fun w hw => (Kn.hd0 hw).at rfl) (Nq ?_); refine rfb_gtr rfl rfl rfl rfl ?_
      rintro (_ | _) h6 <;> try simp only [qd, ne_eq] at h6
      ·refine Zx ?_
       refine Zr ?_; refine Wx [0, 0, 0] ?_; refine rf_add (r := 3) rfl rfl rfl rfl (by decide) (Zx ?_); refine Zr ?_; refine Wx [0, 0] ?_; refine rf_lss (b := true) rfl rfl rfl rfl (by decide) (Nq ?_); refine Zr ?_; refine Wx [0, 0, 0, 0, 0, 0, 0, 0, 0, 0, 0, 0] ?_; refine Fd 3 0 UU44 ?_; refine Ia 3 1 3 UU42 ?_; refine rf_load rfl rfl rfl UU3 rfl (fun w hw => (Kn.hd0 hw).at rfl) (Nq ?_)
       refine rfb_lss rfl rfl rfl rfl ?_
       rintro (_ | _) h7 <;> try simp only [qd, ne_eq] at h7
       ·refine Zx ?_
        apply rg_soft_g
        case hg => rfl
        case hy => (intro w hw; exact Gy)
        simp only [qz]; refine Fd 3 0 UU44 ?_; refine Ia 3 1 3 UU42 ?_; refine rf_load rfl rfl rfl UU3 rfl (fun w hw => (Kn.hd0 hw).at rfl) (Nq ?_); refine rfb_gtr rfl rfl rfl rfl ?_
        rintro (_ | _) h8 <;> try simp only [qd, ne_eq] at h8
        ·refine Zx ?_
         refine Zr ?_; refine Wx [0, 0, 0] ?_; refine rf_add (r := 4) rfl rfl rfl rfl (by decide) (Zx ?_); refine Zr ?_; refine Wx [0, 0] ?_; refine rf_lss (b := false) rfl rfl rfl rfl (by decide) (Nq ?_); refine Zr ?_; refine Wr [0, 0, 0, 0, 0, 0, 0, 0] ?_; refine Fd 0 4 UU44 ?_; refine rf_load rfl rfl rfl UU3 rfl (fun w hw => (Kn.hd0 hw).at rfl) (Nq ?_); refine rfb_lss rfl rfl rfl rfl ?_
         rintro (_ | _) h9 <;> try simp only [qd, ne_eq] at h9
         ·refine Zx ?_
          refine Fd 0 4 UU44 ?_; refine rf_load rfl rfl rfl UU3 rfl (fun w hw => (Kn.hd0 hw).at rfl) (Nq ?_); refine rfb_gtr rfl rfl rfl rfl ?_
          rintro (_ | _) h10 <;> try simp only [qd, ne_eq] at h10
          ·refine Zx ?_
           refine Zr ?_; refine Wr [0, 0, 0, 0, 0, 0, 0, 0, 0, 0, 0, 0, 0, 0, 0, 0, 0, 0, 0, 0, 0, 0, 0, 0, 0, 0] ?_; refine Fd 0 4 UU44 ?_; refine rf_load rfl rfl rfl UU3 rfl (fun w hw => (Kn.hd0 hw).at rfl) (Nq ?_); refine rfb_eql rfl rfl rfl rfl ?_
           rintro (_ | _) h11 <;> try simp only [qd, ne_eq] at h11
           ·refine Zx ?_
            refine Fd 3 0 UU44 ?_; refine Ia 0 1 0 UU42 ?_; refine rf_load rfl rfl rfl UU3 rfl (fun w hw => (Kn.hd0 hw).at rfl) (Nq ?_); refine Fd 3 0 UU44 ?_; refine Ia 2 1 2 UU42 ?_; refine rf_load rfl rfl rfl UU3 rfl (fun w hw => (Kn.hd0 hw).at rfl) (Nq ?_); refine rf_add rfl rfl rfl rfl (wrap_ok Ox Ox) (Nq ?_); refine rf_rem (r := (z.a + z.c).tmod 2) rfl rfl rfl rfl (by decide) rfl (Nq ?_)
            refine rfb_neq rfl rfl rfl rfl ?_
            rintro (_ | _) h12 <;> try simp only [qd, ne_eq] at h12
            ·refine Zx ?_
             refine Fd 3 0 UU44 ?_; refine Ia 1 1 1 UU42 ?_; refine rf_load rfl rfl rfl UU3 rfl (fun w hw => (Kn.hd0 hw).at rfl) (Nq ?_); refine Fd 3 0 UU44 ?_; refine Ia 3 1 3 UU42 ?_; refine rf_load rfl rfl rfl UU3 rfl (fun w hw => (Kn.hd0 hw).at rfl) (Nq ?_); refine rf_add rfl rfl rfl rfl (wrap_ok Ox Ox) (Nq ?_); refine rf_rem (r := (z.b + z.d).tmod 2) rfl rfl rfl rfl (by decide) rfl (Nq ?_)
             refine rf_neq rfl rfl rfl rfl rfl (Zx ?_); refine Zr ?_
             refine Er fun w hw => ?_
             (try simp only [qz])
             exact ⟨by first | rw [okB_no Ox] | (rw [okB_rest Ox Ox Ox]; unfold evB; (try simp only [ne_eq, tmod2] at *); by_cases hA : (z.a + z.c) % 2 = 0 <;> by_cases hB : (z.b + z.d) % 2 = 0 <;> simp_all [tmod2]), hw.below⟩
            refine Zx ?_; refine Zr ?_
            refine Er fun w hw => ?_
            (try simp only [qz])
            exact ⟨by first | rw [okB_no Ox] | (rw [okB_rest Ox Ox Ox]; unfold evB; (try simp only [ne_eq, tmod2] at *); by_cases hA : (z.a + z.c) % 2 = 0 <;> by_cases hB : (z.b + z.d) % 2 = 0 <;> simp_all [tmod2]), hw.below⟩
           refine Zx ?_; refine Zr ?_
           refine Er fun w hw => ?_
           (try simp only [qz])
           exact ⟨by first | rw [okB_no Ox] | (rw [okB_rest Ox Ox Ox]; unfold evB; (try simp only [ne_eq, tmod2] at *); by_cases hA : (z.a + z.c) % 2 = 0 <;> by_cases hB : (z.b + z.d) % 2 = 0 <;> simp_all [tmod2]), hw.below⟩
          refine Zx ?_; refine Zr ?_; refine Wx [0] ?_; refine Zr ?_
          refine Er fun w hw => ?_
          (try simp only [qz])
          exact ⟨by first | rw [okB_no Ox] | (rw [okB_rest Ox Ox Ox]; unfold evB; (try simp only [ne_eq, tmod2] at *); by_cases hA : (z.a + z.c) % 2 = 0 <;> by_cases hB : (z.b + z.d) % 2 = 0 <;> simp_all [tmod2]), hw.below⟩
         refine Zx ?_; refine Zr ?_; refine Wx [0] ?_; refine Zr ?_
         refine Er fun w hw => ?_
         (try simp only [qz])
         exact ⟨by first | rw [okB_no Ox] | (rw [okB_rest Ox Ox Ox]; unfold evB; (try simp only [ne_eq, tmod2] at *); by_cases hA : (z.a + z.c) % 2 = 0 <;> by_cases hB : (z.b + z.d) % 2 = 0 <;> simp_all [tmod2]), hw.below⟩
        refine Zx ?_; refine Zr ?_; refine Wx [0] ?_; refine Zr ?_
        refine Er fun w hw => ?_
        (try simp only [qz])
        exact ⟨by first | rw [okB_no Ox] | (rw [okB_rest Ox Ox Ox]; unfold evB; (try simp only [ne_eq, tmod2] at *); by_cases hA : (z.a + z.c) % 2 = 0 <;> by_cases hB : (z.b + z.d) % 2 = 0 <;> simp_all [tmod2]), hw.below⟩
       refine Zx ?_; refine Zr ?_; refine Wx [0] ?_; refine Zr ?_
       refine Er fun w hw => ?_
       (try simp only [qz])
       exact ⟨by first | rw [okB_no Ox] | (rw [okB_rest Ox Ox Ox]; unfold evB; (try simp only [ne_eq, tmod2] at *); by_cases hA : (z.a + z.c) % 2 = 0 <;> by_cases hB : (z.b + z.d) % 2 = 0 <;> simp_all [tmod2]), hw.below⟩
      refine Zx ?_; refine Zr ?_; refine Wx [0] ?_; refine Zr ?_
      refine Er fun w hw => ?_
      (try simp only [qz])
      exact ⟨by first | rw [okB_no Ox] | (rw [okB_rest Ox Ox Ox]; unfold evB; (try simp only [ne_eq, tmod2] at *); by_cases hA : (z.a + z.c) % 2 = 0 <;> by_cases hB : (z.b + z.d) % 2 = 0 <;> simp_all [tmod2]), hw.below⟩
     refine Zx ?_; refine Zr ?_; refine Wx [0] ?_; refine Zr ?_
     refine Er fun w hw => ?_
     (try simp only [qz])
     exact ⟨by first | rw [okB_no Ox] | (rw [okB_rest Ox Ox Ox]; unfold evB; (try simp only [ne_eq, tmod2] at *); by_cases hA : (z.a + z.c) % 2 = 0 <;> by_cases hB : (z.b + z.d) % 2 = 0 <;> simp_all [tmod2]), hw.below⟩
    refine Zx ?_; refine Zr ?_; refine Wx [0] ?_; refine Zr ?_
    refine Er fun w hw => ?_
    (try simp only [qz])
    exact ⟨by first | rw [okB_no Ox] | (rw [okB_rest Ox Ox Ox]; unfold evB; (try simp only [ne_eq, tmod2] at *); by_cases hA : (z.a + z.c) % 2 = 0 <;> by_cases hB : (z.b + z.d) % 2 = 0 <;> simp_all [tmod2]), hw.below⟩
   refine Zx ?_; refine Zr ?_; refine Wx [0] ?_; refine Zr ?_
   refine Er fun w hw => ?_
   (try simp only [qz])
   exact ⟨by first | rw [okB_no Ox] | (rw [okB_rest Ox Ox Ox]; unfold evB; (try simp only [ne_eq, tmod2] at *); by_cases hA : (z.a + z.c) % 2 = 0 <;> by_cases hB : (z.b + z.d) % 2 = 0 <;> simp_all [tmod2]), hw.below⟩
  refine Zx ?_; refine Zr ?_; refine Wx [0] ?_; refine Zr ?_
  refine Er fun w hw => ?_
  (try simp only [qz])
  exact ⟨by first | rw [okB_no Ox] | (rw [okB_rest Ox Ox Ox]; unfold evB; (try simp only [ne_eq, tmod2] at *); by_cases hA : (z.a + z.c) % 2 = 0 <;> by_cases hB : (z.b + z.d) % 2 = 0 <;> simp_all [tmod2]), hw.below⟩
 refine Zx ?_
 refine Zr ?_
 refine Wx [0] ?_
 refine Zr ?_
 refine Er fun w hw => ?_
 (try simp only [qz])
 exact ⟨by first | rw [okB_no Ox] | (rw [okB_rest Ox Ox Ox]; unfold evB; (try simp only [ne_eq, tmod2] at *); by_cases hA : (z.a + z.c) % 2 = 0 <;> by_cases hB : (z.b + z.d) % 2 = 0 <;> simp_all [tmod2]), hw.below⟩
theorem numbers1_any (z : Nm) (w : World) : Calls Tryz.prog 122 #[nmV z] w fun e w' => e = .returned (.bool (!z.okB)) ∧ Below w.heap.size w w' := by
 go_enter Tryz.func122, Tryz.ntmps122
 refine wk_start ?_
 refine wk_seq ?_
 refine Wr [1, 0] ?_
 refine Rgn fun g1 => ?_
 refine Zx ?_
 refine Zr ?_
 refine Wr [0, 1, 0, 0] ?_
 refine rf_loadR (n := 5) rfl rfl rfl UU44 rfl Kx (fun w hw => Kn.hd0 hw) rfl rfl (Nq ?_)
 apply rg_pure Rx Kx
 case hargs => exact Ax
 case h => exact fun w hw => amvalid_any z w
 case hz => exact Nz
 refine Zx ?_
 refine Zr ?_
 refine Er fun w hw => ?_
 (try simp only [qz])
 first | exact ⟨rfl, hw.below⟩ | exact ⟨trivial, hw.below⟩ | exact hw.below
theorem index_num (xs : List Nm) (a : Option Addr) (c : Nat) (hl : xs.length ≤ 1000000) (w : World) (hA : AS w a (nms xs)) : Calls Tryz.prog 94 #[.slice a xs.length c, .func (.func 122) #[] #[]] w fun e w' => ∃ i : Int, e = .returned (.int .i64 i) ∧ decide (0 ≤ i) = !allOk xs ∧ Below w.heap.size w w' := by
 go_enter Tryz.func94, Tryz.ntmps94
 refine wk_start ?_
 refine wk_seq ?_
 refine Wx [0] ?_
 refine Zr ?_
 refine Wx [0, 0, 0] ?_
 refine rf_len rfl rfl rfl UU26 (Zx ?_)
 refine Zr ?_
 refine wk_loopF [4, 5, 8, 9, 10, 11, 12, 13, 14, 15, 16, 17, 18] (fun mz f s => ∃ (k : Nat), f 4 = .int .i64 0 ∧ f 8 = .int .i64 k ∧ s = [] ∧ mz = xs.length - k ∧ k ≤ xs.length ∧ (∀ j, j < k → (nm xs j).okB = true)) ((fun (k : Nat) => xs.length - k) (0)) ?_ Kx ?_
 ·exact ⟨0, rfl, rfl, rfl, rfl, by omega, fun j hj => by omega⟩
 rintro mz f1 s ⟨k, hs1_4, hs1_8, rfl, hn, hd1, hd2⟩
 simp only [Act.putF, List.foldl_cons, List.foldl_nil, hs1_4, hs1_8, Act.put, Act.eval, qW, Nat.reduceAdd, Bool.not_true, Bool.not_false]
 clear hs1_4 hs1_8
 refine wk_seq ?_
 refine Wr [0] ?_
 refine rfb_lss rfl rfl rfl rfl ?_
 rintro (_ | _) h1 <;> try simp only [qd, ne_eq] at h1
 ·simp only [qz]
  refine Zr ?_; refine Wx [0] ?_; refine Zr ?_
  refine Er fun w hw => ?_
  (try simp only [qz])
  exact ⟨-1, rfl, by rw [allOk_true (fun j hj => hd2 j Ox)]; simp, hw.below⟩
 simp only [qz]
 obtain ⟨b, off, rfl, hlt, hcell⟩ := AS.openN hA Ox
 refine Zr ?_
 refine Wx [0, 0] ?_
 refine Zr ?_
 refine Wx [0, 0, 0, 0, 0, 1] ?_
 refine rf_indexS (n := k) (sz := 5) (j := off + k * 5) rfl rfl rfl rfl UU26 Kx Ox Ox rfl (Nq ?_)
 refine rf_loadC (n := 5) (vs := [.int .i64 (nm xs k).a, .int .i64 (nm xs k).b, .int .i64 (nm xs k).c, .int .i64 (nm xs k).d, .int .i64 (nm xs k).k]) rfl rfl rfl UU44 rfl Kx rfl (fun w hw => atN_range ((hcell k Ox).kn hw hlt (by simp))) (Nq ?_)
 refine CV.rg_callVb (f := 122) (caps := #[]) (vs := #[nmV (nm xs k)]) (b := !(nm xs k).okB) Rx rfl Kx (by simp only [qm, qs, Act.eval] <;> rfl) (fun w hw => numbers1_any (nm xs k) w) Nz ?_
 rintro (_ | _) h2 <;> try simp only [qd, ne_eq] at h2
 ·simp only [qz]
  refine Zr ?_; refine Wr [0, 0] ?_; refine rf_add rfl rfl rfl rfl (wrap_ok Ox Ox) (Zx ?_); refine rg_nil ?_; refine ek_roundF (xs.length - (k + 1)) Ox Kx ?_
  exact ⟨k + 1, rfl, rfl, by rfl, by rfl, by omega, (fun j hj => by rcases (by omega : j < k ∨ j = k) with h | rfl; exact hd2 j h; simpa using h2)⟩
 simp only [qz]
 refine Zr ?_
 refine Wx [0, 0] ?_
 refine Zr ?_
 refine Er fun w hw => ?_
 (try simp only [qz])
 exact ⟨(k : Int), rfl, by rw [allOk_false (k := k) Ox (by simpa using h2)]; simp, hw.below⟩
theorem contains_num (xs : List Nm) (a : Option Addr) (c : Nat) (hl : xs.length ≤ 1000000) (w : World) (hA : AS w a (nms xs)) : Calls Tryz.prog 52 #[.slice a xs.length c, .func (.func 122) #[] #[]] w fun e w' => e = .returned (.bool (!allOk xs)) ∧ Below w.heap.size w w' := by
 go_enter Tryz.func52, Tryz.ntmps52
 refine wk_start ?_
 refine wk_seq ?_
 refine Wx [0] ?_
 refine Zr ?_
 refine Wx [0, 0, 1, 0, 0] ?_
 apply rg_call Rx Kx
 case hargs => exact Ax
 refine fun w hw => (index_num xs a c hl w (hA.kn0 hw)).mono ?_
 rintro e w' ⟨i, rfl, hi, hb⟩
 refine ⟨_, _, rfl, hw.call hb, Nz, ?_⟩
 simp only [qz]
 refine rf_geq rfl rfl rfl rfl rfl (Zx ?_)
 refine Zr ?_
 refine Er fun w hw => ?_
 (try simp only [qz])
 exact ⟨by rw [← hi], hw.below⟩
theorem numbers_any (xs : List Nm) (a : Option Addr) (c : Nat) (hl : xs.length ≤ 1000000) (w : World) (hA : AS w a (nms xs)) : Calls Tryz.prog 79 #[.slice a xs.length c] w fun e w' => e = .returned (.bool (allOk xs)) ∧ Below w.heap.size w w' := by
 go_enter Tryz.func79, Tryz.ntmps79
 refine wk_start ?_
 refine wk_seq ?_
 refine Wx [0] ?_
 refine Zr ?_
 refine Wx [0, 1, 0, 0] ?_
 apply rg_pure Rx Kx
 case hargs => exact Ax
 case h => exact fun w hw => contains_num xs a c hl w (hA.kn0 hw)
 case hz => exact Nz
 refine Zx ?_
 refine Zr ?_
 refine Er fun w hw => ?_
 (try simp only [qz])
 exact ⟨by rw [Bool.not_not], hw.below⟩
theorem small_sq {n : Int} (h0 : 1 ≤ n) (h1 : n ≤ 6) : 1 ≤ n * n ∧ n * n ≤ 36 := by
 have : n = 1 ∨ n = 2 ∨ n = 3 ∨ n = 4 ∨ n = 5 ∨ n = 6 := by omega
 rcases this with rfl | rfl | rfl | rfl | rfl | rfl <;> decide
theorem mvalid_any (n : Int) (xs : List Nm) (a : Option Addr) (c : Nat) (hl : xs.length ≤ 1000000) (w : World) (hA : AS w a (nms xs)) : Calls Tryz.prog 33 #[.agg #[.int .i64 n, .slice a xs.length c]] w fun e w' => e = .returned (.bool (validB n xs)) ∧ Below w.heap.size w w' := by
 go_enter Tryz.func33, Tryz.ntmps33
 refine wk_start ?_
 refine wk_seq ?_
 refine Wr [1, 0] ?_
 refine Rgn fun g1 => ?_
 refine Zx ?_
 refine Zr ?_
 refine Wr [0, 0, 0, 0, 0, 0, 0, 0, 0, 0, 0, 0, 0, 0, 0, 0, 0, 0, 0, 0, 0, 0, 1, 0, 0] ?_
 refine Fd 0 0 UU28 ?_
 refine rf_load rfl rfl rfl UU3 rfl (fun w hw => (Kn.hd0 hw).at rfl) (Nq ?_)
 refine rfb_geq rfl rfl rfl rfl ?_
 rintro (_ | _) h1 <;> try simp only [qd, ne_eq] at h1
 ·refine Zx ?_
  refine rg_skip_h Rx Nz ?_; refine Zx ?_; refine Zr ?_
  refine Er fun w hw => ?_
  (try simp only [qz])
  exact ⟨by unfold validB; simp [*] <;> (try omega), hw.below⟩
 refine Zx ?_
 refine Fd 0 0 UU28 ?_
 refine rf_load rfl rfl rfl UU3 rfl (fun w hw => (Kn.hd0 hw).at rfl) (Nq ?_)
 refine rfb_leq rfl rfl rfl rfl ?_
 rintro (_ | _) h2 <;> try simp only [qd, ne_eq] at h2
 ·refine Zx ?_
  refine rg_skip_h Rx Nz ?_; refine Zx ?_; refine Zr ?_
  refine Er fun w hw => ?_
  (try simp only [qz])
  exact ⟨by unfold validB; simp [*] <;> (try omega), hw.below⟩
 refine Zx ?_
 refine Fd 0 1 UU28 ?_
 refine rf_load rfl rfl rfl UU26 rfl (fun w hw => (Kn.hd0 hw).at rfl) (Nq ?_)
 refine rf_len rfl rfl rfl UU26 (Nq ?_)
 refine Fd 0 0 UU28 ?_
 refine rf_load rfl rfl rfl UU3 rfl (fun w hw => (Kn.hd0 hw).at rfl) (Nq ?_)
 refine Fd 0 0 UU28 ?_
 refine rf_load rfl rfl rfl UU3 rfl (fun w hw => (Kn.hd0 hw).at rfl) (Nq ?_)
 have hnn := small_sq (n := n) Ox Ox
 refine rf_mul rfl rfl rfl rfl (wrap_ok Ox Ox) (Nq ?_)
 refine rfb_eql rfl rfl rfl rfl ?_
 rintro (_ | _) h3 <;> try simp only [qd, ne_eq] at h3
 ·refine Zx ?_
  refine rg_skip_h Rx Nz ?_; refine Zx ?_; refine Zr ?_
  refine Er fun w hw => ?_
  (try simp only [qz])
  exact ⟨by unfold validB; simp [*] <;> (try omega), hw.below⟩
 refine Zx ?_
 refine Fd 0 1 UU28 ?_
 refine rf_load rfl rfl rfl UU26 rfl (fun w hw => (Kn.hd0 hw).at rfl) (Nq ?_)
 apply rg_pure Rx Kx
 case hargs => exact Ax
 case h => exact fun w hw => numbers_any xs a c hl w (hA.kn0 hw)
 case hz => exact Nz
 refine Zx ?_
 refine Zr ?_
 refine Er fun w hw => ?_
 (try simp only [qz])
 exact ⟨by unfold validB; simp [*] <;> (try omega), hw.below⟩
theorem rmvalid_any (n : Int) (xs : List Nm) (a : Option Addr) (c : Nat) (hl : xs.length ≤ 1000000) (w : World) (hA : AS w a (nms xs)) : Calls Tryz.prog 71 #[.agg #[.int .i64 n, .slice a xs.length c]] w fun e w' => e = .returned (.bool (validB n xs)) ∧ Below w.heap.size w w' := by
 go_enter Tryz.func71, Tryz.ntmps71
 refine wk_start ?_
 refine wk_seq ?_
 refine Wr [1, 0] ?_
 refine Rgn fun g1 => ?_
 refine Zx ?_
 refine Zr ?_
 refine Wr [0, 0, 0, 0, 0, 0, 0, 0, 0, 0, 0, 0, 0, 0, 0, 0, 0, 0, 0] ?_
 refine Fd 0 0 UU28 ?_
 refine rf_load rfl rfl rfl UU3 rfl (fun w hw => (Kn.hd0 hw).at rfl) (Nq ?_)
 refine rfb_lss rfl rfl rfl rfl ?_
 rintro (_ | _) h1 <;> try simp only [qd, ne_eq] at h1
 ·refine Zx ?_
  refine Fd 0 0 UU28 ?_; refine rf_load rfl rfl rfl UU3 rfl (fun w hw => (Kn.hd0 hw).at rfl) (Nq ?_); refine rfb_gtr rfl rfl rfl rfl ?_
  rintro (_ | _) h2 <;> try simp only [qd, ne_eq] at h2
  ·refine Zx ?_
   refine Fd 0 1 UU28 ?_; refine rf_load rfl rfl rfl UU26 rfl (fun w hw => (Kn.hd0 hw).at rfl) (Nq ?_); refine rf_len rfl rfl rfl UU26 (Nq ?_); refine Fd 0 0 UU28 ?_; refine rf_load rfl rfl rfl UU3 rfl (fun w hw => (Kn.hd0 hw).at rfl) (Nq ?_); refine Fd 0 0 UU28 ?_; refine rf_load rfl rfl rfl UU3 rfl (fun w hw => (Kn.hd0 hw).at rfl) (Nq ?_)
   have hnn := small_sq (n := n) Ox Ox
   refine rf_mul rfl rfl rfl rfl (wrap_ok Ox Ox) (Nq ?_); refine rfb_neq rfl rfl rfl rfl ?_
   rintro (_ | _) h3 <;> try simp only [qd, ne_eq] at h3
   ·refine Zx ?_
    refine Zr ?_; refine Wx [0] ?_; refine Zr ?_; refine wk_loopF [2, 3, 23, 24, 25, 26, 27, 28, 29, 30, 31, 32, 33, 34, 35, 36] (fun mz f s => ∃ (k : Nat), f 2 = .bool false ∧ f 3 = .int .i64 k ∧ s = ((g1, .cells #[.int .i64 n, .slice a xs.length c] 28) :: []) ∧ mz = xs.length - k ∧ k ≤ xs.length ∧ (∀ j, j < k → (nm xs j).okB = true)) ((fun (k : Nat) => xs.length - k) (0)) ?_ Kx ?_
    ·exact ⟨0, rfl, rfl, rfl, rfl, by omega, fun j hj => by omega⟩
    rintro mz f1 s ⟨k, hs1_2, hs1_3, rfl, hn, hd1, hd2⟩
    simp only [Act.putF, List.foldl_cons, List.foldl_nil, hs1_2, hs1_3, Act.put, Act.eval, qW, Nat.reduceAdd, Bool.not_true, Bool.not_false]; clear hs1_2 hs1_3; refine wk_seq (wk_seq ?_); refine Wx [0, 0, 0, 0, 0] ?_; refine Fd 0 1 UU28 ?_; refine rf_load rfl rfl rfl UU26 rfl (fun w hw => (Kn.hd0 hw).at rfl) (Nq ?_); refine rf_len rfl rfl rfl UU26 (Nq ?_); refine rfb_lss rfl rfl rfl rfl ?_
    rintro (_ | _) h4 <;> try simp only [qd, ne_eq] at h4
    ·simp only [qz]
     refine Zr ?_; refine Wx [0] ?_; refine Zr ?_
     refine Er fun w hw => ?_
     (try simp only [qz])
     exact ⟨by unfold validB; rw [allOk_true (fun j hj => hd2 j Ox)]; simp [*] <;> omega, hw.below⟩
    simp only [qz]
    obtain ⟨b, off, ha, hlt, hcell⟩ := AS.openN hA Ox
    subst ha
    refine Zr ?_; refine Wr [0, 0, 0, 0, 0, 1, 0] ?_; refine Fd 0 1 UU28 ?_; refine rf_load rfl rfl rfl UU26 rfl (fun w hw => (Kn.hd0 hw).at rfl) (Zx ?_); refine rf_indexS (n := k) (sz := 5) (j := off + k * 5) rfl rfl rfl rfl UU26 Kx Ox Ox rfl (Nq ?_); refine rf_loadC (n := 5) (vs := [.int .i64 (nm xs k).a, .int .i64 (nm xs k).b, .int .i64 (nm xs k).c, .int .i64 (nm xs k).d, .int .i64 (nm xs k).k]) rfl rfl rfl UU44 rfl Kx rfl (fun w hw => atN_range ((hcell k Ox).kn hw hlt (by simp))) (Nq ?_)
    apply rg_pureb Rx Kx
    case hargs => exact Ax
    case h => exact fun w hw => rValidNum_any (nm xs k) w
    case hz => exact Nz
    rintro (_ | _) h5 <;> try simp only [qd, ne_eq] at h5
    ·refine Zx ?_
     refine Zr ?_; refine Wx [0] ?_; refine Zr ?_
     refine Er fun w hw => ?_
     (try simp only [qz])
     exact ⟨by unfold validB; rw [allOk_false (k := k) Ox h5]; simp, hw.below⟩
    refine Zx ?_; refine Zr ?_; refine Wx [0, 0, 0] ?_; refine rf_add rfl rfl rfl rfl (wrap_ok Ox Ox) (Zx ?_); refine rg_nil ?_; refine ek_roundF (xs.length - (k + 1)) Ox Kx ?_
    exact ⟨k + 1, rfl, rfl, by rfl, by rfl, by omega, (fun j hj => by rcases (by omega : j < k ∨ j = k) with h | rfl; exact hd2 j h; exact h5)⟩
   refine Zx ?_; refine Zr ?_; refine Wx [0] ?_; refine Zr ?_
   refine Er fun w hw => ?_
   (try simp only [qz])
   exact ⟨by unfold validB; simp [*] <;> (try omega), hw.below⟩
  refine Zx ?_; refine Zr ?_; refine Wx [0] ?_; refine Zr ?_
  refine Er fun w hw => ?_
  (try simp only [qz])
  exact ⟨by unfold validB; simp [*] <;> (try omega), hw.below⟩
 refine Zx ?_
 refine Zr ?_
 refine Wx [0] ?_
 refine Zr ?_
 refine Er fun w hw => ?_
 (try simp only [qz])
 exact ⟨by unfold validB; simp [*] <;> (try omega), hw.below⟩
abbrev boL (l : List Bool) : List Value := l.map .bool
theorem boInf : (Tryz.prog.info? 4).map (fun i => (i.zero, i.size, i.bytes)) = some (some (.bool false), 1, 1) := by kernel_rfl
theorem OwnZ.nil : OwnZ [] (.slice none 0 0) [] := Own.nil _ _
section
variable {R : Option Nat} {ops : Array Oper} {Q : Exit → Act → World → Prop} {B : World} {F : List Nat} {s0 : Option (List Blk × List Blk)}
variable {l : List (Oper × Nat)} {a : Act} {s S : List Blk} {d : Option Tmp} {op : Op} {t : TypeId} {p : String} {af : Array Edge} {v : Value}
theorem rg_appZ {so xo : Operand} {u S : List Blk} {xs : List Int} {g1 : Nat} {x : Int} {gd : Option (Nat × Bool)} (hg : Region.wanted ⟨d, .call ⟨.builtin .append, #[so, xo], #[23, 23]⟩, t, p, af, gd⟩ (yielded ops a.tmps) = true) (hs : a.eval so = v) (hown : OwnZ u v xs) (hx : a.eval xo = .slice (some ⟨g1, 0, none⟩) 1 1) (hn : xs.length ≤ 1000000)
    (hp : S.Perm (u ++ ((g1, .cells #[.int .i64 x] 3) :: s)))
    (hzz : ∀ z ∈ s0, z.1.Sublist s) (h : ∀ u' a' c', OwnZ u' (.slice a' (xs ++ [x]).length c') (xs ++ [x]) → Rg R Tryz.prog ops Q B F s0 l (a.put d (.slice a' (xs ++ [x]).length c')) (u' ++ s)) :
    Rg R Tryz.prog ops Q B F s0 ((⟨d, .call ⟨.builtin .append, #[so, xo], #[23, 23]⟩, t, p, af, gd⟩, 1) :: l) a S := by
  obtain ⟨i, hi, hz, hsz, hb⟩ := info_partsN zInfo
  refine rg_append (u := u) (s := (g1, .cells #[.int .i64 x] 3) :: s) (i := i) (z := .int .i64 0) (size := 1) (bytes := 8) (n := xs.length) (m := 1) (c := 1) (xs := zs xs) (news := [.int .i64 x]) (ad := ⟨g1, 0, none⟩) hg
    UU23 hi hz hsz hb rfl (by decide) hs hown hx Rx ?_ (by simp [Value.oneCell']) (by simp only [maxLen]; omega) Ox hp (fun z hz => (hzz z hz).cons _) ?_
  · intro w K j y hj
    have hd := (Kn.hd0 (Kn.perm K (hp.trans List.perm_middle))).cell
    match j, hj with
    | 0, hj => simp only [List.getElem?_cons_zero, Option.some.injEq] at hj; subst hj; exact hd 0
    | j + 1, hj => simp at hj
  · intro u' v' hO _
    have hO' : OwnZ u' v' (xs ++ [x]) := by
      have e : zs (xs ++ [x]) = zs xs ++ [.int .i64 x] := by simp
      unfold OwnZ
      rw [e, List.length_append]
      exact hO
    obtain ⟨a', c', rfl, -⟩ := Own.val hO'
    have := h u' a' c' hO'
    exact rg_sub (Sa (List.Sublist.cons _ (List.Sublist.refl _)) _) (fun z hz' => (hzz z hz').trans (Sr _ _)) this
end
set_option maxHeartbeats 1000000
def gI (xs : List Int) (i : Nat) : Int := xs.getD i 0
section
variable {P : Program} {ops : Array Oper} {Q : Exit → Act → World → Prop} {B : World} {F : List Nat} {z : List Blk} {fuel : Nat} {listed : Array Bool} {a : Act} {s : List Blk}
def RT (P : Program) (ops : Array Oper) (Q : Exit → Act → World → Prop) (B : World) (F : List Nat) (z : List Blk) (fuel : Nat) (listed : Array Bool) (a : Act) (s : List Blk) : Prop :=
  ∀ w, Kn B F s w → wpT P .any ops Q (Kn B F z) fuel listed a w
abbrev QT (P : Program) (ops : Array Oper) (Q : Exit → Act → World → Prop) (B : World) (F : List Nat) (z : List Blk) (fuel : Nat) (listed : Array Bool) : Exit → Act → World → Prop :=
  Exit.then (fun a' w' => Kn B F z w' ∧ wpT P .any ops Q (Kn B F z) fuel listed a' w') Q
theorem ek_rt (hz : z.Sublist s) (h : RT P ops Q B F z fuel listed a s) : Ek B F (QT P ops Q B F z fuel listed) .normal a s := fun w K => ⟨K.sub hz, h w K⟩
theorem rt_soft {i : Nat} {o : Oper} (ho : ops[i]? = some o) (hB : (Region.noSelect ops && (Region.free .any ops listed i && (Region.ready .any ops listed).contains i)) = true)
    (hQ : ∀ c d v a w, Q (.panic c) (Act.put a d v) w → Q (.panic c) a w) (hz : z.Sublist s)
    (h : Rg none P ops (QT P ops Q B F z fuel (listed.setIfInBounds i true)) B F (some (z, z)) [(o, 0)] a s) : RT P ops Q B F z (fuel + 1) listed a s := fun w K => by
  obtain ⟨v, hy, hk⟩ := h
  simp only [Bool.and_eq_true] at hB
  exact wpAnyH_take ho hB.1 hB.2.1 hB.2.2 (fun c a w => hQ c _ _ a w) hy (K.sub hz) (hk w K).2
theorem hop_panic {Q1 : Exit → Act → World → Prop} (hq : ∀ c a w, Q1 (.panic c) a w → Q (.panic c) a w) (hq' : LetsOut Q1 → LetsOut Q) {K : Act → World → Prop} {o : Oper} {w : World} (h : hop P ops Q1 K o a w) : hop P ops Q K o a w := by
 unfold hop at *
 split
 ·rename_i hw
  rw [if_pos hw] at h
  unfold Oper.wp at *
  generalize (execOp a.eval o).run P w = r at *
  cases r with
  | ok n w' =>
   cases n <;> simp only [Oper.upon] at h ⊢ <;>
    first
     | exact h
     | exact Calls.mono h (fun e w'' he => by cases e <;> first | exact he | exact hq _ _ _ he | exact hq' he)
  | halt x w' => cases x <;> simp only [Oper.upon] at h ⊢ <;> first | exact h | exact hq _ _ _ h | exact hq' h
 ·rename_i hw
  rw [if_neg hw] at h
  exact h
theorem rg_one {o : Oper} {listed' : Array Bool} (h : Rg none P ops (QT P ops Q B F z fuel listed') B F (some (z, z)) [(o, 1)] a s) (w : World) (K : Kn B F s w) :
    wpList P ops (Exit.then (fun a' w' => Kn B F z w' ∧ wpT P .any ops Q (Kn B F z) fuel listed' a' w') Q) [o] a w := by
  rcases h with h | ⟨hn, _⟩
  · refine hop_list (hop_mono ?_ (hop_panic (Q1 := QT P ops Q B F z fuel listed') (Q := Q) (fun c a w h => h) (fun ⟨a₀, w₀, h₀⟩ => ⟨a₀, w₀, h₀⟩) (h w K)))
    rintro a' w' ⟨s', K', _, h'⟩
    exact h' w' K'
  · cases hn
theorem rt_hard1 {i : Nat} {o : Oper} (hr : Region.ready .any ops listed = [i]) (ho : ops[i]? = some o)
    (h : Rg none P ops (QT P ops Q B F z fuel (listed.setIfInBounds i true)) B F (some (z, z)) [(o, 1)] a s) : RT P ops Q B F z (fuel + 1) listed a s := fun w K => tr_hard1 hr ho (rg_one h w K)
theorem rt_hard2 {i j : Nat} {o u : Oper} (hr : Region.ready .any ops listed = [i, j]) (ho : ops[i]? = some o) (hu : ops[j]? = some u)
    (h : Rg none P ops (QT P ops Q B F z fuel (listed.setIfInBounds i true)) B F (some (z, z)) [(o, 1)] a s)
    (h' : Rg none P ops (QT P ops Q B F z fuel (listed.setIfInBounds j true)) B F (some (z, z)) [(u, 1)] a s) : RT P ops Q B F z (fuel + 1) listed a s := fun w K => tr_hard2 hr ho hu (rg_one h w K) (rg_one h' w K)
theorem ek_perm {e : Exit} {s' : List Blk} (hs : s.Perm s') (h : Ek B F Q e a s') : Ek B F Q e a s := fun w K => h w (K.perm hs)
theorem perm_at {b : Blk} {l r t : List Blk} (h : (l ++ r).Perm t) : (l ++ b :: r).Perm (b :: t) := List.perm_middle.trans (h.cons b)
theorem perm_atU {u l r t : List Blk} (h : (l ++ r).Perm t) : (l ++ (u ++ r)).Perm (u ++ t) :=
  (List.perm_append_comm_assoc l u r).trans (h.append_left u)
theorem rt_nil (hr : (Region.ready .any ops listed).isEmpty = true) (h : Ek B F Q .normal a s) : RT P ops Q B F z 0 listed a s := fun w K => tr_nil hr (h w K)
theorem wk_rt {id : Nat} {l : List Oper} (z : List Blk) (hm : P.follows .mixedOrders = true) (hz : z.Sublist s) (h : RT P l.toArray Q B F z l.length (Array.replicate l.length false) a s) :
    Wk none P B F Q a s (Code.region id l.toArray true) := fun w K => wpIn_wide.2 (wp_region_tr (Kn B F z) hm (by simpa using h w.drew K.drew))
end
section
variable {R : Option Nat} {P : Program} {ops : Array Oper} {Q : Exit → Act → World → Prop} {B : World} {F : List Nat} {fuel : Nat} {listed : Array Bool} {a : Act} {s : List Blk}
theorem oper_out {K : Act → World → Prop} {o : Oper} {w : World} (h : o.wpIn (FR R) 0 P a w K (Exit.then K Q)) : o.wpIn (FR R) 0 P a w K Q := by
 unfold Oper.wpIn at *
 refine ⟨h.1, ?_⟩
 have h := h.2
 generalize (o.semAt (FR R).round a.eval).run P w = r at *
 cases r with
 | ok n w' =>
  cases n <;> simp only [Oper.uponIn] at h ⊢ <;>
   first
    | exact h
    | exact ⟨h.1, CallsIn.mono h.2 (fun e w'' he => by cases e <;> first | exact he | (obtain ⟨a₀, w₀, h₀⟩ := he; exact ⟨a₀, w₀, h₀⟩))⟩
    | exact ⟨h.1, RoundIn.mono h.2 (fun e w'' he => by cases e <;> first | exact he | (obtain ⟨a₀, w₀, h₀⟩ := he; exact ⟨a₀, w₀, h₀⟩))⟩
 | halt x w' => cases x <;> simp only [Oper.uponIn] at h ⊢ <;> exact h
theorem op_one {i : Nat} {o : Oper} {K : Act → World → Prop} {w : World} (ho : ops[i]? = some o) (h : wpListIn (FR R) 0 P ops (Exit.then K Q) [o] a w) : wpOpIn (FR R) 0 P ops Q i K a w := by
 unfold wpOpIn
 simp only [ho]
 unfold wpListIn at h
 split
 ·next hw =>
  rw [if_pos hw] at h
  exact oper_out h
 ·next hw =>
  rw [if_neg hw] at h
  exact h
end
inductive RowsZ : List Blk → List Value → List (List Int) → Prop
  | nil : RowsZ [] [] []
  | snoc {us : List Blk} {hs : List Value} {rows : List (List Int)} {u : List Blk} {h : Value} {row : List Int} : RowsZ us hs rows → OwnZ u h row → RowsZ (u ++ us) (hs ++ [h]) (rows ++ [row])
theorem RowsZ.len {us : List Blk} {hs : List Value} {rows : List (List Int)} (h : RowsZ us hs rows) : hs.length = rows.length := by
 induction h with
 | nil => rfl
 | snoc _ _ ih => simp [ih]
theorem RowsZ.cells {us : List Blk} {hs : List Value} {rows : List (List Int)} (h : RowsZ us hs rows) : ∀ v ∈ hs, v.oneCell' = true := by
 induction h with
 | nil => intro v hv; simp at hv
 | snoc _ hO ih =>
  intro v hv
  rcases List.mem_append.1 hv with hv | hv
  ·exact ih v hv
  ·obtain ⟨a, c, e, _⟩ := Own.val hO
   simp at hv
   rw [hv, e]
   rfl
theorem RowsZ.as {us : List Blk} {hs : List Value} {rows : List (List Int)} (h : RowsZ us hs rows) : ∀ {B w : World} {F : List Nat} {s : List Blk}, Kn B F s w → us.Sublist s → ∀ k, k < rows.length → ∃ a c, hs[k]? = some (.slice a (rows.getD k []).length c) ∧ AS w a (zs (rows.getD k [])) := by
 induction h with
 | nil => intro B w F s K hs k hk; simp at hk
 | @snoc us hs rows u h row h0 hO ih =>
  intro B w F s K hsub k hk
  have hl := h0.len
  rcases (by simp at hk; omega : k < rows.length ∨ k = rows.length) with hk | rfl
  ·obtain ⟨a, c, h1, h2⟩ := ih K ((Sr _ _).trans hsub) k hk
   have e : (rows ++ [row]).getD k [] = rows.getD k [] := by rw [List.getD_eq_getElem?_getD, List.getElem?_append_left hk, ← List.getD_eq_getElem?_getD]
   rw [e]
   exact ⟨a, c, by rw [List.getElem?_append_left Ox]; exact h1, h2⟩
  ·have e : (rows ++ [row]).getD rows.length [] = row := by simp [List.getD_eq_getElem?_getD]
   rw [e]
   have K' := K.sub ((List.sublist_append_left u us).trans hsub)
   obtain ⟨a, c, e1, e2⟩ := Own.as (s := []) hO (by rw [List.append_nil]; exact K')
   refine ⟨a, c, ?_, e2⟩; rw [List.getElem?_append_right Ox]
   simp [hl, e1]
theorem RowsZ.row {us : List Blk} {hs : List Value} {rows : List (List Int)} (h : RowsZ us hs rows) : ∀ k, k < rows.length → ∃ a c u, hs[k]? = some (.slice a (rows.getD k []).length c) ∧ OwnZ u (.slice a (rows.getD k []).length c) (rows.getD k []) ∧ u.Sublist us := by
 induction h with
 | nil => intro k hk; simp at hk
 | @snoc us hs rows u h row h0 hO ih =>
  intro k hk
  have hl := h0.len
  rcases (by simp at hk; omega : k < rows.length ∨ k = rows.length) with hk | rfl
  ·obtain ⟨a, c, u', h1, h2, h3⟩ := ih k hk
   have e : (rows ++ [row]).getD k [] = rows.getD k [] := by rw [List.getD_eq_getElem?_getD, List.getElem?_append_left hk, ← List.getD_eq_getElem?_getD]
   rw [e]
   exact ⟨a, c, u', by rw [List.getElem?_append_left Ox]; exact h1, h2, h3.trans (Sr _ _)⟩
  ·have e : (rows ++ [row]).getD rows.length [] = row := by simp [List.getD_eq_getElem?_getD]
   rw [e]
   obtain ⟨a, c, rfl, _⟩ := Own.val hO
   exact ⟨a, c, u, by rw [List.getElem?_append_right Ox]; simp [hl], hO, List.sublist_append_left _ _⟩
def OwnL (U : List Blk) (v : Value) (rows : List (List Int)) : Prop := ∃ u us hs, U = u ++ us ∧ Own 23 1 u v rows.length hs ∧ RowsZ us hs rows
theorem OwnL.nil : OwnL [] (.slice none 0 0) [] := ⟨[], [], [], rfl, Own.nil _ _, .nil⟩
section
variable {R : Option Nat} {ops : Array Oper} {Q : Exit → Act → World → Prop} {B : World} {F : List Nat} {s0 : Option (List Blk × List Blk)}
variable {l lst : List (Oper × Nat)} {a : Act} {s S : List Blk} {d : Option Tmp} {op : Op} {t : TypeId} {p : String} {af : Array Edge} {v : Value}
end
section
variable {R : Option Nat} {ops : Array Oper} {Q : Exit → Act → World → Prop} {B : World} {F : List Nat} {s0 : Option (List Blk × List Blk)}
variable {l : List (Oper × Nat)} {a : Act} {s S : List Blk} {d : Option Tmp} {op : Op} {t : TypeId} {p : String} {af : Array Edge} {v : Value}
end
section
variable {R : Option Nat} {P : Program} {Q : Exit → Act → World → Prop} {B : World} {F : List Nat} {a : Act} {s : List Blk} {X : Ending → World → Prop}
end
structure W6 where
  w0 : Int
  w1 : Int
  w2 : Int
  w3 : Int
  w4 : Int
  w5 : Int
deriving DecidableEq, Inhabited
def W6.val (x : W6) : Int := x.w0 + 18446744073709551616 * (x.w1 + 18446744073709551616 * (x.w2 + 18446744073709551616 * (x.w3 + 18446744073709551616 * (x.w4 + 18446744073709551616 * x.w5))))
structure W6.Wf (x : W6) : Prop where
  a0 : 0 ≤ x.w0
  b0 : x.w0 < 18446744073709551616
  a1 : 0 ≤ x.w1
  b1 : x.w1 < 18446744073709551616
  a2 : 0 ≤ x.w2
  b2 : x.w2 < 18446744073709551616
  a3 : 0 ≤ x.w3
  b3 : x.w3 < 18446744073709551616
  a4 : 0 ≤ x.w4
  b4 : x.w4 < 18446744073709551616
  a5 : 0 ≤ x.w5
  b5 : x.w5 < 18446744073709551616
def W6.of (n : Int) : W6 := ⟨n % 18446744073709551616, n / 18446744073709551616 % 18446744073709551616, n / 18446744073709551616 / 18446744073709551616 % 18446744073709551616, n / 18446744073709551616 / 18446744073709551616 / 18446744073709551616 % 18446744073709551616, n / 18446744073709551616 / 18446744073709551616 / 18446744073709551616 / 18446744073709551616 % 18446744073709551616, n / 18446744073709551616 / 18446744073709551616 / 18446744073709551616 / 18446744073709551616 / 18446744073709551616 % 18446744073709551616⟩
theorem W6.of_wf (n : Int) : (W6.of n).Wf := ⟨by simp only [W6.of]; omega, by simp only [W6.of]; omega, by simp only [W6.of]; omega, by simp only [W6.of]; omega, by simp only [W6.of]; omega, by simp only [W6.of]; omega, by simp only [W6.of]; omega, by simp only [W6.of]; omega, by simp only [W6.of]; omega, by simp only [W6.of]; omega, by simp only [W6.of]; omega, by simp only [W6.of]; omega⟩
theorem W6.of_val (n : Int) : (W6.of n).val = n - 39402006196394479212279040100143613805079739270465446667948293404245721771497210611414266254884915640806627990306816 * (n / 18446744073709551616 / 18446744073709551616 / 18446744073709551616 / 18446744073709551616 / 18446744073709551616 / 18446744073709551616) := by simp only [W6.val, W6.of]; omega
theorem W6.ext' {x y : W6} (hx : x.Wf) (hy : y.Wf) (h : x.val = y.val) : x = y := by
 obtain ⟨a0, a1, a2, a3, a4, a5⟩ := x
 obtain ⟨b0, b1, b2, b3, b4, b5⟩ := y
 obtain ⟨h1, h2, h3, h4, h5, h6, h7, h8, h9, h10, h11, h12⟩ := hx
 obtain ⟨k1, k2, k3, k4, k5, k6, k7, k8, k9, k10, k11, k12⟩ := hy
 simp only [W6.val] at *
 congr 1 <;> omega
theorem W6.val_range {x : W6} (hx : x.Wf) : 0 ≤ x.val ∧ x.val < 39402006196394479212279040100143613805079739270465446667948293404245721771497210611414266254884915640806627990306816 := by
 obtain ⟨h1, h2, h3, h4, h5, h6, h7, h8, h9, h10, h11, h12⟩ := hx
 simp only [W6.val]
 omega
theorem W6.of_eq {x : W6} {n : Int} (hx : x.Wf) (q : Int) (h : x.val = n + 39402006196394479212279040100143613805079739270465446667948293404245721771497210611414266254884915640806627990306816 * q) : x = W6.of n := by
 refine W6.ext' hx (W6.of_wf n) ?_
 have h1 := W6.val_range hx
 have h2 := W6.val_range (W6.of_wf n)
 rw [W6.of_val] at h2 ⊢
 omega
def In384 (n : Int) : Prop := -19701003098197239606139520050071806902539869635232723333974146702122860885748605305707133127442457820403313995153408 ≤ n ∧ n < 19701003098197239606139520050071806902539869635232723333974146702122860885748605305707133127442457820403313995153408
theorem W6.of_inj {m n : Int} (hm : In384 m) (hn : In384 n) (h : W6.of m = W6.of n) : m = n := by
 have h1 := W6.of_val m
 have h2 := W6.of_val n
 rw [h] at h1
 unfold In384 at hm hn
 omega
theorem W6.of_whole {n : Int} (h0 : -9223372036854775808 ≤ n) (h1 : n < 9223372036854775808) : W6.of n = ⟨n % 18446744073709551616, (if n < 0 then 18446744073709551615 else 0), (if n < 0 then 18446744073709551615 else 0), (if n < 0 then 18446744073709551615 else 0), (if n < 0 then 18446744073709551615 else 0), (if n < 0 then 18446744073709551615 else 0)⟩ := by
 simp only [W6.of]
 split <;> congr 1 <;> omega
theorem W6.add_eq {m n : Int} {s0 s1 s2 s3 s4 s5 c0 c1 c2 c3 c4 c5 : Int} (hw : (⟨s0, s1, s2, s3, s4, s5⟩ : W6).Wf)
    (h0 : s0 + 18446744073709551616 * c0 = (W6.of m).w0 + (W6.of n).w0) (h1 : s1 + 18446744073709551616 * c1 = (W6.of m).w1 + (W6.of n).w1 + c0) (h2 : s2 + 18446744073709551616 * c2 = (W6.of m).w2 + (W6.of n).w2 + c1)
    (h3 : s3 + 18446744073709551616 * c3 = (W6.of m).w3 + (W6.of n).w3 + c2) (h4 : s4 + 18446744073709551616 * c4 = (W6.of m).w4 + (W6.of n).w4 + c3) (h5 : s5 + 18446744073709551616 * c5 = (W6.of m).w5 + (W6.of n).w5 + c4) :
    (⟨s0, s1, s2, s3, s4, s5⟩ : W6) = W6.of (m + n) := by
  have e1 := W6.of_val m
  have e2 := W6.of_val n
  refine W6.of_eq hw (-(m / 18446744073709551616 / 18446744073709551616 / 18446744073709551616 / 18446744073709551616 / 18446744073709551616 / 18446744073709551616) - (n / 18446744073709551616 / 18446744073709551616 / 18446744073709551616 / 18446744073709551616 / 18446744073709551616 / 18446744073709551616) - c5) ?_
  generalize (m / 18446744073709551616 / 18446744073709551616 / 18446744073709551616 / 18446744073709551616 / 18446744073709551616 / 18446744073709551616) = p at *
  generalize (n / 18446744073709551616 / 18446744073709551616 / 18446744073709551616 / 18446744073709551616 / 18446744073709551616 / 18446744073709551616) = q at *
  generalize W6.of m = x at *
  generalize W6.of n = y at *
  simp only [W6.val] at *
  omega
theorem W6.neg_eq {m : Int} {s0 s1 s2 s3 s4 s5 c0 c1 c2 c3 c4 c5 : Int} (hw : (⟨s0, s1, s2, s3, s4, s5⟩ : W6).Wf)
    (h0 : s0 = 18446744073709551616 * c0 - (W6.of m).w0) (h1 : s1 = 18446744073709551616 * c1 - (W6.of m).w1 - c0) (h2 : s2 = 18446744073709551616 * c2 - (W6.of m).w2 - c1)
    (h3 : s3 = 18446744073709551616 * c3 - (W6.of m).w3 - c2) (h4 : s4 = 18446744073709551616 * c4 - (W6.of m).w4 - c3) (h5 : s5 = 18446744073709551616 * c5 - (W6.of m).w5 - c4) :
    (⟨s0, s1, s2, s3, s4, s5⟩ : W6) = W6.of (-m) := by
  have e1 := W6.of_val m
  refine W6.of_eq hw ((m / 18446744073709551616 / 18446744073709551616 / 18446744073709551616 / 18446744073709551616 / 18446744073709551616 / 18446744073709551616) + c5) ?_
  generalize (m / 18446744073709551616 / 18446744073709551616 / 18446744073709551616 / 18446744073709551616 / 18446744073709551616 / 18446744073709551616) = p at *
  generalize W6.of m = x at *
  simp only [W6.val] at *
  omega
theorem W6.times_eq {m n : Int} {s0 s1 s2 s3 s4 s5 c0 c1 c2 c3 c4 c5 : Int} (hw : (⟨s0, s1, s2, s3, s4, s5⟩ : W6).Wf)
    (h0 : s0 + 18446744073709551616 * c0 = (W6.of m).w0 * n) (h1 : s1 + 18446744073709551616 * c1 = (W6.of m).w1 * n + c0) (h2 : s2 + 18446744073709551616 * c2 = (W6.of m).w2 * n + c1)
    (h3 : s3 + 18446744073709551616 * c3 = (W6.of m).w3 * n + c2) (h4 : s4 + 18446744073709551616 * c4 = (W6.of m).w4 * n + c3) (h5 : s5 + 18446744073709551616 * c5 = (W6.of m).w5 * n + c4) :
    (⟨s0, s1, s2, s3, s4, s5⟩ : W6) = W6.of (m * n) := by
  have e1 := W6.of_val m
  refine W6.of_eq hw (-(m / 18446744073709551616 / 18446744073709551616 / 18446744073709551616 / 18446744073709551616 / 18446744073709551616 / 18446744073709551616) * n - c5) ?_
  generalize (m / 18446744073709551616 / 18446744073709551616 / 18446744073709551616 / 18446744073709551616 / 18446744073709551616 / 18446744073709551616) = p at *
  generalize W6.of m = x at *
  simp only [W6.val] at *
  grind
theorem run_Add64 (x y c s r : Int) (hx : 0 ≤ x) (hy : 0 ≤ y) (hc0 : 0 ≤ c) (hc : c ≤ 1) (hs : (x + y + c) % 18446744073709551616 = s) (hr : (x + y + c) / 18446744073709551616 = r) (w : World) :
    (callFunc 156 #[.int .u64 x, .int .u64 y, .int .u64 c]).run Tryz.prog w = .ok (.value (.tuple #[.int .u64 s, .int .u64 r])) w := by
  rw [run_callFunc_extern Tryz.func156 Kx Kx Kx (e := add64Entry) Kx, run_add64 x y c hx hy hc0 hc, hs, hr]
  rfl
theorem run_Sub64 (x y b s r : Nat) (hb : b ≤ 1) (hs : (x + 18446744073709551616 - y - b) % 18446744073709551616 = s) (hr : (if x < y + b then 1 else 0) = r) (w : World) :
    (callFunc 157 #[.int .u64 x, .int .u64 y, .int .u64 b]).run Tryz.prog w = .ok (.value (.tuple #[.int .u64 s, .int .u64 r])) w := by
  rw [run_callFunc_extern Tryz.func157 Kx Kx Kx (e := sub64Entry) Kx, run_sub64 x y b hb, hs, hr]
  rfl
theorem run_Sub64I (x y b s r : Int) (x0 : 0 ≤ x) (y0 : 0 ≤ y) (y1 : y < 18446744073709551616) (b0 : 0 ≤ b) (hb : b ≤ 1) (hs : (x + 18446744073709551616 - y - b) % 18446744073709551616 = s) (hr : (if x < y + b then 1 else 0) = r) (w : World) :
    (callFunc 157 #[.int .u64 x, .int .u64 y, .int .u64 b]).run Tryz.prog w = .ok (.value (.tuple #[.int .u64 s, .int .u64 r])) w := by
  obtain ⟨x, rfl⟩ := Int.eq_ofNat_of_zero_le x0
  obtain ⟨y, rfl⟩ := Int.eq_ofNat_of_zero_le y0
  obtain ⟨b, rfl⟩ := Int.eq_ofNat_of_zero_le b0
  have h := run_Sub64 x y b _ _ Ox rfl rfl w
  have e1 : (((x + 18446744073709551616 - y - b) % 18446744073709551616 : Nat) : Int) = s := by rw [← hs]; omega
  have e2 : (((if x < y + b then 1 else 0 : Nat)) : Int) = r := by rw [← hr]; split <;> split <;> omega
  rw [e1, e2] at h
  exact h
set_option maxHeartbeats 1000000
def sel4 {α : Type} (a b c d : α) : Nat → α
  | 0 => a
  | 1 => b
  | 2 => c
  | _ => d
def upd {α : Type} (T : Nat → α) (j : Nat) (t : α) : Nat → α := fun m => if m = j then t else T m
theorem upd_same {α : Type} (T : Nat → α) (j : Nat) (t : α) : upd T j t j = t := if_pos rfl
theorem upd_other {α : Type} (T : Nat → α) {j m : Nat} (t : α) (h : m ≠ j) : upd T j t m = T m := if_neg h
theorem lt4 {m : Nat} (h : m < 4) : m = 0 ∨ m = 1 ∨ m = 2 ∨ m = 3 := by omega
def acc (X Y : Nat → Int) : Nat → Nat → Int
  | 0, _ => 0
  | n + 1, m => if m = (n / 4 + n % 4) % 4 then acc X Y n m + (if 4 ≤ n / 4 + n % 4 then -(X (n / 4) * Y (n % 4)) else X (n / 4) * Y (n % 4)) else acc X Y n m
theorem acc_bound {X Y : Nat → Int} {M : Int} (h0 : 0 ≤ M) (h : ∀ i k, i < 4 → k < 4 → -M ≤ X i * Y k ∧ X i * Y k ≤ M) : ∀ n m, n ≤ 16 → -(n * M) ≤ acc X Y n m ∧ acc X Y n m ≤ n * M
  | 0, m, _ => by simp [acc]
  | n + 1, m, hn => by
    have ih := acc_bound h0 h n m Ox
    have hb := h (n / 4) (n % 4) Ox Ox
    have e : ((n + 1 : Nat) : Int) * M = n * M + M := by rw [Int.natCast_add, Int.add_mul]; simp
    rw [e]; simp only [acc]
    split
    · split <;> omega
    · omega
theorem acc_16 (x y : Nm) : (⟨acc (sel4 x.a x.b x.c x.d) (sel4 y.a y.b y.c y.d) 16 0, acc (sel4 x.a x.b x.c x.d) (sel4 y.a y.b y.c y.d) 16 1, acc (sel4 x.a x.b x.c x.d) (sel4 y.a y.b y.c y.d) 16 2, acc (sel4 x.a x.b x.c x.d) (sel4 y.a y.b y.c y.d) 16 3, x.k + y.k⟩ : Nm) = x.mulR y := by
 unfold Nm.mulR
 congr 1 <;> simp [acc, sel4] <;> omega
theorem acc_step {X Y T : Nat → Int} {i k : Nat} (hk : k < 4) (h : acc X Y (i * 4 + k) = T) : acc X Y (i * 4 + (k + 1)) = upd T ((i + k) % 4) (T ((i + k) % 4) + (if 4 ≤ i + k then -(X i * Y k) else X i * Y k)) := by
 funext m
 have e1 : (i * 4 + k) / 4 = i := by omega
 have e2 : (i * 4 + k) % 4 = k := by omega
 rw [show i * 4 + (k + 1) = i * 4 + k + 1 by omega]
 simp only [acc]
 rw [e1, e2, h]
 unfold upd
 split
 ·next hm => rw [hm]
 ·rfl
theorem sel_cases {p : Nat → Prop} (h0 : p 0) (h1 : p 1) (h2 : p 2) (h3 : p 3) : ∀ m, m < 4 → p m := fun m hm => by
  rcases lt4 hm with rfl | rfl | rfl | rfl <;> assumption
def smB (n : Int) : Bool := decide (-1000000000 ≤ n) && decide (n ≤ 1000000000)
def numOk (y : Nm) : Bool := smB y.a && (smB y.b && (smB y.c && smB y.d))
def wnum (z : Nm) : Nm × Bool := if numOk z.nf = true then (z.nf, decide (z.nf.k ≤ 40)) else (Nm.zero, false)
section
variable {R : Option Nat} {P : Program} {ops : Array Oper} {Q : Exit → Act → World → Prop} {B : World} {F : List Nat} {s0 : Option (List Blk × List Blk)}
variable {l : List (Oper × Nat)} {a : Act} {s s' : List Blk} {d : Option Tmp} {op : Op} {t : TypeId} {p : String} {af : Array Edge} {v : Value} {gd : Option (Nat × Bool)} {m : Nat}
theorem run_isAgg {T : TypeId} {dd : TypeDesc} (hu : P.underlying T = some dd) (w : World) : (isAgg T).run P w = .ok (isRow dd) w := by
 unfold isAgg
 rw [Sem.run_bind, run_underlying hu w]
 cases dd <;> simp_all [isRow]
theorem rf_idxR {T : Nat} {x y : Operand} {n len e sz : Nat} {cs : Array Value} {k : IntKind} {dd : TypeDesc} (hm : soft03 m = true) (hg : Region.wanted ⟨d, .index T x y, t, p, af, gd⟩ (yielded ops a.tmps) = true)
    (hx : a.eval x = .agg cs) (hy : a.eval y = .int k (n : Int)) (hu : P.underlying T = some (.array len e)) (he : P.underlying e = some dd) (hr : isRow dd = true) (hs : (P.info? e).map (·.size) = some sz) (hn : n < len)
    {vs : Array Value} (hv : cs.extract (n * sz) (n * sz + sz) = vs) (h : Rg R P ops Q B F s0 l (a.put d (.agg vs)) s) : Rg R P ops Q B F s0 ((⟨d, .index T x y, t, p, af, gd⟩, m) :: l) a s := by
  subst hv
  refine rg_any hm hg (fun w => ?_) h
  unfold Yld
  cases hq : P.info? e with
  | none => simp [hq] at hs
  | some q =>
    have hs' : q.size = sz := by simpa [hq] using hs
    have ha := run_isAgg he w
    rw [hr] at ha
    simp [execOp, hx, hy, Instr.index, run_underlying hu, asIntOf, part, ha, sizeOf, typeInfo, hq, hs', hn]
theorem rf_idx1 {T : Nat} {x y : Operand} {n len e : Nat} {cs : Array Value} {k : IntKind} {dd : TypeDesc} (hm : soft03 m = true) (hg : Region.wanted ⟨d, .index T x y, t, p, af, gd⟩ (yielded ops a.tmps) = true)
    (hx : a.eval x = .agg cs) (hy : a.eval y = .int k (n : Int)) (hu : P.underlying T = some (.array len e)) (he : P.underlying e = some dd) (hr : isRow dd = false) (hs : (P.info? e).map (·.size) = some 1) (hn : n < len)
    (hv : cs[n]? = some v) (h : Rg R P ops Q B F s0 l (a.put d v) s) : Rg R P ops Q B F s0 ((⟨d, .index T x y, t, p, af, gd⟩, m) :: l) a s := by
  refine rg_any hm hg (fun w => ?_) h
  unfold Yld
  cases hq : P.info? e with
  | none => simp [hq] at hs
  | some q =>
    have hs' : q.size = 1 := by simpa [hq] using hs
    have ha := run_isAgg he w
    rw [hr] at ha
    simp [execOp, hx, hy, Instr.index, run_underlying hu, asIntOf, part, ha, sizeOf, typeInfo, hq, hs', hn, hv]
end
structure Q4 where
  a : Rat
  b : Rat
  c : Rat
  d : Rat
namespace Q4
theorem ext' {x y : Q4} (h1 : x.a = y.a) (h2 : x.b = y.b) (h3 : x.c = y.c) (h4 : x.d = y.d) : x = y := by cases x; cases y; simp_all
def zero : Q4 := ⟨0, 0, 0, 0⟩
def one : Q4 := ⟨1, 0, 0, 0⟩
def add (x y : Q4) : Q4 := ⟨x.a + y.a, x.b + y.b, x.c + y.c, x.d + y.d⟩
def neg (x : Q4) : Q4 := ⟨-x.a, -x.b, -x.c, -x.d⟩
def mul (x y : Q4) : Q4 := ⟨x.a * y.a - x.b * y.d - x.c * y.c - x.d * y.b, x.a * y.b + x.b * y.a - x.c * y.d - x.d * y.c, x.a * y.c + x.b * y.b + x.c * y.a - x.d * y.d, x.a * y.d + x.b * y.c + x.c * y.b + x.d * y.a⟩
def conj (x : Q4) : Q4 := ⟨x.a, -x.d, -x.c, -x.b⟩
instance : Zero Q4 := ⟨zero⟩
instance : One Q4 := ⟨one⟩
instance : Add Q4 := ⟨add⟩
instance : Mul Q4 := ⟨mul⟩
instance : Neg Q4 := ⟨neg⟩
instance : Sub Q4 := ⟨fun x y => add x (neg y)⟩
theorem za : (0 : Q4).a = 0 := rfl
theorem zb : (0 : Q4).b = 0 := rfl
theorem zc : (0 : Q4).c = 0 := rfl
theorem zd : (0 : Q4).d = 0 := rfl
theorem oa : (1 : Q4).a = 1 := rfl
theorem ob : (1 : Q4).b = 0 := rfl
theorem oc : (1 : Q4).c = 0 := rfl
theorem od : (1 : Q4).d = 0 := rfl
variable (x y z : Q4)
theorem aa : (x + y).a = x.a + y.a := rfl
theorem ab : (x + y).b = x.b + y.b := rfl
theorem ac : (x + y).c = x.c + y.c := rfl
theorem ad : (x + y).d = x.d + y.d := rfl
theorem na : (-x).a = -x.a := rfl
theorem nb : (-x).b = -x.b := rfl
theorem nc : (-x).c = -x.c := rfl
theorem nd : (-x).d = -x.d := rfl
theorem sa : (x - y).a = x.a + -y.a := rfl
theorem sb : (x - y).b = x.b + -y.b := rfl
theorem sc : (x - y).c = x.c + -y.c := rfl
theorem sd : (x - y).d = x.d + -y.d := rfl
theorem ma : (x * y).a = x.a * y.a - x.b * y.d - x.c * y.c - x.d * y.b := rfl
theorem mb : (x * y).b = x.a * y.b + x.b * y.a - x.c * y.d - x.d * y.c := rfl
theorem mc : (x * y).c = x.a * y.c + x.b * y.b + x.c * y.a - x.d * y.d := rfl
theorem md : (x * y).d = x.a * y.d + x.b * y.c + x.c * y.b + x.d * y.a := rfl
theorem ca : (conj x).a = x.a := rfl
theorem cb : (conj x).b = -x.d := rfl
theorem cc : (conj x).c = -x.c := rfl
theorem cd : (conj x).d = -x.b := rfl
theorem add_comm : x + y = y + x := by apply ext' <;> simp only [aa, ab, ac, ad] <;> grind
theorem add_assoc : x + y + z = x + (y + z) := by apply ext' <;> simp only [aa, ab, ac, ad] <;> grind
theorem add_zero : x + 0 = x := by apply ext' <;> simp only [aa, ab, ac, ad, za, zb, zc, zd] <;> grind
theorem zero_add : 0 + x = x := by rw [add_comm, add_zero]
theorem add_neg : x + -x = 0 := by apply ext' <;> simp only [aa, ab, ac, ad, na, nb, nc, nd, za, zb, zc, zd] <;> grind
theorem sub_def : x - y = x + -y := rfl
theorem mul_comm : x * y = y * x := by apply ext' <;> simp only [ma, mb, mc, md] <;> grind
theorem mul_assoc : x * y * z = x * (y * z) := by apply ext' <;> simp only [ma, mb, mc, md] <;> grind
theorem mul_one : x * 1 = x := by apply ext' <;> simp only [ma, mb, mc, md, oa, ob, oc, od] <;> grind
theorem one_mul : 1 * x = x := by rw [mul_comm, mul_one]
theorem mul_zero : x * 0 = 0 := by apply ext' <;> simp only [ma, mb, mc, md, za, zb, zc, zd] <;> grind
theorem zero_mul : 0 * x = 0 := by rw [mul_comm, mul_zero]
theorem mul_add : x * (y + z) = x * y + x * z := by apply ext' <;> simp only [ma, mb, mc, md, aa, ab, ac, ad] <;> grind
theorem add_mul : (x + y) * z = x * z + y * z := by rw [mul_comm, mul_add, mul_comm z x, mul_comm z y]
theorem mul_neg : x * -y = -(x * y) := by apply ext' <;> simp only [ma, mb, mc, md, na, nb, nc, nd] <;> grind
theorem neg_mul : -x * y = -(x * y) := by rw [mul_comm, mul_neg, mul_comm]
theorem neg_add : -(x + y) = -x + -y := by apply ext' <;> simp only [aa, ab, ac, ad, na, nb, nc, nd] <;> grind
theorem neg_zero : -(0 : Q4) = 0 := by apply ext' <;> rfl
theorem conj_add : conj (x + y) = conj x + conj y := by apply ext' <;> simp only [aa, ab, ac, ad, ca, cb, cc, cd] <;> grind
theorem conj_mul : conj (x * y) = conj x * conj y := by apply ext' <;> simp only [ma, mb, mc, md, ca, cb, cc, cd] <;> grind
theorem conj_neg : conj (-x) = -conj x := by apply ext' <;> simp only [na, nb, nc, nd, ca, cb, cc, cd]
theorem conj_conj : conj (conj x) = x := by apply ext' <;> simp only [ca, cb, cc, cd] <;> grind
theorem conj_zero : conj 0 = 0 := by apply ext' <;> rfl
theorem conj_one : conj 1 = 1 := by apply ext' <;> rfl
theorem sub_zero_eq {x y : Q4} (h : x - y = 0) : x = y := by
 have e : x - y + y = x := by apply ext' <;> simp only [aa, ab, ac, ad, sa, sb, sc, sd] <;> grind
 rw [← e, h, zero_add]
theorem sub_self : x - x = 0 := add_neg x
theorem norm_a : (x * conj x).a = x.a * x.a + x.b * x.b + x.c * x.c + x.d * x.d := by simp only [ma, ca, cb, cc, cd]; grind
theorem sq0 (r : Rat) : 0 ≤ r * r := by
 rcases Rat.le_total (a:=0) (b:=r) with h | h
 ·exact Rat.mul_nonneg h h
 ·have := Rat.mul_nonneg (a := -r) (b := -r) (by grind) (by grind)
  grind
theorem norm_nonneg : 0 ≤ (x * conj x).a := by
 rw [norm_a]
 have := sq0 x.a; have := sq0 x.b; have := sq0 x.c; have := sq0 x.d
 grind
theorem norm_zero {x : Q4} (h : (x * conj x).a = 0) : x = 0 := by
 rw [norm_a] at h
 have h1 := sq0 x.a; have h2 := sq0 x.b; have h3 := sq0 x.c; have h4 := sq0 x.d
 have z : ∀ r : Rat, r * r = 0 → r = 0 := fun r h => by grind
 exact ext' (z _ (by grind)) (z _ (by grind)) (z _ (by grind)) (z _ (by grind))
def dh (x : Q4) : Q4 := ⟨(x.b - x.d) / 2, (x.a + x.c) / 2, (x.b + x.d) / 2, (x.c - x.a) / 2⟩
def dn : Nat → Q4 → Q4
  | 0, x => x
  | n + 1, x => dn n (dh x)
theorem dh_inj {x y : Q4} (h : dh x = dh y) : x = y := by
 have h1 : (dh x).a = (dh y).a := by rw [h]
 have h2 : (dh x).b = (dh y).b := by rw [h]
 have h3 : (dh x).c = (dh y).c := by rw [h]
 have h4 : (dh x).d = (dh y).d := by rw [h]
 simp only [dh] at h1 h2 h3 h4
 apply ext' <;> grind
theorem dn_inj : ∀ (n : Nat) {x y : Q4}, dn n x = dn n y → x = y
  | 0, _, _, h => h
  | n + 1, _, _, h => dh_inj (dn_inj n h)
theorem dh_add : dh (x + y) = dh x + dh y := by apply ext' <;> simp only [dh, aa, ab, ac, ad] <;> grind
theorem dn_add : ∀ (n : Nat) (x y : Q4), dn n (x + y) = dn n x + dn n y
  | 0, _, _ => rfl
  | n + 1, x, y => by simp only [dn]; rw [dh_add, dn_add n]
theorem dh_mul : dh (x * y) = dh x * y := by apply ext' <;> simp only [dh, ma, mb, mc, md] <;> grind
theorem dn_mul : ∀ (n : Nat) (x y : Q4), dn n (x * y) = dn n x * y
  | 0, _, _ => rfl
  | n + 1, x, y => by simp only [dn]; rw [dh_mul, dn_mul n]
theorem dn_dn : ∀ (m n : Nat) (x : Q4), dn m (dn n x) = dn (n + m) x
  | m, 0, x => by rw [Nat.zero_add]; rfl
  | m, n + 1, x => by
    rw [show n + 1 + m = (n + m) + 1 by omega]
    exact dn_dn m n (dh x)
theorem dn_mul2 (m n : Nat) (x y : Q4) : dn (m + n) (x * y) = dn m x * dn n y := by
 rw [← dn_dn, dn_mul, mul_comm, dn_mul, mul_comm]
theorem dh_conj : dh (conj x) = conj (dh x) := by apply ext' <;> simp only [dh, ca, cb, cc, cd] <;> grind
theorem dn_conj : ∀ (n : Nat) (x : Q4), dn n (conj x) = conj (dn n x)
  | 0, _ => rfl
  | n + 1, x => by simp only [dn]; rw [dh_conj, dn_conj n]
theorem dh_neg : dh (-x) = -dh x := by apply ext' <;> simp only [dh, na, nb, nc, nd] <;> grind
theorem dn_neg : ∀ (n : Nat) (x : Q4), dn n (-x) = -dn n x
  | 0, _ => rfl
  | n + 1, x => by simp only [dn]; rw [dh_neg, dn_neg n]
end Q4
def Nm.co (z : Nm) : Q4 := ⟨(z.a : Rat), (z.b : Rat), (z.c : Rat), (z.d : Rat)⟩
def Nm.val (z : Nm) : Q4 := Q4.dn z.k.toNat z.co
theorem co_tr (z : Nm) : Q4.dh z.tr.co = z.co := by
 apply Q4.ext' <;> simp only [Q4.dh, Nm.co, Nm.tr, Rat.intCast_add, Rat.intCast_sub] <;> grind
theorem val_tr {z : Nm} (h : 0 ≤ z.k) : z.tr.val = z.val := by
 unfold Nm.val
 have : z.tr.k.toNat = z.k.toNat + 1 := by simp only [Nm.tr]; omega
 rw [this]
 show Q4.dn z.k.toNat (Q4.dh z.tr.co) = _
 rw [co_tr]
theorem val_up : ∀ (n : Nat) {z : Nm}, 0 ≤ z.k → (Nm.up n z).val = z.val
  | 0, _, _ => rfl
  | n + 1, z, h => by
    have := val_up n (z := z.tr) (by simp only [Nm.tr]; omega)
    show (Nm.up n z.tr).val = _
    rw [this, val_tr h]
theorem val_eqv {x y : Nm} (hx : 0 ≤ x.k) (hy : 0 ≤ y.k) (h : Eqv x y) : x.val = y.val := by
 obtain ⟨i, j, h⟩ := h
 rw [← val_up i hx, h, val_up j hy]
theorem co_inj {x y : Nm} (hk : x.k = y.k) (h : x.co = y.co) : x = y := by
 have h1 : (x.a : Rat) = y.a := by show x.co.a = y.co.a; rw [h]
 have h2 : (x.b : Rat) = y.b := by show x.co.b = y.co.b; rw [h]
 have h3 : (x.c : Rat) = y.c := by show x.co.c = y.co.c; rw [h]
 have h4 : (x.d : Rat) = y.d := by show x.co.d = y.co.d; rw [h]
 obtain ⟨a, b, c, d, k⟩ := x
 obtain ⟨a', b', c', d', k'⟩ := y
 dsimp only at *
 rw [Rat.intCast_inj.1 h1, Rat.intCast_inj.1 h2, Rat.intCast_inj.1 h3, Rat.intCast_inj.1 h4, hk]
theorem eqv_val {x y : Nm} (hx : 0 ≤ x.k) (hy : 0 ≤ y.k) (h : x.val = y.val) : Eqv x y := by
 refine ⟨(y.k).toNat, (x.k).toNat, ?_⟩
 have hk : (Nm.up (y.k).toNat x).k = (Nm.up (x.k).toNat y).k := by rw [Nm.up_k, Nm.up_k]; omega
 refine co_inj hk ?_
 have h1 := val_up (y.k).toNat hx
 have h2 := val_up (x.k).toNat hy
 rw [h, ← h2] at h1
 unfold Nm.val at h1
 rw [hk] at h1
 exact Q4.dn_inj _ h1
theorem val_ok {x y : Nm} (hx : x.Ok) (hy : y.Ok) (h : x.val = y.val) : x = y := form_unique hx.nf hy.nf hx.k0 hy.k0 (eqv_val hx.k0 hy.k0 h)
theorem to_up {x : Nm} {m : Int} (h : 0 ≤ x.k) : (x.to m).val = x.val := val_up _ h
theorem val_addR {x y : Nm} (hx : 0 ≤ x.k) (hy : 0 ≤ y.k) : (x.addR y).val = x.val + y.val := by
 have h1 := to_up (x := x) (m := max x.k y.k) hx
 have h2 := to_up (x := y) (m := max x.k y.k) hy
 have k1 := Nm.to_k (z := x) (m := max x.k y.k) Ox
 have k2 := Nm.to_k (z := y) (m := max x.k y.k) Ox
 rw [← h1, ← h2]
 unfold Nm.val
 rw [k1, k2, ← Q4.dn_add]
 unfold Nm.addR
 dsimp only
 congr 1
 apply Q4.ext' <;> simp only [Nm.co, Q4.aa, Q4.ab, Q4.ac, Q4.ad, Rat.intCast_add]
theorem val_mulR {x y : Nm} (hx : 0 ≤ x.k) (hy : 0 ≤ y.k) : (x.mulR y).val = x.val * y.val := by
 unfold Nm.val
 have : (x.mulR y).k.toNat = x.k.toNat + y.k.toNat := by simp only [Nm.mulR]; omega
 rw [this, ← Q4.dn_mul2]
 congr 1
 apply Q4.ext' <;> simp only [Nm.co, Nm.mulR, Q4.ma, Q4.mb, Q4.mc, Q4.md, Rat.intCast_add, Rat.intCast_sub, Rat.intCast_mul]
theorem val_conj (x : Nm) : x.conj.val = Q4.conj x.val := by
 have e : x.conj.co = Q4.conj x.co := by apply Q4.ext' <;> simp only [Nm.co, Nm.conj, Q4.ca, Q4.cb, Q4.cc, Q4.cd, Rat.intCast_neg]
 unfold Nm.val
 rw [← Q4.dn_conj, e]
 rfl
theorem val_neg (x : Nm) : x.neg.val = -x.val := by
 have e : x.neg.co = -x.co := by apply Q4.ext' <;> simp only [Nm.co, Nm.neg, Q4.na, Q4.nb, Q4.nc, Q4.nd, Rat.intCast_neg]
 unfold Nm.val
 rw [← Q4.dn_neg, e]
 rfl
theorem val_zero : Nm.zero.val = 0 := rfl
theorem val_one : Nm.one.val = 1 := rfl
def sumQ : Nat → (Nat → Q4) → Q4
  | 0, _ => 0
  | n + 1, f => sumQ n f + f n
theorem sumQ_congr : ∀ {n : Nat} {f g : Nat → Q4}, (∀ i, i < n → f i = g i) → sumQ n f = sumQ n g
  | 0, _, _, _ => rfl
  | n + 1, f, g, h => by simp only [sumQ]; rw [sumQ_congr fun i hi => h i Ox, h n Ox]
theorem sumQ_add (n : Nat) (f g : Nat → Q4) : sumQ n (fun i => f i + g i) = sumQ n f + sumQ n g := by
 induction n with
 | zero => exact (Q4.add_zero 0).symm
 | succ n ih => simp only [sumQ]; rw [ih, Q4.add_assoc, Q4.add_assoc, ← Q4.add_assoc (sumQ n g), Q4.add_comm (sumQ n g) (f n), Q4.add_assoc]
theorem sumQ_zero (n : Nat) : sumQ n (fun _ => 0) = 0 := by
 induction n with
 | zero => rfl
 | succ n ih => simp only [sumQ]; rw [ih, Q4.add_zero]
theorem sumQ_neg (n : Nat) (f : Nat → Q4) : sumQ n (fun i => -f i) = -sumQ n f := by
 induction n with
 | zero => exact Q4.neg_zero.symm
 | succ n ih => simp only [sumQ]; rw [ih, Q4.neg_add]
theorem sumQ_mul (n : Nat) (x : Q4) (f : Nat → Q4) : sumQ n (fun i => x * f i) = x * sumQ n f := by
 induction n with
 | zero => exact (Q4.mul_zero x).symm
 | succ n ih => simp only [sumQ]; rw [ih, Q4.mul_add]
theorem sumQ_mulr (n : Nat) (x : Q4) (f : Nat → Q4) : sumQ n (fun i => f i * x) = sumQ n f * x := by
 rw [Q4.mul_comm, ← sumQ_mul]
 exact sumQ_congr fun i _ => Q4.mul_comm _ _
theorem sumQ_conj (n : Nat) (f : Nat → Q4) : Q4.conj (sumQ n f) = sumQ n fun i => Q4.conj (f i) := by
 induction n with
 | zero => exact Q4.conj_zero
 | succ n ih => simp only [sumQ]; rw [Q4.conj_add, ih]
theorem sumQ_swap (m n : Nat) (f : Nat → Nat → Q4) : sumQ m (fun i => sumQ n (fun j => f i j)) = sumQ n (fun j => sumQ m (fun i => f i j)) := by
 induction m with
 | zero => exact (sumQ_zero n).symm
 | succ m ih => simp only [sumQ]; rw [ih, ← sumQ_add]
def dl (i j : Nat) : Q4 := if i = j then 1 else 0
theorem sumQ_dl {n j : Nat} (f : Nat → Q4) (h : j < n) : sumQ n (fun i => dl j i * f i) = f j := by
 induction n with
 | zero => omega
 | succ n ih =>
  simp only [sumQ]
  by_cases e : j = n
  ·subst e
   have : sumQ j (fun i => dl j i * f i) = sumQ j (fun _ => 0) := sumQ_congr fun i hi => by unfold dl; rw [if_neg Ox, Q4.zero_mul]
   rw [this, sumQ_zero, Q4.zero_add]
   unfold dl
   rw [if_pos rfl, Q4.one_mul]
  ·rw [ih Ox]
   unfold dl
   rw [if_neg e, Q4.zero_mul, Q4.add_zero]
theorem dl_comm (i j : Nat) : dl i j = dl j i := by unfold dl; split <;> split <;> simp_all
theorem dl_conj (i j : Nat) : Q4.conj (dl i j) = dl i j := by unfold dl; split; exact Q4.conj_one; exact Q4.conj_zero
theorem sumQ_dlr {n j : Nat} (f : Nat → Q4) (h : j < n) : sumQ n (fun i => f i * dl i j) = f j := by
 rw [← sumQ_dl f h]
 exact sumQ_congr fun i _ => by rw [Q4.mul_comm, dl_comm]
theorem sumQ_a_nonneg : ∀ {n : Nat} {f : Nat → Q4}, (∀ i, i < n → 0 ≤ (f i).a) → 0 ≤ (sumQ n f).a
  | 0, _, _ => by show (0 : Rat) ≤ 0; grind
  | n + 1, f, h => by
    simp only [sumQ, Q4.aa]
    have := sumQ_a_nonneg (n := n) fun i hi => h i Ox
    have := h n Ox
    grind
theorem sumQ_a_zero : ∀ {n : Nat} {f : Nat → Q4}, (∀ i, i < n → 0 ≤ (f i).a) → (sumQ n f).a = 0 → ∀ i, i < n → (f i).a = 0
  | 0, _, _, _, i, hi => by omega
  | n + 1, f, h, h0, i, hi => by
    simp only [sumQ, Q4.aa] at h0
    have h1 := sumQ_a_nonneg (n := n) fun i hi => h i Ox
    have h2 := h n Ox
    by_cases e : i = n
    · subst e; grind
    · have h3 : (sumQ n f).a = 0 := by grind
      exact sumQ_a_zero (n := n) (fun i hi => h i Ox) h3 i Ox
def UnR (n : Nat) (m : Nat → Nat → Q4) : Prop := ∀ i j, i < n → j < n → sumQ n (fun k => m i k * Q4.conj (m j k)) = dl i j
def UnC (n : Nat) (m : Nat → Nat → Q4) : Prop := ∀ i j, i < n → j < n → sumQ n (fun k => Q4.conj (m k i) * m k j) = dl i j
theorem unC_of_unR {n : Nat} {m : Nat → Nat → Q4} (h : UnR n m) : UnC n m := by
 let p : Nat → Nat → Q4 := fun i j => sumQ n (fun k => Q4.conj (m k i) * m k j)
 have hpc : ∀ i j, Q4.conj (p i j) = p j i := fun i j => by
  show Q4.conj (sumQ n _) = sumQ n _
  rw [sumQ_conj]
  exact sumQ_congr fun k _ => by rw [Q4.conj_mul, Q4.conj_conj, Q4.mul_comm]
 have hpp : ∀ i j, i < n → j < n → sumQ n (fun k => p i k * p k j) = p i j := fun i j hi hj => by
  have e1 : sumQ n (fun k => p i k * p k j) = sumQ n fun k => sumQ n fun a => sumQ n fun b => (Q4.conj (m a i) * m a k) * (Q4.conj (m b k) * m b j) := sumQ_congr fun k _ => by
   show sumQ n _ * p k j = _
   rw [← sumQ_mulr]
   exact sumQ_congr fun a _ => by rw [← sumQ_mul]
  rw [e1, sumQ_swap]
  have e2 : ∀ a, a < n → sumQ n (fun k => sumQ n fun b => (Q4.conj (m a i) * m a k) * (Q4.conj (m b k) * m b j)) = Q4.conj (m a i) * m a j := fun a ha => by
   rw [sumQ_swap]
   have e3 : ∀ b, b < n → sumQ n (fun k => (Q4.conj (m a i) * m a k) * (Q4.conj (m b k) * m b j)) = dl a b * (Q4.conj (m a i) * m b j) := fun b hb => by
    rw [← h a b ha hb, ← sumQ_mulr]
    exact sumQ_congr fun k _ => by
     rw [Q4.mul_assoc, Q4.mul_comm (Q4.conj (m a i)), ← Q4.mul_assoc (m a k), Q4.mul_assoc (m a k * Q4.conj (m b k)), Q4.mul_comm (m b j)]
   rw [sumQ_congr e3, sumQ_dl (fun b => Q4.conj (m a i) * m b j) ha]
  rw [sumQ_congr e2]
 have htr : sumQ n (fun i => dl i i - p i i) = 0 := by
  have e1 : sumQ n (fun i => p i i) = sumQ n fun i => dl i i := by
   show sumQ n (fun i => sumQ n fun k => Q4.conj (m k i) * m k i) = _
   rw [sumQ_swap]
   exact sumQ_congr fun k hk => by
    rw [← h k k hk hk]
    exact sumQ_congr fun i _ => Q4.mul_comm _ _
  have e2 : sumQ n (fun i => dl i i - p i i) = sumQ n (fun i => dl i i) + -sumQ n (fun i => p i i) := by rw [← sumQ_neg, ← sumQ_add]; rfl
  rw [e2, e1, Q4.add_neg]
 have hx : ∀ i, i < n → sumQ n (fun j => (dl i j - p i j) * Q4.conj (dl i j - p i j)) = dl i i - p i i := fun i hi => by
  have e1 : ∀ j, j < n → (dl i j - p i j) * Q4.conj (dl i j - p i j) = (dl i j * dl j i + -(dl i j * p j i)) + (-(p i j * dl j i) + p i j * p j i) := fun j _ => by
   rw [Q4.sub_def, Q4.conj_add, Q4.conj_neg, hpc, dl_conj, dl_comm i j, Q4.mul_add, Q4.add_mul, Q4.add_mul, Q4.mul_neg, Q4.mul_neg, Q4.neg_mul, Q4.neg_mul, Q4.add_assoc, Q4.add_assoc]
   congr 1
   rw [← Q4.add_assoc, ← Q4.add_assoc, Q4.add_comm (-(p i j * dl j i))]
   congr 1
   apply Q4.ext' <;> simp only [Q4.na, Q4.nb, Q4.nc, Q4.nd] <;> grind
  rw [sumQ_congr e1, sumQ_add, sumQ_add, sumQ_add, sumQ_neg, sumQ_neg, sumQ_dl (fun j => dl j i) hi, sumQ_dl (fun j => p j i) hi, sumQ_dlr (fun j => p i j) hi, hpp i i hi hi, Q4.add_comm (-p i i) (p i i), Q4.add_neg, Q4.add_zero]
  rfl
 have hz : ∀ i, i < n → (dl i i - p i i).a = 0 := sumQ_a_zero (fun i hi => by rw [← hx i hi]; exact sumQ_a_nonneg fun j _ => Q4.norm_nonneg _) (by rw [htr]; rfl)
 intro i j hi hj
 have h1 : (sumQ n (fun j => (dl i j - p i j) * Q4.conj (dl i j - p i j))).a = 0 := by rw [hx i hi]; exact hz i hi
 have h2 := sumQ_a_zero (fun j _ => Q4.norm_nonneg _) h1 j hj
 exact (Q4.sub_zero_eq (Q4.norm_zero h2)).symm
theorem unR_of_unC {n : Nat} {m : Nat → Nat → Q4} (h : UnC n m) : UnR n m := by
 have h1 : UnR n (fun i k => Q4.conj (m k i)) := fun i j hi hj => by
  rw [← h i j hi hj]
  exact sumQ_congr fun k _ => by rw [Q4.conj_conj]
 have h2 := unC_of_unR h1
 intro i j hi hj
 rw [← h2 i j hi hj]
 exact sumQ_congr fun k _ => by rw [Q4.conj_conj]
theorem unR_iff {n : Nat} {m : Nat → Nat → Q4} : UnR n m ↔ UnC n m := ⟨unC_of_unR, unR_of_unC⟩
section
variable {α β : Type}
end
theorem tr_down {B : Int} {z : Nm} (h : z.tr.Fit B) : z.Fit B := by
 obtain ⟨a0, a1, b0, b1, c0, c1, d0, d1⟩ := h
 simp only [Nm.tr] at *
 exact ⟨by omega, by omega, by omega, by omega, by omega, by omega, by omega, by omega⟩
theorem up_down {B : Int} : ∀ (n : Nat) {z : Nm}, (Nm.up n z).Fit B → z.Fit B
  | 0, _, h => h
  | n + 1, z, h => tr_down (up_down n (z := z.tr) h)
theorem mul_bd {x y A B : Int} (hx : -A ≤ x) (hx' : x ≤ A) (hy : -B ≤ y) (hy' : y ≤ B) : -(A * B) ≤ x * y ∧ x * y ≤ A * B := by
 have h1 : x.natAbs ≤ A.toNat := by omega
 have h2 : y.natAbs ≤ B.toNat := by omega
 have h3 := Nat.mul_le_mul h1 h2
 rw [← Int.natAbs_mul] at h3
 have h4 : ((A.toNat * B.toNat : Nat) : Int) = A * B := by
  rw [Int.natCast_mul, Int.toNat_of_nonneg Ox, Int.toNat_of_nonneg Ox]
 omega
theorem mulR_fitG {A B : Int} {x y : Nm} (hx : x.Fit A) (hy : y.Fit B) : (x.mulR y).Fit (4 * (A * B)) := by
 obtain ⟨a0, a1, b0, b1, c0, c1, d0, d1⟩ := hx
 obtain ⟨a0', a1', b0', b1', c0', c1', d0', d1'⟩ := hy
 have p1 := mul_bd a0 a1 a0' a1'; have p2 := mul_bd a0 a1 b0' b1'; have p3 := mul_bd a0 a1 c0' c1'; have p4 := mul_bd a0 a1 d0' d1'
 have q1 := mul_bd b0 b1 a0' a1'; have q2 := mul_bd b0 b1 b0' b1'; have q3 := mul_bd b0 b1 c0' c1'; have q4 := mul_bd b0 b1 d0' d1'
 have r1 := mul_bd c0 c1 a0' a1'; have r2 := mul_bd c0 c1 b0' b1'; have r3 := mul_bd c0 c1 c0' c1'; have r4 := mul_bd c0 c1 d0' d1'
 have s1 := mul_bd d0 d1 a0' a1'; have s2 := mul_bd d0 d1 b0' b1'; have s3 := mul_bd d0 d1 c0' c1'; have s4 := mul_bd d0 d1 d0' d1'
 generalize A * B = M at *
 unfold Nm.mulR
 exact ⟨by dsimp only; omega, by dsimp only; omega, by dsimp only; omega, by dsimp only; omega, by dsimp only; omega, by dsimp only; omega, by dsimp only; omega, by dsimp only; omega⟩
theorem mulR_tl (x y : Nm) : x.tr.mulR y = (x.mulR y).tr := by
 unfold Nm.mulR Nm.tr
 congr 1 <;> grind
theorem mulR_tr (x y : Nm) : x.mulR y.tr = (x.mulR y).tr := by
 unfold Nm.mulR Nm.tr
 congr 1 <;> grind
theorem mulR_ul : ∀ (n : Nat) (x y : Nm), (Nm.up n x).mulR y = Nm.up n (x.mulR y)
  | 0, _, _ => rfl
  | n + 1, x, y => by
    show (Nm.up n x.tr).mulR y = Nm.up n (x.mulR y).tr
    rw [mulR_ul n, mulR_tl]
theorem mulR_ur : ∀ (n : Nat) (x y : Nm), x.mulR (Nm.up n y) = Nm.up n (x.mulR y)
  | 0, _, _ => rfl
  | n + 1, x, y => by
    show x.mulR (Nm.up n y.tr) = Nm.up n (x.mulR y).tr
    rw [mulR_ur n, mulR_tr]
theorem mulR_to {x y : Nm} {m n : Int} (hx : x.k ≤ m) (hy : y.k ≤ n) : (x.to m).mulR (y.to n) = (x.mulR y).to (m + n) := by
 have e : (x.mulR y).k = x.k + y.k := rfl
 unfold Nm.to
 rw [mulR_ul, mulR_ur, Nm.up_add, e]
 congr 1
 omega
structure Bd (n : Nat) (M : Int) (z : Nm) : Prop where
  k0 : 0 ≤ z.k
  k1 : z.k ≤ 40 * n
  fit : (z.to (40 * n)).Fit M
theorem Bd.self {n : Nat} {M : Int} {z : Nm} (h : Bd n M z) : z.Fit M := up_down _ h.fit
theorem Bd.mul {n : Nat} {M : Int} {x z : Nm} (hx : x.Ok) (h : Bd n M z) : Bd (n + 1) (4503599627370496 * M) (x.mulR z) := by
 have hf : (x.to 40).Fit 1048576000000000 := by unfold Nm.to; exact Nm.up40_fit hx.fit (by have := hx.k0; omega)
 have h0 := hx.k0; have h1 := hx.k1; have h2 := h.k0; have h3 := h.k1
 have ek : (x.mulR z).k = x.k + z.k := rfl
 have e := mulR_to hx.k1 h.k1
 have e2 : (40 : Int) + 40 * n = 40 * ((n + 1 : Nat) : Int) := by simp only [Int.natCast_add]; omega
 rw [e2] at e
 have hM : 0 ≤ M := by have := h.fit.a0; have := h.fit.a1; omega
 refine ⟨by omega, by omega, ?_⟩
 rw [← e]
 exact Nm.fit_mono (mulR_fitG hf h.fit) Ox
theorem Bd.mono {n : Nat} {M M' : Int} {z : Nm} (h : Bd n M z) (hM : M ≤ M') : Bd n M' z := ⟨h.k0, h.k1, Nm.fit_mono h.fit hM⟩
def Sq (n : Nat) (l : List (List Nm)) : Prop := ∀ s ∈ l, s.length = n ∧ ∀ z ∈ s, z.Ok
theorem Sq.tail {n : Nat} {l : List (List Nm)} (h : Sq n l) : Sq n l.tail := fun s hs => h s (List.mem_of_mem_tail hs)
section
variable {P : Program} {ops : Array Oper} {Q : Exit → Act → World → Prop} {B : World} {F : List Nat} {z : List Blk}
end
def b4 (b : Nat → Bool) : List Bool := [b 0, b 1, b 2, b 3]
section
variable {ops : Array Oper} {Q : Exit → Act → World → Prop} {B : World} {F : List Nat}
end
def expo (xs : List Nm) : Int := xs.foldl (fun k z => if k < z.k then z.k else k) 0
theorem expo_succ {xs : List Nm} {i : Nat} (h : i < xs.length) : expo (xs.take (i + 1)) = if expo (xs.take i) < (nm xs i).k then (nm xs i).k else expo (xs.take i) := by
 have e : xs.take (i + 1) = xs.take i ++ [nm xs i] := by
  rw [List.take_succ, List.getElem?_eq_getElem h]
  unfold nm El.at
  rw [List.getD_eq_getElem?_getD, List.getElem?_eq_getElem h]
  rfl
 unfold expo
 rw [e, List.foldl_append]
 rfl
theorem expo_all {xs : List Nm} {i : Nat} (h : xs.length ≤ i) : expo (xs.take i) = expo xs := by rw [List.take_of_length_le h]
theorem exponent_any (xs : List Nm) (a : Option Addr) (c : Nat) (hl : xs.length ≤ 1000000) (w : World) (hA : AS w a (nms xs)) : Calls Tryz.prog 108 #[.slice a xs.length c] w fun e w' => e = .returned (.int .i64 (expo xs)) ∧ Below w.heap.size w w' := by
 go_enter Tryz.func108, Tryz.ntmps108
 refine wk_start ?_
 refine wk_seq ?_
 refine Wx [0] ?_
 refine Zr ?_
 refine Wx [0] ?_
 refine Zr ?_
 refine Wx [0, 0, 0] ?_
 refine rf_len rfl rfl rfl UU26 (Zx ?_)
 refine Zr ?_
 refine wk_loopF [3, 5, 8, 9, 10, 11, 12, 13, 14, 15, 16] (fun mz f s => ∃ (i : Nat) (k : Int), f 3 = .int .i64 k ∧ f 8 = .int .i64 i ∧ s = [] ∧ mz = xs.length - i ∧ i ≤ xs.length ∧ Hid (expo (xs.take i) = k)) ((fun (i : Nat) (k : Int) => xs.length - i) (0) (0)) ?_ Kx ?_
 ·exact ⟨0, 0, rfl, rfl, rfl, rfl, by omega, Lib.hid rfl⟩
 rintro mz f1 s ⟨i, k, hs1_3, hs1_8, rfl, hn, hd1, hd2⟩
 simp only [Act.putF, List.foldl_cons, List.foldl_nil, hs1_3, hs1_8, Act.put, Act.eval, qW, Nat.reduceAdd, Bool.not_true, Bool.not_false]
 clear hs1_3 hs1_8
 have hk := hd2
 clear hd2
 refine wk_seq ?_
 refine Wr [0] ?_
 refine rfb_lss rfl rfl rfl rfl ?_
 rintro (_ | _) h1 <;> try simp only [qd, ne_eq] at h1
 ·simp only [qz]
  refine Zr ?_; refine Wx [0, 0] ?_; refine Zr ?_
  refine Er fun w hw => ?_
  (try simp only [qz])
  exact ⟨by rw [← hk.out, expo_all Ox], hw.below⟩
 simp only [qz]
 obtain ⟨b, off, rfl, hlt, hcell⟩ := AS.openN hA Ox
 refine Zr ?_
 refine Wr [0, 0, 1, 1] ?_
 refine rf_indexS (n := i) (sz := 5) (j := off + i * 5) rfl rfl rfl rfl UU26 Kx Ox Ox rfl (Nq ?_)
 refine rf_loadC (n := 5) (vs := [.int .i64 (nm xs i).a, .int .i64 (nm xs i).b, .int .i64 (nm xs i).c, .int .i64 (nm xs i).d, .int .i64 (nm xs i).k]) rfl rfl rfl UU44 rfl Kx rfl (fun w hw => atN_range ((hcell i Ox).kn hw hlt (by simp))) (Nq ?_)
 refine Rgn fun g1 => ?_
 simp only [qz]
 refine rf_storeR (n := 5) rfl rfl Kx rfl rfl (UpdR.here _ _ _ Nl) Nz (Nw ?_)
 refine rg_nil (ek_next ?_)
 refine Wx [0, 0, 0, 0, 0] ?_
 refine Fd 0 4 UU44 ?_
 refine rf_load rfl rfl rfl UU3 rfl (fun w hw => (Kn.hd0 hw).at rfl) (Nq ?_)
 refine Zk ?_
 refine Zr ?_
 refine Wr [0, 0] ?_
 refine rf_add rfl rfl rfl rfl (wrap_ok Ox Ox) (Zx ?_)
 refine rg_nil ?_
 refine ek_sub (sk _ sn) ?_
 refine ek_roundF (xs.length - (i + 1)) Ox Kx ?_
 exact ⟨i + 1, if k < (nm xs i).k then (nm xs i).k else k, rfl, rfl, by rfl, by rfl, by omega, (Lib.hid (by rw [expo_succ Ox, hk.out]))⟩
def expR (n : Int) (xs : List Nm) : Int × Int := if validB n xs then (expo xs, 0) else (0, 20)
theorem mExponent_any (n : Int) (xs : List Nm) (a : Option Addr) (c : Nat) (hl : xs.length ≤ 1000000) (w : World) (hA : AS w a (nms xs)) : Calls Tryz.prog 67 #[.agg #[.int .i64 n, .slice a xs.length c]] w fun e w' => e = .returned (.tuple #[.int .i64 (expR n xs).1, .int .i64 (expR n xs).2]) ∧ Below w.heap.size w w' := by
 go_enter Tryz.func67, Tryz.ntmps67
 refine wk_start ?_
 refine wk_seq ?_
 refine Wr [1, 0, 0] ?_
 refine Rgn fun g1 => ?_
 refine Zx ?_
 refine Zr ?_
 refine Wr [0, 1, 0] ?_
 refine rf_loadR (n := 2) rfl rfl rfl UU28 rfl Kx (fun w hw => Kn.hd0 hw) rfl rfl (Nq ?_)
 apply rg_pureb Rx Kx
 case hargs => exact Ax
 case h => exact fun w hw => mvalid_any n xs a c hl w (hA.kn0 hw)
 case hz => exact Nz
 rintro (_ | _) h1 <;> try simp only [qd, ne_eq] at h1
 ·refine Zx ?_
  refine Zr ?_; refine Wx [0, 0] ?_; refine Zr ?_; refine ek_ret (fun w hw => ⟨rfl, _, res_tt _ _ rfl, ?_⟩); (try simp only [qz])
  exact ⟨by unfold expR; simp [*], hw.below⟩
 refine Zx ?_
 refine Zr ?_
 refine Wr [0, 0, 1, 0, 0] ?_
 refine Fd 0 1 UU28 ?_
 refine rf_load rfl rfl rfl UU26 rfl (fun w hw => (Kn.hd0 hw).at rfl) (Nq ?_)
 apply rg_pure Rx Kx
 case hargs => exact Ax
 case h => exact fun w hw => exponent_any xs a c hl w (hA.kn0 hw)
 case hz => exact Nz
 refine Zx ?_
 refine Zr ?_
 refine ek_ret (fun w hw => ⟨rfl, _, res_tt _ _ rfl, ?_⟩)
 (try simp only [qz])
 exact ⟨by unfold expR; simp [*], hw.below⟩
theorem rExponent_any (n : Int) (xs : List Nm) (a : Option Addr) (c : Nat) (hl : xs.length ≤ 1000000) (w : World) (hA : AS w a (nms xs)) : Calls Tryz.prog 72 #[.agg #[.int .i64 n, .slice a xs.length c]] w fun e w' => e = .returned (.tuple #[.int .i64 (expR n xs).1, .int .i64 (expR n xs).2]) ∧ Below w.heap.size w w' := by
 go_enter Tryz.func72, Tryz.ntmps72
 refine wk_start ?_
 refine wk_seq ?_
 refine Wr [1, 0, 0] ?_
 refine Rgn fun g1 => ?_
 refine Zx ?_
 refine Zr ?_
 refine Wr [0, 1, 0] ?_
 refine rf_loadR (n := 2) rfl rfl rfl UU28 rfl Kx (fun w hw => Kn.hd0 hw) rfl rfl (Nq ?_)
 apply rg_pureb Rx Kx
 case hargs => exact Ax
 case h => exact fun w hw => rmvalid_any n xs a c hl w (hA.kn0 hw)
 case hz => exact Nz
 rintro (_ | _) h1 <;> try simp only [qd, ne_eq] at h1
 ·refine Zx ?_
  refine Zr ?_; refine Wx [0, 0] ?_; refine Zr ?_; refine ek_ret (fun w hw => ⟨rfl, _, res_tt _ _ rfl, ?_⟩); (try simp only [qz])
  exact ⟨by unfold expR; simp [*], hw.below⟩
 refine Zx ?_
 refine Zr ?_
 refine Wx [0] ?_
 refine Zr ?_
 refine Wx [0] ?_
 refine Zr ?_
 refine wk_loopF [4, 5, 9, 10, 11, 12, 13, 14, 15, 16, 17, 18, 19, 20, 21, 22, 23] (fun mz f s => ∃ (i : Nat) (k : Int), f 2 = .int .i64 0 ∧ f 3 = .int .i64 0 ∧ f 4 = .int .i64 k ∧ f 5 = .int .i64 i ∧ s = ((g1, .cells #[.int .i64 n, .slice a xs.length c] 28) :: []) ∧ mz = xs.length - i ∧ i ≤ xs.length ∧ Hid (expo (xs.take i) = k)) ((fun (i : Nat) (k : Int) => xs.length - i) (0) (0)) ?_ Kx ?_
 ·exact ⟨0, 0, rfl, rfl, rfl, rfl, rfl, rfl, by omega, Lib.hid rfl⟩
 rintro mz f1 s ⟨i, k, hs1_2, hs1_3, hs1_4, hs1_5, rfl, hn, hd1, hd2⟩
 simp only [Act.putF, List.foldl_cons, List.foldl_nil, hs1_2, hs1_3, hs1_4, hs1_5, Act.put, Act.eval, qW, Nat.reduceAdd, Bool.not_true, Bool.not_false]
 clear hs1_2 hs1_3 hs1_4 hs1_5
 have hk := hd2
 clear hd2
 refine wk_seq (wk_seq ?_)
 refine Wx [0, 0, 0, 0, 0] ?_
 refine Fd 0 1 UU28 ?_
 refine rf_load rfl rfl rfl UU26 rfl (fun w hw => (Kn.hd0 hw).at rfl) (Nq ?_)
 refine rf_len rfl rfl rfl UU26 (Nq ?_)
 refine rfb_lss rfl rfl rfl rfl ?_
 rintro (_ | _) h2 <;> try simp only [qd, ne_eq] at h2
 ·simp only [qz]
  refine Zr ?_; refine Wx [0, 0, 0] ?_; refine Zr ?_; refine ek_ret (fun w hw => ⟨rfl, _, res_tt _ _ rfl, ?_⟩); (try simp only [qz])
  exact ⟨by unfold expR; simp only [*, if_true]; rw [← hk.out, expo_all Ox], hw.below⟩
 simp only [qz]
 obtain ⟨b, off, ha, hlt, hcell⟩ := AS.openN hA Ox
 subst ha
 refine Zr ?_
 refine Wx [0, 0, 0, 0, 0, 0, 0, 0, 0] ?_
 refine Fd 0 1 UU28 ?_
 refine rf_load rfl rfl rfl UU26 rfl (fun w hw => (Kn.hd0 hw).at rfl) (Zx ?_)
 refine rf_indexS (n := i) (sz := 5) (j := off + i * 5) rfl rfl rfl rfl UU26 Kx Ox Ox rfl (Nq ?_)
 refine rf_field (n := 0) (j := off + i * 5 + 4) rfl rfl rfl UU44 rfl Kx rfl (Nq ?_)
 refine rf_load rfl rfl rfl UU3 rfl (fun w hw => ((hcell i Ox).kn hw hlt (by simp)).c4) (Nq ?_)
 refine Zk ?_
 refine Zr ?_
 refine Wx [0, 0, 0] ?_
 refine rf_add rfl rfl rfl rfl (wrap_ok Ox Ox) (Zx ?_)
 refine rg_nil ?_
 refine ek_roundF (xs.length - (i + 1)) Ox Kx ?_
 exact ⟨i + 1, if k < (nm xs i).k then (nm xs i).k else k, rfl, rfl, rfl, rfl, by rfl, by rfl, by omega, (Lib.hid (by rw [expo_succ Ox, hk.out]))⟩
theorem scaled_any (z : Nm) (k : Int) (hz : z.Fit 1000000000) (h0 : 0 ≤ z.k) (h1 : z.k ≤ k) (h2 : k ≤ 40) (w : World) : Calls Tryz.prog 128 #[nmV z, .int .i64 k] w fun e w' => e = .returned (.agg #[.int .i64 (z.to k).a, .int .i64 (z.to k).b, .int .i64 (z.to k).c, .int .i64 (z.to k).d]) ∧ Below w.heap.size w w' := by
 go_enter Tryz.func128, Tryz.ntmps128
 refine wk_start ?_
 refine wk_seq ?_
 refine Wr [1, 1] ?_
 refine Rgn fun g1 => ?_
 simp only [qz]
 refine Rgn fun g2 => ?_
 simp only [qz]
 refine Zr ?_
 refine Wr [0, 0, 1, 1] ?_
 refine Fd 3 0 UU44 ?_
 refine rf_loadR (n := 4) rfl rfl rfl UU42 rfl Kx (fun w hw => Kn.hd0 (Kn.tl hw)) rfl rfl (Nq ?_)
 refine Rgn fun g3 => ?_
 simp only [qz]
 refine rf_storeR (n := 4) rfl rfl Kx rfl rfl (UpdR.here _ _ _ Nl) Nz (Nw ?_)
 refine Zr ?_
 refine Wm [0, 0, 0, 0, 0] ?_
 refine Fd 0 4 UU44 ?_
 refine rf_load rfl rfl rfl UU3 rfl (fun w hw => (Kn.hd0 (Kn.tl (Kn.tl hw))).at rfl) (Nq ?_)
 refine rf_sub rfl rfl rfl rfl (wrap_ok Ox Ox) (Zm ?_)
 refine Zr ?_
 refine wk_loopF [12, 13, 14, 15, 16, 17, 18, 19, 20, 21, 22, 23, 24, 25, 26, 27, 28, 29, 30, 31, 32, 33, 34, 35] (fun mz f s => ∃ (j : Nat) (y : Nm), f 12 = .int .i64 j ∧ s = ((g3, .cells #[.int .i64 y.a, .int .i64 y.b, .int .i64 y.c, .int .i64 y.d] 42) :: ((g2, .cells #[.int .i64 0, .int .i64 0, .int .i64 0, .int .i64 0] 42) :: ((g1, .cells #[.int .i64 z.a, .int .i64 z.b, .int .i64 z.c, .int .i64 z.d, .int .i64 z.k] 44) :: []))) ∧ mz = (k - z.k).toNat - j ∧ (j : Int) ≤ k - z.k ∧ Hid (Nm.up j z = y)) ((fun (j : Nat) (y : Nm) => (k - z.k).toNat - j) (0) (z)) ?_ Kx ?_
 ·exact ⟨0, z, rfl, rfl, rfl, Ox, Lib.hid rfl⟩
 rintro mz f1 s ⟨j, y, hs1_12, rfl, hn, hd1, hd2⟩
 simp only [Act.putF, List.foldl_cons, List.foldl_nil, hs1_12, Act.put, Act.eval, qW, Nat.reduceAdd, Bool.not_true, Bool.not_false]
 clear hs1_12
 have hy := hd2
 clear hd2
 have hfy := Nm.up40_fit (n := j) hz Ox
 rw [hy.out] at hfy
 obtain ⟨fa0, fa1, fb0, fb1, fc0, fc1, fd0, fd1⟩ := hfy
 refine wk_seq ?_
 refine Wr [0] ?_
 refine rfb_lss rfl rfl rfl rfl ?_
 rintro (_ | _) h1 <;> try simp only [qd, ne_eq] at h1
 ·simp only [qz]
  refine Zr ?_; refine Wr [0, 1] ?_; refine rf_loadR (n := 4) rfl rfl rfl UU42 rfl Kx (fun w hw => Kn.hd0 hw) rfl rfl (Nq ?_); refine rf_storeR (n := 4) rfl rfl Kx rfl rfl (UpdR.there _ (UpdR.here _ _ _ Nl)) Nz (Nw ?_); refine Zr ?_; refine ek_ret (fun w hw => ⟨rfl, _, run_results1 rfl rfl (Kn.hd0 (Kn.tl hw)) UU42 rfl Kx, ?_⟩); (try simp only [qz])
  have e : z.to k = y := by unfold Nm.to; rw [show (k - z.k).toNat = j by omega, hy.out]
  exact ⟨by rw [e], hw.below⟩
 simp only [qz]
 refine Zr ?_
 refine Wr [0, 0, 0, 0, 0, 0, 0, 0, 0, 0, 0, 0, 0, 0, 0, 0, 0, 0, 0, 0, 0, 1] ?_
 refine Ia 1 1 1 UU42 ?_
 refine rf_load rfl rfl rfl UU3 rfl (fun w hw => (Kn.hd0 hw).at rfl) (Nq ?_)
 refine Ia 3 1 3 UU42 ?_
 refine rf_load rfl rfl rfl UU3 rfl (fun w hw => (Kn.hd0 hw).at rfl) (Nq ?_)
 refine rf_sub rfl rfl rfl rfl (wrap_ok Ox Ox) (Nq ?_)
 refine Ia 0 1 0 UU42 ?_
 refine rf_load rfl rfl rfl UU3 rfl (fun w hw => (Kn.hd0 hw).at rfl) (Nq ?_)
 refine Ia 2 1 2 UU42 ?_
 refine rf_load rfl rfl rfl UU3 rfl (fun w hw => (Kn.hd0 hw).at rfl) (Nq ?_)
 refine rf_add rfl rfl rfl rfl (wrap_ok Ox Ox) (Nq ?_)
 refine Ia 1 1 1 UU42 ?_
 refine rf_load rfl rfl rfl UU3 rfl (fun w hw => (Kn.hd0 hw).at rfl) (Nq ?_)
 refine Ia 3 1 3 UU42 ?_
 refine rf_load rfl rfl rfl UU3 rfl (fun w hw => (Kn.hd0 hw).at rfl) (Nq ?_)
 refine rf_add rfl rfl rfl rfl (wrap_ok Ox Ox) (Nq ?_)
 refine Ia 2 1 2 UU42 ?_
 refine rf_load rfl rfl rfl UU3 rfl (fun w hw => (Kn.hd0 hw).at rfl) (Nq ?_)
 refine Ia 0 1 0 UU42 ?_
 refine rf_load rfl rfl rfl UU3 rfl (fun w hw => (Kn.hd0 hw).at rfl) (Nq ?_)
 refine rf_sub rfl rfl rfl rfl (wrap_ok Ox Ox) (Nq ?_)
 refine rf_build (cs := fun a => #[a.eval (.tmp 18), a.eval (.tmp 23), a.eval (.tmp 28), a.eval (.tmp 33)]) rfl rfl Kx (Nq ?_)
 refine rf_storeR (n := 4) rfl rfl Kx rfl rfl (UpdR.here _ _ _ Nl) Nz (Nw ?_)
 refine Zr ?_
 refine Wr [0, 0] ?_
 refine rf_add rfl rfl rfl rfl (wrap_ok Ox Ox) (Zm ?_)
 refine rg_nil ?_
 refine ek_roundF ((k - z.k).toNat - (j + 1)) Ox Kx ?_
 exact ⟨j + 1, y.tr, rfl, Rx, by rfl, Ox, (Lib.hid (by rw [Nm.up_succ1, hy.out]))⟩
theorem ix_small {i N : Nat} (hi : i < N) (hN : N ≤ 6) : i * N + N ≤ N * N ∧ N * N ≤ 36 := by
 have h1 := Nat.mul_le_mul_right N (show i + 1 ≤ N by omega)
 have h2 := Nat.mul_le_mul hN hN
 rw [Nat.add_mul, Nat.one_mul] at h1
 omega
theorem at_any (N i k : Nat) (xs : List Nm) (a : Option Addr) (c : Nat) (hl : xs.length = N * N) (hN : N ≤ 6) (hi : i < N) (hk : k < N) (w : World) (hA : AS w a (nms xs)) : Calls Tryz.prog 37 #[.agg #[.int .i64 N, .slice a xs.length c], .int .i64 i, .int .i64 k] w fun e w' => e = .returned (nmV (nm xs (i * N + k))) ∧ Below w.heap.size w w' := by
 have hm := ix_small hi hN
 have hc0 : ((i * N : Nat) : Int) = (i : Int) * N := Int.natCast_mul i N
 obtain ⟨b, off, rfl, hlt, hcell⟩ := AS.openN hA Ox
 go_enter Tryz.func37, Tryz.ntmps37
 refine wk_start ?_
 refine wk_seq ?_
 refine Wr [1, 1] ?_
 refine Rgn fun g1 => ?_
 simp only [qz]
 refine Rgn fun g2 => ?_
 simp only [qz]
 refine Zr ?_
 refine Wr [0, 0, 0, 0, 0, 0, 0, 0, 0, 0, 0, 0, 1] ?_
 refine Fd 1 0 UU79 ?_
 refine Fd 0 1 UU28 ?_
 refine rf_load rfl rfl rfl UU26 rfl (fun w hw => (Kn.hd0 (Kn.tl hw)).at rfl) (Zm ?_)
 refine Fd 1 0 UU79 ?_
 refine Fd 0 0 UU28 ?_
 refine rf_load rfl rfl rfl UU3 rfl (fun w hw => (Kn.hd0 (Kn.tl hw)).at rfl) (Nq ?_)
 refine rf_mul rfl rfl rfl rfl (wrap_ok Ox Ox) (Zm ?_)
 refine rf_add rfl rfl rfl rfl (wrap_ok Ox Ox) (Nq ?_)
 refine rf_indexS (n := i * N + k) (sz := 5) (j := off + (i * N + k) * 5) rfl rfl rfl rfl UU26 Kx (by rw [Int.natCast_add, Int.natCast_mul]) Ox rfl (Nq ?_)
 refine rf_loadC (n := 5) (vs := nmC (nm xs (i * N + k))) rfl rfl rfl UU44 rfl Kx rfl (fun w hw => atN_range ((hcell _ Ox).kn hw hlt (by simp))) (Nq ?_)
 refine rf_storeR (n := 5) rfl rfl Kx rfl rfl (UpdR.here _ _ _ Nl) Nz (Nw ?_)
 refine Zr ?_
 refine ek_ret (fun w hw => ⟨rfl, _, run_results1 rfl rfl (Kn.hd0 hw) UU44 rfl Kx, ?_⟩)
 (try simp only [qz])
 first | exact ⟨rfl, hw.below⟩ | exact ⟨trivial, hw.below⟩ | exact hw.below
theorem made_any (N : Nat) (hN : N ≤ 6) (fe : Nat → Nat → NR) (fv : Value) (hE : ∀ i k c, i < N → k < N → fe i k = .error c → c ≠ 0) (w : World) (hF : FnV w fv (D2 N N fun i k => numV (fe i k))) : Calls Tryz.prog 34 #[.int .i64 N, fv] w fun e w' => RetR w N (madeR N fe) e w' := by
 go_enter Tryz.func34, Tryz.ntmps34
 refine wk_start ?_
 refine wk_seq ?_
 refine Wr [1, 0] ?_
 refine Rgn fun g1 => ?_
 refine Zx ?_
 refine Zr ?_
 refine Wx [0, 0, 1, 1] ?_
 refine rf_build (cs := fun a => #[a.eval (.tmp 11), .slice none 0 0]) rfl rfl Kx (Nq ?_)
 refine Rgn fun g2 => ?_
 simp only [qz]
 refine rf_storeR (n := 2) rfl rfl Kx rfl rfl (UpdR.here _ _ _ Nl) Nz (Nw ?_)
 refine Zr ?_
 refine Wx [0, 0] ?_
 refine Zr ?_
 refine wk_loopF [5, 7, 8, 9, 10, 14, 15, 16, 17, 18, 19, 20, 21, 22, 23, 24, 25, 26, 27, 28, 29, 30, 31, 32, 33, 34, 35, 36, 37, 38, 39] (fun mz f s => ∃ (i : Nat) (l : List Nm) (u : List Blk) (av : Option Addr) (cv : Nat), f 14 = .int .i64 i ∧ s = (u ++ ((g2, .cells #[.int .i64 N, .slice av l.length cv] 28) :: ((g1, .cells #[.int .i64 0, .slice none 0 0] 28) :: []))) ∧ mz = N - i ∧ i ≤ N ∧ Hid (gather (fun t => fe (t / N) (t % N)) (i * N) = .ok l) ∧ OwnN u (.slice av l.length cv) l) ((fun (i : Nat) (l : List Nm) (u : List Blk) (av : Option Addr) (cv : Nat) => N - i) (0) ([]) ([]) (none) (0)) ?_ Kx ?_
 ·exact ⟨0, [], [], none, 0, rfl, rfl, rfl, by omega, (Lib.hid (by (try rw [Nat.zero_mul]); (try rfl))), OwnG.nil⟩
 rintro mz f1 s ⟨i, l, u, av, cv, hs1_14, rfl, hn, hd1, hd2, hd3⟩
 simp only [Act.putF, List.foldl_cons, List.foldl_nil, hs1_14, Act.put, Act.eval, qW, Nat.reduceAdd, Bool.not_true, Bool.not_false]
 clear hs1_14
 refine wk_seq ?_
 refine Wr [0] ?_
 refine rfb_lss rfl rfl rfl rfl ?_
 rintro (_ | _) h1 <;> try simp only [qd, ne_eq] at h1
 ·simp only [qz]
  refine Zr ?_; refine Wr [0, 1, 0] ?_; refine rf_loadR (n := 2) rfl rfl rfl UU28 rfl Kx (fun w hw => Kn.hd0 (Kn.tlU hw)) rfl rfl (Nq ?_); refine rf_storeR (n := 2) rfl rfl Kx rfl rfl (UpdR.app _ (UpdR.there _ (UpdR.here _ _ _ Nl))) Nz (Nw ?_); refine Zx ?_; refine Zr ?_; refine ek_ret (fun w hw => ⟨rfl, _, run_results2 rfl rfl (Kn.hd0 (Kn.tl (Kn.tlU hw))) UU28 rfl Kx, ?_⟩); (try simp only [qz])
  obtain rfl : N = i := by omega
  have hg := hd2.out
  exact ⟨.slice av l.length cv, u, by unfold madeR; rw [hg]; rfl, (by unfold madeR; rw [hg]; exact hd3), hw.made (List.sublist_append_left _ _)⟩
 simp only [qz]
 refine Zr ?_
 refine Wx [0, 0] ?_
 refine Zr ?_
 refine Wx [0, 0] ?_
 refine Zr ?_
 refine wk_loopF [5, 8, 9, 10, 18, 19, 20, 21, 22, 23, 24, 25, 26, 27, 28, 29, 30, 31, 32, 33, 34, 35, 36, 37, 38] (fun mz f s => ∃ (k : Nat) (l : List Nm) (u : List Blk) (av : Option Addr) (cv : Nat), f 18 = .int .i64 k ∧ s = (u ++ ((g2, .cells #[.int .i64 N, .slice av l.length cv] 28) :: ((g1, .cells #[.int .i64 0, .slice none 0 0] 28) :: []))) ∧ mz = N - k ∧ k ≤ N ∧ Hid (gather (fun t => fe (t / N) (t % N)) (i * N + k) = .ok l) ∧ OwnN u (.slice av l.length cv) l) ((fun (k : Nat) (l : List Nm) (u : List Blk) (av : Option Addr) (cv : Nat) => N - k) (0) (l) (u) (av) (cv)) ?_ Kx ?_
 ·exact ⟨0, l, u, av, cv, rfl, rfl, rfl, by omega, hd2, hd3⟩
 rintro mz f2 s ⟨k, l, u, av, cv, hs2_18, rfl, hn, he1, he2, he3⟩
 simp only [Act.putF, List.foldl_cons, List.foldl_nil, hs2_18, Act.put, Act.eval, qW, Nat.reduceAdd, Bool.not_true, Bool.not_false]
 clear hs2_18
 have hll : l.length ≤ 36 := by (have h1 := gather_len he2.out; have h2 := ix_small (i := i) (N := N) Ox hN; omega)
 refine wk_seq ?_
 refine Wr [0] ?_
 refine rfb_lss rfl rfl rfl rfl ?_
 rintro (_ | _) h2 <;> try simp only [qd, ne_eq] at h2
 ·simp only [qz]
  refine Zr ?_; refine Wr [0, 0] ?_; refine rf_add rfl rfl rfl rfl (wrap_ok Ox Ox) (Zx ?_); refine rg_nil ?_
  obtain rfl : N = k := by omega
  refine ek_roundF (N - (i + 1)) Ox Kx ?_
  exact ⟨i + 1, l, u, av, cv, rfl, by rfl, by rfl, Ox, (Lib.hid (by rw [← he2.out, Nat.add_mul, Nat.one_mul])), he3⟩
 simp only [qz]
 refine Zr ?_
 refine Wx [0, 0] ?_
 refine Zr ?_
 refine Wx [0, 0, 0, 1, 0, 0, 0, 1, 1, 0] ?_
 refine rg_fnv (numV (fe i k)) Rx hF rfl (by simp only [qm, qs, Act.eval] <;> rfl) ⟨i, k, by omega, by omega, rfl, rfl⟩ Nz ?_
 rcases hr : fe i k with c | z
 ·have hc0 := hE i k c Ox Ox hr
  (try simp only [numV]); refine Zx ?_
  refine Rgn fun g3 => ?_
  simp only [qz]; refine rf_storeR (n := 5) rfl rfl Kx rfl rfl (UpdR.here _ _ _ Nl) Nz (Nw ?_); refine Zx ?_; refine Zr ?_; refine Wx [0, 0] ?_; refine rfb_neq rfl rfl rfl rfl ?_; intro x h3
  obtain rfl : x = true := by (refine h3.symm.trans ?_; exact decide_eq_true Ox)
  clear h3; simp only [qz]; refine Zr ?_; refine Wr [0, 0, 1, 0] ?_; refine rf_build (cs := fun a => #[.int .i64 0, .slice none 0 0]) rfl rfl Kx (Zx ?_); refine rf_storeR (n := 2) rfl rfl Kx rfl rfl (UpdR.there _ (UpdR.app _ (UpdR.there _ (UpdR.here _ _ _ Nl)))) Nz (Nw ?_); refine Zx ?_; refine Zr ?_; refine ek_ret (fun w hw => ⟨rfl, _, run_results2 rfl rfl (Kn.hd0 (Kn.tl (Kn.tlU (Kn.tl hw)))) UU28 rfl Kx, ?_⟩)
  (try simp only [qz])
  have hg := gather_err (t := i * N + k) (c := c) he2.out (by (try dsimp only); rw [ix_div Ox, ix_mod Ox]; exact hr) (N * N) (ix_lt Ox Ox)
  exact ⟨.slice none 0 0, [], by unfold madeR; rw [hg]; rfl, (by unfold madeR; rw [hg]; exact OwnG.nil), .nil hw.below⟩
 (try simp only [numV])
 refine Zx ?_
 refine Rgn fun g3 => ?_
 simp only [qz]
 refine rf_storeR (n := 5) rfl rfl Kx rfl rfl (UpdR.here _ _ _ Nl) Nz (Nw ?_)
 refine Zx ?_
 refine Zr ?_
 refine Wx [0, 0] ?_
 refine rf_neq (b := false) rfl rfl rfl rfl (by decide) (Nq ?_)
 refine Zr ?_
 refine Wr [0, 0, 0, 1, 1, 0, 1] ?_
 refine Fd 0 1 UU28 ?_
 refine rf_load rfl rfl rfl UU26 rfl (fun w hw => (Kn.hd0 (Kn.tlU (Kn.tl hw))).at rfl) (Nq ?_)
 refine rf_loadR (n := 5) rfl rfl rfl UU44 rfl Kx (fun w hw => Kn.hd0 hw) rfl rfl (Nq ?_)
 refine rg_newS (cs := ?_) (ty := ?_) (n := 1) (c := 1) Rx (fun w => ?_) Nz (fun g4 => ?_); rotate_left 2
 focus (go_simp; rfl)
 simp only [qz]
 refine rg_appN (x := z) Rx rfl he3 rfl Ox (perm_atU (l := [_, _]) (((((List.Perm.refl _).cons _).cons _).cons _).cons _)) (fun w hw => Kn.hd0 hw) Nz (fun uN1 aN1 cN1 hON1 => ?_)
 simp only [qz]
 refine Fd 0 1 UU28 ?_
 refine rf_store rfl rfl Kx rfl rfl (UpdR.app _ (UpdR.there _ (UpdR.there _ (UpdR.here _ _ _ Nl)))) Nz (Nq ?_)
 refine Zr ?_
 refine Wr [0, 0] ?_
 refine rf_add rfl rfl rfl rfl (wrap_ok Ox Ox) (Zx ?_)
 refine rg_nil ?_
 refine ek_sub (Sa (sk _ (sk _ (sc _ (sc _ sn)))) _) ?_
 refine ek_roundF (N - (k + 1)) Ox Kx ?_
 exact ⟨k + 1, l ++ [z], uN1, aN1, cN1, rfl, (by simp only [List.length_append, List.length_cons, List.length_nil, Nat.zero_add]), by rfl, Ox, (Lib.hid (by rw [← Nat.add_assoc]; exact gather_ok he2.out (by (try dsimp only); rw [ix_div Ox, ix_mod Ox]; exact hr))), (by simpa using hON1)⟩
def idR (i k : Nat) : NR := .ok (if i = k then Nm.one else Nm.zero)
theorem identity1_any (i k : Nat) (w : World) : Calls Tryz.prog 76 #[.int .i64 (i : Int), .int .i64 (k : Int)] w fun e w' => e = .returned (numV (idR i k)) ∧ Below w.heap.size w w' := by
 go_enter Tryz.func76, Tryz.ntmps76
 refine wk_start ?_
 refine wk_seq ?_
 refine Wr [1, 0] ?_
 refine Rgn fun g1 => ?_
 refine Zx ?_
 refine Zr ?_
 refine Wx [0, 0, 0] ?_
 refine rfb_eql rfl rfl rfl rfl ?_
 rintro (_ | _) h1 <;> try simp only [qd, ne_eq] at h1
 ·simp only [qz]
  refine Zr ?_; refine Wr [0, 1, 0] ?_; refine rf_build (cs := fun a => #[.int .i64 0, .int .i64 0, .int .i64 0, .int .i64 0, .int .i64 0]) rfl rfl Kx (Nq ?_); refine rf_storeR (n := 5) rfl rfl Kx rfl rfl (UpdR.here _ _ _ Nl) Nz (Nw ?_); refine Zx ?_; refine Zr ?_; refine ek_ret (fun w hw => ⟨rfl, _, run_results2 rfl rfl (Kn.hd0 hw) UU44 rfl Kx, ?_⟩); (try simp only [qz])
  exact ⟨by (unfold idR; first | (rw [if_pos Ox]; done) | (rw [if_neg Ox]; done) | (rw [if_pos Ox]; rfl) | (rw [if_neg Ox]; rfl)), hw.below⟩
 simp only [qz]
 refine Zr ?_
 refine Wr [0, 0, 1, 0] ?_
 refine rf_build (cs := fun a => #[a.eval (.const (.int .i64 1)), .int .i64 0, .int .i64 0, .int .i64 0]) rfl rfl Kx (Nq ?_)
 refine rf_build (cs := fun a => #[cellAt (a.eval (.tmp 9)) 0, cellAt (a.eval (.tmp 9)) 1, cellAt (a.eval (.tmp 9)) 2, cellAt (a.eval (.tmp 9)) 3, .int .i64 0]) rfl rfl Kx (Nq ?_)
 refine rf_storeR (n := 5) rfl rfl Kx rfl rfl (UpdR.here _ _ _ Nl) Nz (Nw ?_)
 refine Zx ?_
 refine Zr ?_
 refine ek_ret (fun w hw => ⟨rfl, _, run_results2 rfl rfl (Kn.hd0 hw) UU44 rfl Kx, ?_⟩)
 (try simp only [qz])
 exact ⟨by (unfold idR; first | (rw [if_pos Ox]; done) | (rw [if_neg Ox]; done) | (rw [if_pos Ox]; rfl) | (rw [if_neg Ox]; rfl)), hw.below⟩
def identR (n : Int) : LR := if 1 ≤ n ∧ n ≤ 6 then madeR n.toNat idR else .error 2
theorem identity_any (n : Int) (w : World) : Calls Tryz.prog 30 #[.int .i64 n] w fun e w' => RetM w (rN n.toNat (identR n)) (rL (identR n)) (rC (identR n)) e w' := by
 go_enter Tryz.func30, Tryz.ntmps30
 refine wk_start ?_
 refine wk_seq ?_
 refine Wr [1, 0] ?_
 refine Rgn fun g1 => ?_
 refine Zx ?_
 refine Zr ?_
 refine Wx [0, 0, 0, 0, 0, 0] ?_
 refine rfb_lss rfl rfl rfl rfl ?_
 rintro (_ | _) h1 <;> try simp only [qd, ne_eq] at h1
 ·refine Zx ?_
  apply rg_soft_g
  case hg => rfl
  case hy => (intro w hw; exact Gy)
  simp only [qz]; refine rfb_gtr rfl rfl rfl rfl ?_
  rintro (_ | _) h2 <;> try simp only [qd, ne_eq] at h2
  ·refine Zx ?_
   refine Zr ?_; refine Wx [0, 1, 0, 0, 1, 0] ?_
   obtain ⟨N, rfl⟩ : ∃ N : Nat, n = N := ⟨n.toNat, by omega⟩
   apply rg_retM Rx Kx
   case hargs => exact Ax
   case h => exact fun w hw => made_any N Ox idR _ (fun i k c _ _ h => by cases h) w (FnV.lit Kx (fun w' vs r ⟨i, k, _, _, hv, hr⟩ => by subst hv hr; exact identity1_any i k w'))
   case hz => exact Nz
   intro va2 vc2 u2 hO2; refine Zx ?_; refine rf_storeR (n := 2) rfl rfl Kx rfl rfl (UpdR.app _ (UpdR.here _ _ _ Nl)) Nz (Nw ?_); refine Zx ?_; refine Zr ?_; refine ek_ret (fun w hw => ⟨rfl, _, run_results2 rfl rfl (Kn.hd0 (Kn.tlU hw)) UU28 rfl Kx, ?_⟩); (try simp only [qz])
   have hid : identR (N : Int) = madeR N idR := by (unfold identR; rw [if_pos Ox, Int.toNat_natCast])
   rw [Int.toNat_natCast, hid]
   exact ⟨.slice va2 (rL (madeR N idR)).length vc2, u2, rfl, hO2, hw.made (List.sublist_append_left _ _)⟩
  refine Zx ?_; refine Zr ?_; refine Wr [0, 1, 0] ?_; refine rf_build (cs := fun a => #[.int .i64 0, .slice none 0 0]) rfl rfl Kx (Nq ?_); refine rf_storeR (n := 2) rfl rfl Kx rfl rfl (UpdR.here _ _ _ Nl) Nz (Nw ?_); refine Zx ?_; refine Zr ?_; refine ek_ret (fun w hw => ⟨rfl, _, run_results2 rfl rfl (Kn.hd0 hw) UU28 rfl Kx, ?_⟩); (try simp only [qz])
  have hid : identR n = .error 2 := by (unfold identR; rw [if_neg Ox])
  rw [hid]
  exact ⟨.slice none 0 0, [], rfl, OwnG.nil, .nil hw.below⟩
 refine Zx ?_
 refine Zr ?_
 refine Wr [0, 1, 0] ?_
 refine rf_build (cs := fun a => #[.int .i64 0, .slice none 0 0]) rfl rfl Kx (Nq ?_)
 refine rf_storeR (n := 2) rfl rfl Kx rfl rfl (UpdR.here _ _ _ Nl) Nz (Nw ?_)
 refine Zx ?_
 refine Zr ?_
 refine ek_ret (fun w hw => ⟨rfl, _, run_results2 rfl rfl (Kn.hd0 hw) UU28 rfl Kx, ?_⟩)
 (try simp only [qz])
 have hid : identR n = .error 2 := by (unfold identR; rw [if_neg Ox])
 rw [hid]
 exact ⟨.slice none 0 0, [], rfl, OwnG.nil, .nil hw.below⟩
set_option maxHeartbeats 1000000
def dval : List Int → Int
  | [] => 0
  | x :: xs => x + 4294967296 * dval xs
def Dg (xs : List Int) : Prop := ∀ x ∈ xs, 0 ≤ x ∧ x < 4294967296
def dig (xs : List Int) (k : Nat) : Int := xs.getD k 0
def digs (n : Nat) : List Int := if h : n = 0 then [] else (n % 4294967296 : Nat) :: digs (n / 4294967296)
termination_by n
decreasing_by omega
theorem pw_pos (n : Nat) : (0 : Int) < 4294967296 ^ n := Int.pow_pos Ox
theorem pw_succ (n : Nat) : (4294967296 : Int) ^ (n + 1) = 4294967296 * 4294967296 ^ n := by rw [Int.pow_succ, Int.mul_comm]
theorem Dg.nil : Dg [] := fun _ h => nomatch h
theorem Dg.tail {x : Int} {xs : List Int} (h : Dg (x :: xs)) : Dg xs := fun y hy => h y (by simp [hy])
theorem Dg.app {xs ys : List Int} (h : Dg xs) (k : Dg ys) : Dg (xs ++ ys) := fun x hx => (List.mem_append.1 hx).elim (h x) (k x)
theorem Dg.snoc {xs : List Int} {y : Int} (h : Dg xs) (h0 : 0 ≤ y) (h1 : y < 4294967296) : Dg (xs ++ [y]) := h.app fun x hx => by simp at hx; subst hx; exact ⟨h0, h1⟩
theorem Dg.take {xs : List Int} (h : Dg xs) (n : Nat) : Dg (xs.take n) := fun x hx => h x (List.mem_of_mem_take hx)
theorem Dg.drop {xs : List Int} (h : Dg xs) (n : Nat) : Dg (xs.drop n) := fun x hx => h x (List.mem_of_mem_drop hx)
theorem dig_mem {xs : List Int} {k : Nat} (h : k < xs.length) : dig xs k ∈ xs := by
 unfold dig; rw [List.getD_eq_getElem?_getD, List.getElem?_eq_getElem h]; exact List.getElem_mem h
theorem dig_out {xs : List Int} {k : Nat} (h : xs.length ≤ k) : dig xs k = 0 := by
 unfold dig; rw [List.getD_eq_getElem?_getD, List.getElem?_eq_none h]; rfl
theorem Dg.at {xs : List Int} (h : Dg xs) (k : Nat) : 0 ≤ dig xs k ∧ dig xs k < 4294967296 := by
 rcases Nat.lt_or_ge k xs.length with hk | hk
 ·exact h _ (dig_mem hk)
 ·rw [dig_out hk]; omega
theorem dval_app : ∀ (xs ys : List Int), dval (xs ++ ys) = dval xs + 4294967296 ^ xs.length * dval ys
  | [], ys => by simp [dval]
  | x :: xs, ys => by
    have := dval_app xs ys
    simp only [List.cons_append, dval, List.length_cons]; rw [this, pw_succ]
    grind
theorem dval_snoc (xs : List Int) (y : Int) : dval (xs ++ [y]) = dval xs + 4294967296 ^ xs.length * y := by
 rw [dval_app]; simp [dval]
theorem dval_range : ∀ {xs : List Int}, Dg xs → 0 ≤ dval xs ∧ dval xs < 4294967296 ^ xs.length
  | [], _ => by simp [dval]
  | x :: xs, h => by
    have h1 := dval_range h.tail
    have h2 := h x (by simp)
    simp only [dval, List.length_cons]; rw [pw_succ]
    omega
theorem take_snoc {xs : List Int} {k : Nat} (h : k < xs.length) : xs.take (k + 1) = xs.take k ++ [dig xs k] := by
 unfold dig
 rw [List.take_succ, List.getD_eq_getElem?_getD, List.getElem?_eq_getElem h]
 rfl
theorem dval_take {xs : List Int} {k : Nat} (h : k < xs.length) : dval (xs.take (k + 1)) = dval (xs.take k) + 4294967296 ^ k * dig xs k := by
 rw [take_snoc h, dval_snoc, List.length_take, Nat.min_eq_left Ox]
theorem dval_take_out {xs : List Int} {k : Nat} (h : xs.length ≤ k) : dval (xs.take k) = dval xs := by rw [List.take_of_length_le h]
theorem dval_take' (xs : List Int) (k : Nat) : dval (xs.take (k + 1)) = dval (xs.take k) + 4294967296 ^ k * dig xs k := by
 rcases Nat.lt_or_ge k xs.length with h | h
 ·exact dval_take h
 ·rw [dval_take_out h, dval_take_out Ox, dig_out h]; omega
theorem dval_split (xs : List Int) (k : Nat) : dval xs = dval (xs.take k) + 4294967296 ^ k * dval (xs.drop k) := by
 rcases Nat.lt_or_ge k xs.length with h | h
 ·have := dval_app (xs.take k) (xs.drop k)
  rw [List.take_append_drop, List.length_take, Nat.min_eq_left Ox] at this
  exact this
 ·rw [dval_take_out h, List.drop_of_length_le h]; simp [dval]
theorem dval_zero : ∀ {xs : List Int}, (∀ j, dig xs j = 0) → dval xs = 0
  | [], _ => rfl
  | x :: xs, h => by
    have h1 : dval xs = 0 := dval_zero fun j => h (j + 1)
    have h2 : x = 0 := h 0
    simp only [dval, h1, h2]
    omega
theorem dig_drop (xs : List Int) (k j : Nat) : dig (xs.drop k) j = dig xs (k + j) := by
 unfold dig; rw [List.getD_eq_getElem?_getD, List.getD_eq_getElem?_getD, List.getElem?_drop]
theorem dig_take {xs : List Int} {k j : Nat} (h : j < k) : dig (xs.take k) j = dig xs j := by
 unfold dig; rw [List.getD_eq_getElem?_getD, List.getD_eq_getElem?_getD, List.getElem?_take_of_lt h]
theorem dval_cut {xs : List Int} {k : Nat} (h : ∀ j, k ≤ j → dig xs j = 0) : dval xs = dval (xs.take k) := by
 rw [dval_split xs k, dval_zero (xs := xs.drop k) fun j => by rw [dig_drop]; exact h _ Ox]; simp
theorem digs_zero : digs 0 = [] := by unfold digs; simp
theorem digs_pos {n : Nat} (h : n ≠ 0) : digs n = ((n % 4294967296 : Nat) : Int) :: digs (n / 4294967296) := by rw [digs]; simp [h]
theorem digs_dg (n : Nat) : Dg (digs n) := by
 induction n using Nat.strongRecOn with
 | _ n ih =>
  by_cases h : n = 0
  ·subst h; rw [digs_zero]; exact Dg.nil
  ·rw [digs_pos h]
   intro x hx
   rcases List.mem_cons.1 hx with rfl | hx
   ·omega
   ·exact ih _ Ox x hx
theorem dval_digs (n : Nat) : dval (digs n) = n := by
 induction n using Nat.strongRecOn with
 | _ n ih =>
  by_cases h : n = 0
  ·subst h; rw [digs_zero]; rfl
  ·rw [digs_pos h]
   simp only [dval]; rw [ih _ Ox]
   omega
def Trim (xs : List Int) : Prop := xs = [] ∨ dig xs (xs.length - 1) ≠ 0
theorem digs_trim (n : Nat) : Trim (digs n) := by
 induction n using Nat.strongRecOn with
 | _ n ih =>
  by_cases h : n = 0
  ·subst h; exact .inl digs_zero
  ·rw [digs_pos h]
   refine .inr ?_
   rcases ih (n / 4294967296) Ox with he | he
   ·rw [he]
    have : n / 4294967296 = 0 := by
     have := dval_digs (n / 4294967296)
     rw [he] at this
     simp [dval] at this
     omega
    show ((n % 4294967296 : Nat) : Int) ≠ 0
    omega
   ·have h0 : 0 < (digs (n / 4294967296)).length := by
     rcases Nat.eq_zero_or_pos (digs (n / 4294967296)).length with h0 | h0
     ·rw [List.eq_nil_of_length_eq_zero h0] at he; exact absurd rfl he
     ·exact h0
    rw [show (((n % 4294967296 : Nat) : Int) :: digs (n / 4294967296)).length - 1 = ((digs (n / 4294967296)).length - 1) + 1 by simp; omega]
    exact he
theorem digs_unique : ∀ {xs : List Int}, Dg xs → Trim xs → xs = digs (dval xs).toNat
  | [], _, _ => by simp [dval, digs_zero]
  | x :: xs, h, ht => by
    have hx := h x (by simp)
    have hr := dval_range h.tail
    have ht' : Trim xs := by
      by_cases he : xs = []
      · exact .inl he
      · refine .inr ?_
        have h0 : 0 < xs.length := List.length_pos_iff.2 he
        rcases ht with ht | ht
        · cases ht
        · rw [show (x :: xs).length - 1 = (xs.length - 1) + 1 by simp; omega] at ht
          exact ht
    have hne : (dval (x :: xs)).toNat ≠ 0 := by
      simp only [dval]; intro h0
      have hx0 : x = 0 := by omega
      have hv0 : dval xs = 0 := by omega
      have := digs_unique h.tail ht'
      rw [hv0] at this; simp only [Int.toNat_zero, digs_zero] at this
      subst this
      rcases ht with ht | ht
      · cases ht
      · exact ht hx0
    rw [digs_pos hne]
    have e1 : (((dval (x :: xs)).toNat % 4294967296 : Nat) : Int) = x := by simp only [dval]; omega
    have e2 : (dval (x :: xs)).toNat / 4294967296 = (dval xs).toNat := by simp only [dval]; omega
    rw [e1, e2, ← digs_unique h.tail ht']
theorem trim_eq {xs : List Int} {m : Nat} (h : Dg xs) (hm : m ≤ xs.length) (hz : ∀ j, m ≤ j → dig xs j = 0) (hl : m = 0 ∨ dig xs (m - 1) ≠ 0) : xs.take m = digs (dval xs).toNat := by
 rw [dval_cut hz]
 refine digs_unique (h.take m) ?_
 rcases hl with rfl | hl
 ·exact .inl (by simp)
 ·by_cases h0 : m = 0
  ·subst h0; exact .inl (by simp)
  ·refine .inr ?_
   rw [List.length_take, Nat.min_eq_left hm, dig_take Ox]
   exact hl
theorem digs_len_le {n L : Nat} (h : (n : Int) < 4294967296 ^ L) : (digs n).length ≤ L := by
 rcases Nat.lt_or_ge L (digs n).length with hl | hl
 ·exfalso
  have h1 := dval_digs n
  have h2 := digs_trim n
  rcases h2 with h2 | h2
  ·rw [h2] at hl; simp at hl
  ·have h3 := dval_split (digs n) ((digs n).length - 1)
   have h4 := (dval_range ((digs_dg n).take ((digs n).length - 1))).1
   have h5 : dval ((digs n).drop ((digs n).length - 1)) = dig (digs n) ((digs n).length - 1) := by
    have e : dval ((digs n).drop ((digs n).length - 1)) = dval (((digs n).drop ((digs n).length - 1)).take 1) := by rw [List.take_of_length_le (by simp; omega)]
    rw [e, dval_take (by simp; omega), dig_drop]
    simp [dval]
   have h6 := ((digs_dg n).at ((digs n).length - 1)).1
   rw [h5] at h3
   have h7 : (4294967296 : Int) ^ L ≤ 4294967296 ^ ((digs n).length - 1) := by
    obtain ⟨d, hd⟩ : ∃ d, (digs n).length - 1 = L + d := ⟨(digs n).length - 1 - L, by omega⟩
    rw [hd, Int.pow_add]
    have := pw_pos d
    have := pw_pos L
    have h9 : (1 : Int) ≤ 4294967296 ^ d := by omega
    have := Int.mul_le_mul_of_nonneg_left h9 (c := (4294967296 : Int) ^ L) Ox
    omega
   have h8 : (4294967296 : Int) ^ ((digs n).length - 1) * 1 ≤ 4294967296 ^ ((digs n).length - 1) * dig (digs n) ((digs n).length - 1) :=
    Int.mul_le_mul_of_nonneg_left Ox (by have := pw_pos ((digs n).length - 1); omega)
   omega
 ·exact hl
theorem digs_lt_of_len {m n : Nat} (h : (digs m).length < (digs n).length) : m < n := by
 rcases Nat.lt_or_ge m n with hl | hl
 ·exact hl
 ·exfalso
  have h1 := dval_digs m
  have h2 := (dval_range (digs_dg m)).2
  have := digs_len_le (n := n) (L := (digs m).length) Ox
  omega
theorem lt_of_dig {xs ys : List Int} {i : Nat} (hx : Dg xs) (hy : Dg ys) (hi : i < xs.length) (hl : xs.length = ys.length) (hj : ∀ j, i < j → dig xs j = dig ys j) (h : dig xs i < dig ys i) : dval xs < dval ys := by
 have e1 := dval_split xs (i + 1)
 have e2 := dval_split ys (i + 1)
 have e3 : xs.drop (i + 1) = ys.drop (i + 1) := by
  apply List.ext_getElem
  ·simp [hl]
  ·intro j h1 h2
   have := hj (i + 1 + j) Ox
   simp only [List.length_drop] at h1 h2
   unfold dig at this
   rw [List.getD_eq_getElem?_getD, List.getD_eq_getElem?_getD, List.getElem?_eq_getElem Ox, List.getElem?_eq_getElem Ox] at this
   simpa using this
 rw [dval_take hi] at e1
 rw [dval_take Ox] at e2
 rw [e3] at e1
 have r1 := (dval_range (hx.take i)).2
 have r2 := (dval_range (hy.take i)).1
 rw [List.length_take, Nat.min_eq_left Ox] at r1
 have := pw_pos i
 have h8 : (4294967296 : Int) ^ i * (dig xs i + 1) ≤ 4294967296 ^ i * dig ys i := Int.mul_le_mul_of_nonneg_left Ox Ox
 rw [Int.mul_add] at h8
 omega
theorem eq_of_dig {xs ys : List Int} (hl : xs.length = ys.length) (hj : ∀ j, dig xs j = dig ys j) : xs = ys := by
 apply List.ext_getElem hl
 intro j h1 h2
 have := hj j
 unfold dig at this
 rw [List.getD_eq_getElem?_getD, List.getD_eq_getElem?_getD, List.getElem?_eq_getElem h1, List.getElem?_eq_getElem h2] at this
 simpa using this
theorem dval_set : ∀ {xs : List Int} {j : Nat} (y : Int), j < xs.length → dval (xs.set j y) = dval xs + 4294967296 ^ j * (y - dig xs j)
  | x :: xs, 0, y, _ => by simp [dval, dig]; omega
  | x :: xs, j + 1, y, h => by
    have := dval_set (xs := xs) (j := j) y (by simpa using h)
    simp only [List.set_cons_succ, dval]; rw [this, pw_succ]
    have e : dig (x :: xs) (j + 1) = dig xs j := rfl
    rw [e]
    grind
theorem dig_set {xs : List Int} {j : Nat} (y : Int) (k : Nat) (h : j < xs.length) : dig (xs.set j y) k = if k = j then y else dig xs k := by
 unfold dig
 rw [List.getD_eq_getElem?_getD, List.getElem?_set, List.getD_eq_getElem?_getD]
 split
 ·next e => subst e; simp [h]
 ·next e => rw [if_neg (Ne.symm e)]
theorem Dg.set {xs : List Int} (h : Dg xs) (j : Nat) {y : Int} (h0 : 0 ≤ y) (h1 : y < 4294967296) : Dg (xs.set j y) := fun x hx => by
  rcases List.mem_or_eq_of_mem_set hx with h' | rfl
  · exact h x h'
  · exact ⟨h0, h1⟩
theorem digs_nil_iff {n : Nat} : digs n = [] ↔ n = 0 := by
 constructor
 ·intro h; have := dval_digs n; rw [h] at this; simp [dval] at this; omega
 ·rintro rfl; exact digs_zero
theorem digs_even (n : Nat) : dig (digs n) 0 % 2 = (n : Int) % 2 := by
 by_cases h : n = 0
 ·subst h; rw [digs_zero]; rfl
 ·rw [digs_pos h]
  show ((n % 4294967296 : Nat) : Int) % 2 = _
  omega
theorem plus_step {xs ys zs : List Int} {i : Nat} {cy t : Int} (hl : zs.length = i) (h : dval zs + 4294967296 ^ i * cy = dval (xs.take i) + dval (ys.take i)) (ht : t = cy + dig xs i + dig ys i) :
    dval (zs ++ [t % 4294967296]) + 4294967296 ^ (i + 1) * (t / 4294967296) = dval (xs.take (i + 1)) + dval (ys.take (i + 1)) := by
  rw [dval_snoc, hl, dval_take', dval_take', pw_succ]
  have e : 4294967296 ^ i * (t % 4294967296) + 4294967296 * 4294967296 ^ i * (t / 4294967296) = 4294967296 ^ i * t := by
    have := Int.mul_ediv_add_emod t 4294967296
    grind
  have e2 : (4294967296 : Int) ^ i * t = 4294967296 ^ i * cy + 4294967296 ^ i * dig xs i + 4294967296 ^ i * dig ys i := by rw [ht]; grind
  omega
theorem minus_step {xs ys zs : List Int} {i : Nat} {bo t : Int} (hl : zs.length = i) (h : dval zs = dval (xs.take i) - dval (ys.take i) + 4294967296 ^ i * bo) (ht : t = dig xs i - bo - dig ys i) (q : Int) :
    dval (zs ++ [t + 4294967296 * q]) = dval (xs.take (i + 1)) - dval (ys.take (i + 1)) + 4294967296 ^ (i + 1) * q := by
  rw [dval_snoc, hl, dval_take', dval_take', pw_succ, ht, h]
  grind
abbrev DgE : El Int := ⟨1, fun x => [.int .u32 x], 0, by decide, fun _ => rfl, fun x v hv => by simp at hv; subst hv; rfl⟩
abbrev us (xs : List Int) : List Value := DgE.flat xs
theorem us_get (xs : List Int) (k : Nat) (h : k < xs.length) : (us xs)[k]? = some (.int .u32 (dig xs k)) := by
 have := DgE.get xs k 0 h (by decide)
 simp only [Nat.mul_one, Nat.add_zero] at this
 exact this
theorem us_len (xs : List Int) : (us xs).length = xs.length := by rw [DgE.flat_len]; simp
theorem AS.openU {w : World} {a : Option Addr} {xs : List Int} (h : AS w a (us xs)) (hn : 0 < xs.length) :
    ∃ b off, a = some ⟨b, off, none⟩ ∧ b < w.heap.size ∧ ∀ j, j < xs.length → w.cell? ⟨b, off + j, none⟩ = some (.int .u32 (dig xs j)) := by
  obtain ⟨b, off, ha, hb, hc⟩ := h.openG hn
  exact ⟨b, off, ha, hb, fun j hj => by have := hc j hj 0 (by decide); simpa [dig, El.at] using this⟩
theorem us_take (xs : List Int) (m : Nat) : us (xs.take m) = (us xs).take m := by
 have : ∀ ys : List Int, us ys = ys.map (.int .u32) := fun ys => by
  induction ys with
  | nil => rfl
  | cons y ys ih => rw [us, El.flat_cons, List.map_cons, ← ih]; rfl
 rw [this, this, List.map_take]
theorem AS.take {w : World} {a : Option Addr} {xs : List Int} (h : AS w a (us xs)) (m : Nat) : AS w a (us (xs.take m)) := by
 intro hne
 have hne' : us xs ≠ [] := by intro e; rw [us_take, e] at hne; simp at hne
 obtain ⟨b, off, ha, hb, hc⟩ := h hne'
 refine ⟨b, off, ha, hb, fun j hj => ?_⟩
 rw [us_take] at hj ⊢
 rw [List.length_take] at hj
 rw [hc j Ox, List.getElem?_take, if_pos Ox]
def SA (w : World) (s : Value) (n : Nat) : Prop := ∃ a c, s = .slice a (digs n).length c ∧ AS w a (us (digs n))
def SU (u : List Blk) (s : Value) (n : Nat) : Prop := (∃ a c, s = .slice a (digs n).length c) ∧ ∀ (B : World) (F : List Nat) (w : World), Kn B F u w → SA w s n
theorem SU.mono {u v : List Blk} {s : Value} {n : Nat} (h : SU u s n) (hs : u.Sublist v) : SU v s n := ⟨h.1, fun B F w K => h.2 B F w (K.sub hs)⟩
theorem SU.at {u s : List Blk} {v : Value} {n : Nat} {B w : World} {F : List Nat} (h : SU u v n) (K : Kn B F s w) (hs : u.Sublist s) : SA w v n := h.2 B F w (K.sub hs)
theorem SA.below {w w' : World} {s : Value} {n : Nat} (h : SA w s n) (hb : Below w.heap.size w w') : SA w' s n := let ⟨a, c, e, hA⟩ := h; ⟨a, c, e, hA.below hb⟩
theorem SA.kn {B w : World} {s : List Blk} {v : Value} {n : Nat} (h : SA B v n) (K : Kn B [] s w) : SA w v n := let ⟨a, c, e, hA⟩ := h; ⟨a, c, e, hA.kn0 K⟩
theorem SU.own {e : Nat} {u : List Blk} {v : Value} {n : Nat} {xs : List Int} (h : OwnG DgE e u v xs) (m : Nat) (hm : m ≤ xs.length) (hd : xs.take m = digs n) :
    ∀ {a : Option Addr} {c : Nat}, v = .slice a xs.length c → SU u (.slice a m c) n := by
  intro a c hv; refine ⟨⟨a, c, by rw [← hd, List.length_take, Nat.min_eq_left hm]⟩, fun B F w K => ?_⟩
  obtain ⟨a', cap, e1, hA⟩ := h.as (s := []) (by simpa using K)
  rw [hv] at e1
  injection e1 with e1 e2 e3
  subst e1 e3
  refine ⟨a, c, ?_, ?_⟩
  · rw [← hd, List.length_take, Nat.min_eq_left hm]
  · rw [← hd]; exact hA.take m
theorem SU.nil : SU [] (.slice none 0 0) 0 := ⟨⟨none, 0, by rw [digs_zero]; rfl⟩, fun B F w K => ⟨none, 0, by rw [digs_zero]; rfl, by rw [digs_zero]; exact AS.nil⟩⟩
theorem SA.nil {w : World} : SA w (.slice none 0 0) 0 := ⟨none, 0, by rw [digs_zero]; rfl, by rw [digs_zero]; exact AS.nil⟩
abbrev bgV (n : Int) (s : Value) : Value := .agg #[.bool (decide (n < 0)), s]
def RetB (w : World) (n : Int) (e : Ending) (w' : World) : Prop := ∃ v u, e = .returned v ∧ (∃ s, v = bgV n s ∧ SU u s n.natAbs) ∧ Made w u w'
def RetD (w : World) (n : Nat) (e : Ending) (w' : World) : Prop := ∃ v u, e = .returned v ∧ SU u v n ∧ Made w u w'
theorem uInfo : (Tryz.prog.info? 141).map (fun i => (i.zero, i.size, i.bytes)) = some (some (.int .u32 0), 1, 4) := by kernel_rfl
theorem ip {P : Program} {t : TypeId} {z : Option Value} {n b : Nat} (h : (P.info? t).map (fun i => (i.zero, i.size, i.bytes)) = some (z, n, b)) : ∃ i, P.info? t = some i ∧ i.zero = z ∧ i.size = n ∧ i.bytes = b := by
 cases hi : P.info? t with
 | none => rw [hi] at h; cases h
 | some i => rw [hi] at h; simp at h; exact ⟨i, rfl, h.1, h.2.1, h.2.2⟩
theorem OwnG.val {α : Type} {E : El α} {e : Nat} {u : List Blk} {v : Value} {xs : List α} (h : OwnG E e u v xs) : ∃ a cap, v = .slice a xs.length cap ∧ xs.length ≤ cap := Own.val h
theorem OwnG.as' {α : Type} {E : El α} {e : Nat} {u s : List Blk} {a : Option Addr} {n c : Nat} {xs : List α} {B w : World} {F : List Nat} (h : OwnG E e u (.slice a n c) xs) (K : Kn B F (u ++ s) w) : AS w a (E.flat xs) := by
 obtain ⟨a', cap, e1, hA⟩ := h.as K
 injection e1 with e1 e2 e3
 subst e1
 exact hA
section
variable {R : Option Nat} {ops : Array Oper} {Q : Exit → Act → World → Prop} {B : World} {F : List Nat} {s0 : Option (List Blk × List Blk)}
variable {l : List (Oper × Nat)} {a : Act} {s S : List Blk} {d : Option Tmp} {t : TypeId} {p : String} {af : Array Edge} {v : Value}
theorem rg_pushU {so xo : Operand} {u : List Blk} {xs : List Int} {g1 : Nat} {x : Int} {gd : Option (Nat × Bool)} (hg : Region.wanted ⟨d, .call ⟨.builtin .append, #[so, xo], #[36, 36]⟩, t, p, af, gd⟩ (yielded ops a.tmps) = true)
    (hs : a.eval so = v) (hown : OwnG DgE 141 u v xs) (hx : a.eval xo = .slice (some ⟨g1, 0, none⟩) 1 1) (hn : xs.length ≤ 1000000) (hzz : ∀ z ∈ s0, z.1.Sublist s)
    (h : ∀ u' v', OwnG DgE 141 u' v' (xs ++ [x]) → Rg R Tryz.prog ops Q B F s0 l (a.put d v') (u' ++ s)) :
    Rg R Tryz.prog ops Q B F s0 ((⟨d, .call ⟨.builtin .append, #[so, xo], #[36, 36]⟩, t, p, af, gd⟩, 1) :: l) a ((g1, .cells #[.int .u32 x] 141) :: (u ++ s)) := by
  obtain ⟨i, hi, hz, hsz, hb⟩ := ip uInfo
  refine rg_append1 (E := DgE) (i := i) (z := .int .u32 0) (u := u) (s := (g1, .cells #[.int .u32 x] 141) :: s) (x := x) (g := g1) hg UU36 hi hz hsz rfl Ox hs hown hx Ox List.perm_middle.symm (fun w K => Kn.hd0 K)
    (fun z hz' => (hzz z hz').trans (List.sublist_cons_self _ _)) fun u' v' hO => ?_
  exact rg_sub (Sa (List.sublist_cons_self _ _) _) (fun z hz' => (hzz z hz').trans (Sr _ _)) (h u' v' hO)
end
theorem trimmed_any (xs : List Int) (a : Option Addr) (c : Nat) (hd : Dg xs) (hc : xs.length ≤ c) (hl : xs.length ≤ 1000000) (w : World) (hA : AS w a (us xs)) : Calls Tryz.prog 93 #[.slice a xs.length c] w fun e w' => ∃ m, m ≤ xs.length ∧ e = .returned (.slice a m c) ∧ (∀ j, m ≤ j → dig xs j = 0) ∧ (m = 0 ∨ dig xs (m - 1) ≠ 0) ∧ Below w.heap.size w w' := by
 go_enter Tryz.func93, Tryz.ntmps93
 refine wk_start ?_
 refine wk_seq ?_
 refine Wx [0] ?_
 refine Zr ?_
 refine wk_loopF [0, 3, 4, 5, 6, 7, 8, 9, 10, 11, 12, 13, 14, 15, 16, 17, 18, 19] (fun mz f s => ∃ (m : Nat), f 0 = .slice a m c ∧ f 2 = .slice none 0 0 ∧ s = [] ∧ mz = m ∧ m ≤ xs.length ∧ (∀ j, m ≤ j → dig xs j = 0)) ((fun (m : Nat) => m) (xs.length)) ?_ Kx ?_
 ·exact ⟨xs.length, rfl, rfl, rfl, rfl, by omega, fun j hj => dig_out hj⟩
 rintro mz f1 s ⟨m, hs1_0, hs1_2, rfl, hn, hc1, hc2⟩
 simp only [Act.putF, List.foldl_cons, List.foldl_nil, hs1_0, hs1_2, Act.put, Act.eval, qW, Nat.reduceAdd, Bool.not_true, Bool.not_false]
 clear hs1_0 hs1_2
 refine wk_seq (wk_seq ?_)
 refine Wx [0, 0, 0, 0, 0, 0, 0, 0, 0, 0, 0, 0] ?_
 refine rf_len rfl rfl rfl UU36 (Nq ?_)
 refine rfb_gtr rfl rfl rfl rfl ?_
 rintro (_ | _) h1 <;> try simp only [qd, ne_eq] at h1
 ·refine Zx ?_
  refine Zr ?_; refine Wx [0, 0] ?_; refine Zr ?_
  refine Er fun w hw => ?_
  (try simp only [qz])
  exact ⟨m, hc1, rfl, hc2, Or.inl Ox, hw.below⟩
 simp only [qz]
 obtain ⟨b, off, rfl, hlt, hcell⟩ := AS.openU hA Ox
 have hdg := hd.at (m - 1)
 refine Zx ?_
 apply rg_soft_g
 case hg => rfl
 case hy => (intro w hw; exact Gy)
 simp only [qz]
 apply rg_soft_g
 case hg => rfl
 case hy => (intro w hw; exact Gy)
 simp only [qz]
 refine rf_len rfl rfl rfl UU36 (Nq ?_)
 refine rf_sub rfl rfl rfl rfl (wrap_ok Ox Ox) (Nq ?_)
 refine rf_indexS (n := m - 1) (sz := 1) (j := off + (m - 1) * 1) rfl rfl rfl rfl UU36 Kx Ox Ox rfl (Nq ?_)
 refine rf_load rfl rfl rfl UU141 rfl (fun w hw => (by have := (Kn.cellB hw hlt (by simp) (off + (m - 1))).trans (hcell (m - 1) Ox); simpa using this)) (Nq ?_)
 refine rfb_eql rfl rfl rfl rfl ?_
 rintro (_ | _) h2 <;> try simp only [qd, ne_eq] at h2
 ·refine Zx ?_
  refine Zr ?_; refine Wx [0, 0] ?_; refine Zr ?_
  refine Er fun w hw => ?_
  (try simp only [qz])
  exact ⟨m, hc1, rfl, hc2, Or.inr Ox, hw.below⟩
 refine Zx ?_
 refine Zr ?_
 refine Wx [0, 0, 0, 0, 0, 0] ?_
 refine rf_len rfl rfl rfl UU36 (Nq ?_)
 refine rf_sub rfl rfl rfl rfl (wrap_ok Ox Ox) (Nq ?_)
 refine rf_sliceTo (n := m - 1) (sz := 1) rfl rfl rfl rfl UU36 Kx Ox Ox (Zx ?_)
 refine rg_nil (ek_block ?_)
 refine ek_roundF (m - 1) Ox Kx ?_
 exact ⟨m - 1, rfl, rfl, by rfl, by rfl, by omega, fun j hj => if he : j = m - 1 then (by subst he; omega) else hc2 j Ox⟩
theorem bplus_any (xs ys : List Int) (a a2 : Option Addr) (c c2 : Nat) (hd : Dg xs) (hd2 : Dg ys) (hl : xs.length ≤ 100000) (hl2 : ys.length ≤ 100000) (w : World) (hA : AS w a (us xs)) (hA2 : AS w a2 (us ys)) : Calls Tryz.prog 90 #[.slice a xs.length c, .slice a2 ys.length c2] w fun e w' => RetD w (dval xs + dval ys).toNat e w' := by
 go_enter Tryz.func90, Tryz.ntmps90
 refine wk_start ?_
 refine wk_seq ?_
 refine Wx [0] ?_
 refine Zr ?_
 refine Wx [0] ?_
 refine Zr ?_
 refine Wx [0] ?_
 refine Zr ?_
 refine Wx [0] ?_
 refine Zr ?_
 refine wk_loopF [5, 6, 7, 8, 9, 10, 11, 12, 13, 14, 15, 16, 17, 18, 19, 20, 21, 22, 23, 24, 25, 26, 27, 28, 29, 30, 31, 32, 33, 34, 35, 36, 37, 38, 39, 40, 41, 42, 43, 44, 45, 46, 47, 48, 49, 50, 51, 52] (fun mz f s => ∃ (i : Nat) (cy : Int) (v : Value) (u : List Blk) (zs : List Int), f 5 = v ∧ f 6 = .int .u64 cy ∧ f 7 = .int .i64 i ∧ s = (u ++ []) ∧ mz = 1000000 - i ∧ OwnG DgE 141 u v zs ∧ Dg zs ∧ zs.length ≤ i ∧ i ≤ zs.length ∧ 0 ≤ cy ∧ cy ≤ 1 ∧ dval zs + 4294967296 ^ i * cy = dval (xs.take i) + dval (ys.take i) ∧ (i ≤ 100000 ∨ i ≤ 100001 ∧ cy = 0)) ((fun (i : Nat) (cy : Int) (v : Value) (u : List Blk) (zs : List Int) => 1000000 - i) (0) (0) (.slice none 0 0) ([]) ([])) ?_ Kx ?_
 ·exact ⟨0, 0, .slice none 0 0, [], [], rfl, rfl, rfl, rfl, rfl, OwnG.nil, Dg.nil, by simp, by simp, by omega, by omega, by simp [dval], by omega⟩
 rintro mz f1 s ⟨i, cy, v, u, zs, hs1_5, hs1_6, hs1_7, rfl, hn, hc1, hc2, hc3, hc4, hc5, hc6, hc7, hc8⟩
 simp only [Act.putF, List.foldl_cons, List.foldl_nil, hs1_5, hs1_6, hs1_7, Act.put, Act.eval, qW, Nat.reduceAdd, Bool.not_true, Bool.not_false]
 clear hs1_5 hs1_6 hs1_7
 have hO := hc1
 have hdz := hc2
 have heq := Lib.hid hc7
 clear hc2 hc7
 refine wk_seq (wk_seq ?_)
 refine Wx [0, 0, 0, 0, 0, 0, 0, 0, 0, 0, 0, 0, 0, 0] ?_
 refine rf_len rfl rfl rfl UU36 (Nq ?_)
 refine rfb_lss rfl rfl rfl rfl ?_
 rintro (_ | _) h1 <;> try simp only [qd, ne_eq] at h1
 ·refine Zx ?_
  apply rg_soft_g
  case hg => rfl
  case hy => (intro w hw; exact Gy)
  simp only [qz]; apply rg_soft_g
  case hg => rfl
  case hy => (intro w hw; exact Gy)
  simp only [qz]; refine rf_len rfl rfl rfl UU36 (Nq ?_); refine rfb_lss rfl rfl rfl rfl ?_
  rintro (_ | _) h2 <;> try simp only [qd, ne_eq] at h2
  ·refine Zx ?_
   apply rg_soft_g
   case hg => rfl
   case hy => (intro w hw; exact Gy)
   simp only [qz]; refine rfb_gtr rfl rfl rfl rfl ?_
   rintro (_ | _) h3 <;> try simp only [qd, ne_eq] at h3
   ·refine Zx ?_
    refine Zr ?_; refine Wx [0, 1, 0] ?_
    obtain ⟨a0, c0, rfl, hcap⟩ := hO.val
    apply (rg_or (X := fun v => ∃ m, m ≤ zs.length ∧ v = .slice a0 m c0 ∧ (∀ j, m ≤ j → dig zs j = 0) ∧ (m = 0 ∨ dig zs (m - 1) ≠ 0))) Rx Kx
    case hargs => exact Ax
    case h => exact fun w hw => (trimmed_any zs a0 c0 hdz hcap Ox w (hO.as' hw)).mono fun e w' ⟨m, h1, h2, h3, h4, h5⟩ => ⟨_, h2, ⟨m, h1, rfl, h3, h4⟩, h5⟩
    case hz => exact Nz
    rintro v ⟨m, hm1, rfl, hm2, hm3⟩
    refine Zx ?_; refine Zr ?_
    refine Er fun w hw => ?_
    (try simp only [qz])
    have e1 : dval zs = dval xs + dval ys := by
     have h1 := heq.out
     rw [List.take_of_length_le Ox, List.take_of_length_le Ox, show cy = 0 by omega] at h1
     omega
    exact ⟨_, u, rfl, e1 ▸ SU.own hO m hm1 (trim_eq hdz hm1 hm2 hm3) rfl, hw.made (by simp)⟩
   refine Zx ?_; refine Zr ?_; refine Wx [0, 0, 0, 0] ?_; refine rf_len rfl rfl rfl UU36 (Nq ?_); refine rfb_lss rfl rfl rfl rfl ?_
   rintro (_ | _) h4 <;> try simp only [qd, ne_eq] at h4
   ·simp only [qz]
    have dx := hd.at i
    have dy := hd2.at i
    have zx := dig_out (xs := xs) (k := i) Ox
    refine Zr ?_; refine Wx [0, 0, 0, 0] ?_; refine rf_len rfl rfl rfl UU36 (Nq ?_); refine rfb_lss rfl rfl rfl rfl ?_
    rintro (_ | _) h5 <;> try simp only [qd, ne_eq] at h5
    ·simp only [qz]
     have zy := dig_out (xs := ys) (k := i) Ox
     refine Zr ?_; refine Wx [0, 0, 0, 1, 1, 0] ?_; refine rf_conv rfl rfl rfl UU140 UU141 (IntKind.wrap_u32 _) (Nq ?_)
     refine rg_newS (cs := ?_) (ty := ?_) (n := 1) (c := 1) Rx (fun w => ?_) Nz (fun g1 => ?_); rotate_left 2
     focus (go_simp; rfl)
     simp only [qz]; refine rg_pushU rfl rfl hc1 rfl Ox Nz (fun u2 v2 hO2 => ?_); refine Zx ?_; refine rg_nil (ek_next ?_); refine Wx [0, 0, 0] ?_; refine rf_shr (c := 32) (q := 4294967296) rfl rfl rfl rfl rfl (by decide) (Zx ?_); refine Zr ?_; refine Wx [0, 0, 0] ?_; refine rf_add rfl rfl rfl rfl (wrap_ok Ox Ox) (Zx ?_); refine rg_nil ?_
     have hdz' := hdz.snoc (y := (cy) % 4294967296) Ox Ox
     have hst := plus_step (t := cy) Ox heq.out Ox
     refine ek_roundF (1000000 - (i + 1)) Ox Kx ?_
     exact ⟨i + 1, (cy) / 4294967296, v2, u2, zs ++ [(cy) % 4294967296], rfl, rfl, rfl, by rfl, by rfl, hO2, hdz', (by simp; omega), (by simp; omega), Ox, Ox, hst, Ox⟩
    simp only [qz]
    exfalso; omega
   simp only [qz]
   exfalso; omega
  refine Zx ?_; refine Zr ?_; refine Wx [0, 0, 0, 0] ?_; refine rf_len rfl rfl rfl UU36 (Nq ?_); refine rfb_lss rfl rfl rfl rfl ?_
  rintro (_ | _) h6 <;> try simp only [qd, ne_eq] at h6
  ·simp only [qz]
   have dx := hd.at i
   have dy := hd2.at i
   have zx := dig_out (xs := xs) (k := i) Ox
   refine Zr ?_; refine Wx [0, 0, 0, 0] ?_; refine rf_len rfl rfl rfl UU36 (Nq ?_); refine rfb_lss rfl rfl rfl rfl ?_
   rintro (_ | _) h7 <;> try simp only [qd, ne_eq] at h7
   ·simp only [qz]
    exfalso; omega
   simp only [qz]
   obtain ⟨b2, off2, rfl, hlt2, hcell2⟩ := AS.openU hA2 Ox
   refine Zr ?_; refine Wx [0, 0, 0, 0, 0, 0, 0, 0] ?_; refine rf_indexS (n := i) (sz := 1) (j := off2 + i * 1) rfl rfl rfl rfl UU36 Kx Ox Ox rfl (Nq ?_); refine rf_load rfl rfl rfl UU141 rfl (fun w hw => (by have := (Kn.cellB hw hlt2 (by simp) (off2 + i)).trans (hcell2 i Ox); simpa using this)) (Nq ?_); refine rf_conv rfl rfl rfl UU141 UU140 (wrap_okU Ox Ox) (Nq ?_)
   refine rf_add rfl rfl rfl rfl (wrap_okU Ox Ox) (Zx ?_); refine Zr ?_; refine Wx [0, 0, 0, 1, 1, 0] ?_; refine rf_conv rfl rfl rfl UU140 UU141 (IntKind.wrap_u32 _) (Nq ?_)
   refine rg_newS (cs := ?_) (ty := ?_) (n := 1) (c := 1) Rx (fun w => ?_) Nz (fun g3 => ?_); rotate_left 2
   focus (go_simp; rfl)
   simp only [qz]; refine rg_pushU rfl rfl hc1 rfl Ox Nz (fun u4 v4 hO4 => ?_); refine Zx ?_; refine rg_nil (ek_next ?_); refine Wx [0, 0, 0] ?_; refine rf_shr (c := 32) (q := 4294967296) rfl rfl rfl rfl rfl (by decide) (Zx ?_); refine Zr ?_; refine Wx [0, 0, 0] ?_; refine rf_add rfl rfl rfl rfl (wrap_ok Ox Ox) (Zx ?_); refine rg_nil ?_
   have hdz' := hdz.snoc (y := (cy + dig ys i) % 4294967296) Ox Ox
   have hst := plus_step (t := cy + dig ys i) Ox heq.out Ox
   refine ek_roundF (1000000 - (i + 1)) Ox Kx ?_
   exact ⟨i + 1, (cy + dig ys i) / 4294967296, v4, u4, zs ++ [(cy + dig ys i) % 4294967296], rfl, rfl, rfl, by rfl, by rfl, hO4, hdz', (by simp; omega), (by simp; omega), Ox, Ox, hst, Ox⟩
  simp only [qz]
  exfalso; omega
 refine Zx ?_
 refine Zr ?_
 refine Wx [0, 0, 0, 0] ?_
 refine rf_len rfl rfl rfl UU36 (Nq ?_)
 refine rfb_lss rfl rfl rfl rfl ?_
 rintro (_ | _) h8 <;> try simp only [qd, ne_eq] at h8
 ·simp only [qz]
  exfalso; omega
 simp only [qz]
 have dx := hd.at i
 have dy := hd2.at i
 obtain ⟨b, off, rfl, hlt, hcell⟩ := AS.openU hA Ox
 refine Zr ?_
 refine Wx [0, 0, 0, 0, 0, 0, 0, 0] ?_
 refine rf_indexS (n := i) (sz := 1) (j := off + i * 1) rfl rfl rfl rfl UU36 Kx Ox Ox rfl (Nq ?_)
 refine rf_load rfl rfl rfl UU141 rfl (fun w hw => (by have := (Kn.cellB hw hlt (by simp) (off + i)).trans (hcell i Ox); simpa using this)) (Nq ?_)
 refine rf_conv rfl rfl rfl UU141 UU140 (wrap_okU Ox Ox) (Nq ?_)
 refine rf_add rfl rfl rfl rfl (wrap_okU Ox Ox) (Zx ?_)
 refine Zr ?_
 refine Wx [0, 0, 0, 0] ?_
 refine rf_len rfl rfl rfl UU36 (Nq ?_)
 refine rfb_lss rfl rfl rfl rfl ?_
 rintro (_ | _) h9 <;> try simp only [qd, ne_eq] at h9
 ·simp only [qz]
  have zy := dig_out (xs := ys) (k := i) Ox
  refine Zr ?_; refine Wx [0, 0, 0, 1, 1, 0] ?_; refine rf_conv rfl rfl rfl UU140 UU141 (IntKind.wrap_u32 _) (Nq ?_)
  refine rg_newS (cs := ?_) (ty := ?_) (n := 1) (c := 1) Rx (fun w => ?_) Nz (fun g5 => ?_); rotate_left 2
  focus (go_simp; rfl)
  simp only [qz]; refine rg_pushU rfl rfl hc1 rfl Ox Nz (fun u6 v6 hO6 => ?_); refine Zx ?_; refine rg_nil (ek_next ?_); refine Wx [0, 0, 0] ?_; refine rf_shr (c := 32) (q := 4294967296) rfl rfl rfl rfl rfl (by decide) (Zx ?_); refine Zr ?_; refine Wx [0, 0, 0] ?_; refine rf_add rfl rfl rfl rfl (wrap_ok Ox Ox) (Zx ?_); refine rg_nil ?_
  have hdz' := hdz.snoc (y := (cy + dig xs i) % 4294967296) Ox Ox
  have hst := plus_step (t := cy + dig xs i) Ox heq.out Ox
  refine ek_roundF (1000000 - (i + 1)) Ox Kx ?_
  exact ⟨i + 1, (cy + dig xs i) / 4294967296, v6, u6, zs ++ [(cy + dig xs i) % 4294967296], rfl, rfl, rfl, by rfl, by rfl, hO6, hdz', (by simp; omega), (by simp; omega), Ox, Ox, hst, Ox⟩
 simp only [qz]
 obtain ⟨b2, off2, rfl, hlt2, hcell2⟩ := AS.openU hA2 Ox
 refine Zr ?_
 refine Wx [0, 0, 0, 0, 0, 0, 0, 0] ?_
 refine rf_indexS (n := i) (sz := 1) (j := off2 + i * 1) rfl rfl rfl rfl UU36 Kx Ox Ox rfl (Nq ?_)
 refine rf_load rfl rfl rfl UU141 rfl (fun w hw => (by have := (Kn.cellB hw hlt2 (by simp) (off2 + i)).trans (hcell2 i Ox); simpa using this)) (Nq ?_)
 refine rf_conv rfl rfl rfl UU141 UU140 (wrap_okU Ox Ox) (Nq ?_)
 refine rf_add rfl rfl rfl rfl (wrap_okU Ox Ox) (Zx ?_)
 refine Zr ?_
 refine Wx [0, 0, 0, 1, 1, 0] ?_
 refine rf_conv rfl rfl rfl UU140 UU141 (IntKind.wrap_u32 _) (Nq ?_)
 refine rg_newS (cs := ?_) (ty := ?_) (n := 1) (c := 1) Rx (fun w => ?_) Nz (fun g7 => ?_); rotate_left 2
 focus (go_simp; rfl)
 simp only [qz]
 refine rg_pushU rfl rfl hc1 rfl Ox Nz (fun u8 v8 hO8 => ?_)
 refine Zx ?_
 refine rg_nil (ek_next ?_)
 refine Wx [0, 0, 0] ?_
 refine rf_shr (c := 32) (q := 4294967296) rfl rfl rfl rfl rfl (by decide) (Zx ?_)
 refine Zr ?_
 refine Wx [0, 0, 0] ?_
 refine rf_add rfl rfl rfl rfl (wrap_ok Ox Ox) (Zx ?_)
 refine rg_nil ?_
 have hdz' := hdz.snoc (y := (cy + dig xs i + dig ys i) % 4294967296) Ox Ox
 have hst := plus_step (t := cy + dig xs i + dig ys i) Ox heq.out Ox
 refine ek_roundF (1000000 - (i + 1)) Ox Kx ?_
 exact ⟨i + 1, (cy + dig xs i + dig ys i) / 4294967296, v8, u8, zs ++ [(cy + dig xs i + dig ys i) % 4294967296], rfl, rfl, rfl, by rfl, by rfl, hO8, hdz', (by simp; omega), (by simp; omega), Ox, Ox, hst, Ox⟩
theorem minus_end {x y bo : Int} {i : Nat} {zs : List Int} (h : dval zs = x - y + 4294967296 ^ i * bo) (hd : Dg zs) (hl : zs.length = i) (hge : y ≤ x) (h0 : 0 ≤ bo) (h1 : bo ≤ 1) : dval zs = x - y := by
 have := (dval_range hd).2
 rw [hl] at this
 rcases (by omega : bo = 0 ∨ bo = 1) with rfl | rfl
 ·omega
 omega
theorem wrap32_ok {n : Int} (h0 : 0 ≤ n) (h1 : n < 4294967296) : IntKind.u32.wrap n = n := by rw [IntKind.wrap_u32]; omega
theorem bminus_any (xs ys : List Int) (a a2 : Option Addr) (c c2 : Nat) (hd : Dg xs) (hd2 : Dg ys) (hl : xs.length ≤ 100000) (hl2 : ys.length ≤ 100000) (hge : dval ys ≤ dval xs) (hlen : ys.length ≤ xs.length) (w : World) (hA : AS w a (us xs)) (hA2 : AS w a2 (us ys)) : Calls Tryz.prog 92 #[.slice a xs.length c, .slice a2 ys.length c2] w fun e w' => RetD w (dval xs - dval ys).toNat e w' := by
 go_enter Tryz.func92, Tryz.ntmps92
 refine wk_start ?_
 refine wk_seq ?_
 refine Wx [0] ?_
 refine Zr ?_
 refine Wx [0] ?_
 refine Zr ?_
 refine Wx [0] ?_
 refine Zr ?_
 refine Wx [0] ?_
 refine Zr ?_
 refine wk_loopF [5, 6, 7, 8, 9, 10, 11, 12, 13, 14, 15, 16, 17, 18, 19, 20, 21, 22, 23, 24, 25, 26, 27, 28, 29, 30, 31, 32, 33, 34, 35, 36, 37, 38, 39, 40, 41] (fun mz f s => ∃ (i : Nat) (bo : Int) (v : Value) (u : List Blk) (zs : List Int), f 5 = v ∧ f 6 = .int .i64 bo ∧ f 7 = .int .i64 i ∧ s = (u ++ []) ∧ mz = xs.length - i ∧ OwnG DgE 141 u v zs ∧ Dg zs ∧ zs.length ≤ i ∧ i ≤ zs.length ∧ 0 ≤ bo ∧ bo ≤ 1 ∧ dval zs = dval (xs.take i) - dval (ys.take i) + 4294967296 ^ i * bo ∧ i ≤ xs.length) ((fun (i : Nat) (bo : Int) (v : Value) (u : List Blk) (zs : List Int) => xs.length - i) (0) (0) (.slice none 0 0) ([]) ([])) ?_ Kx ?_
 ·exact ⟨0, 0, .slice none 0 0, [], [], rfl, rfl, rfl, rfl, rfl, OwnG.nil, Dg.nil, by simp, by simp, by omega, by omega, by simp [dval], by omega⟩
 rintro mz f1 s ⟨i, bo, v, u, zs, hs1_5, hs1_6, hs1_7, rfl, hn, hc1, hc2, hc3, hc4, hc5, hc6, hc7, hc8⟩
 simp only [Act.putF, List.foldl_cons, List.foldl_nil, hs1_5, hs1_6, hs1_7, Act.put, Act.eval, qW, Nat.reduceAdd, Bool.not_true, Bool.not_false]
 clear hs1_5 hs1_6 hs1_7
 have hO := hc1
 have hdz := hc2
 have heq := Lib.hid hc7
 clear hc2 hc7
 refine wk_seq (wk_seq ?_)
 refine Wx [0, 0, 0, 0] ?_
 refine rf_len rfl rfl rfl UU36 (Nq ?_)
 refine rfb_lss rfl rfl rfl rfl ?_
 rintro (_ | _) h1 <;> try simp only [qd, ne_eq] at h1
 ·simp only [qz]
  refine Zr ?_; refine Wx [0, 1, 0] ?_
  obtain ⟨a0, c0, rfl, hcap⟩ := hO.val
  apply (rg_or (X := fun v => ∃ m, m ≤ zs.length ∧ v = .slice a0 m c0 ∧ (∀ j, m ≤ j → dig zs j = 0) ∧ (m = 0 ∨ dig zs (m - 1) ≠ 0))) Rx Kx
  case hargs => exact Ax
  case h => exact fun w hw => (trimmed_any zs a0 c0 hdz hcap Ox w (hO.as' hw)).mono fun e w' ⟨m, h1, h2, h3, h4, h5⟩ => ⟨_, h2, ⟨m, h1, rfl, h3, h4⟩, h5⟩
  case hz => exact Nz
  rintro v ⟨m, hm1, rfl, hm2, hm3⟩
  refine Zx ?_; refine Zr ?_
  refine Er fun w hw => ?_
  (try simp only [qz])
  have e1 : dval zs = dval xs - dval ys := by
   have h1 := heq.out
   rw [List.take_of_length_le Ox, List.take_of_length_le (show ys.length ≤ i by omega)] at h1
   exact minus_end h1 hdz Ox hge hc5 hc6
  exact ⟨_, u, rfl, e1 ▸ SU.own hO m hm1 (trim_eq hdz hm1 hm2 hm3) rfl, hw.made (by simp)⟩
 simp only [qz]
 have dx := hd.at i
 have dy := hd2.at i
 obtain ⟨b, off, rfl, hlt, hcell⟩ := AS.openU hA Ox
 refine Zr ?_
 refine Wx [0, 0, 0, 0, 0, 0, 0, 0] ?_
 refine rf_indexS (n := i) (sz := 1) (j := off + i * 1) rfl rfl rfl rfl UU36 Kx Ox Ox rfl (Nq ?_)
 refine rf_load rfl rfl rfl UU141 rfl (fun w hw => (by have := (Kn.cellB hw hlt (by simp) (off + i)).trans (hcell i Ox); simpa using this)) (Nq ?_)
 refine rf_conv rfl rfl rfl UU141 UU2 (wrap_ok Ox Ox) (Zx ?_)
 refine rf_sub rfl rfl rfl rfl (wrap_ok Ox Ox) (Zx ?_)
 refine Zr ?_
 refine Wx [0, 0, 0, 0] ?_
 refine rf_len rfl rfl rfl UU36 (Nq ?_)
 refine rfb_lss rfl rfl rfl rfl ?_
 rintro (_ | _) h2 <;> try simp only [qd, ne_eq] at h2
 ·simp only [qz]
  have zy := dig_out (xs := ys) (k := i) Ox
  refine Zr ?_; refine Wx [0] ?_; refine Zr ?_; refine Wx [0, 0] ?_; refine rfb_lss rfl rfl rfl rfl ?_
  rintro (_ | _) h3 <;> try simp only [qd, ne_eq] at h3
  ·simp only [qz]
   refine Zr ?_; refine Wx [0, 0, 0, 1, 1, 0] ?_; refine rf_conv rfl rfl rfl UU2 UU141 (wrap32_ok Ox Ox) (Nq ?_)
   refine rg_newS (cs := ?_) (ty := ?_) (n := 1) (c := 1) Rx (fun w => ?_) Nz (fun g1 => ?_); rotate_left 2
   focus (go_simp; rfl)
   simp only [qz]; refine rg_pushU rfl rfl hc1 rfl Ox Nz (fun u2 v2 hO2 => ?_); refine Zx ?_; refine Zr ?_; refine Wx [0, 0, 0] ?_; refine rf_add rfl rfl rfl rfl (wrap_ok Ox Ox) (Zx ?_); refine rg_nil ?_
   have hdz' := hdz.snoc (y := dig xs i - bo) Ox Ox
   have hst := minus_step (t := dig xs i - bo) Ox heq.out Ox 0
   rw [show dig xs i - bo + 4294967296 * 0 = dig xs i - bo by omega] at hst; refine ek_roundF (xs.length - (i + 1)) Ox Kx ?_
   exact ⟨i + 1, 0, v2, u2, zs ++ [dig xs i - bo], rfl, rfl, rfl, by rfl, by rfl, hO2, hdz', (by simp; omega), (by simp; omega), Ox, Ox, hst, Ox⟩
  simp only [qz]; refine Zr ?_; refine Wx [0, 0, 0] ?_; refine rf_add rfl rfl rfl rfl (wrap_ok Ox Ox) (Zx ?_); refine rg_nil (ek_next ?_); refine Wx [0] ?_; refine rg_nil (ek_next ?_); refine Wx [0, 0, 0, 1, 1, 0] ?_; refine rf_conv rfl rfl rfl UU2 UU141 (wrap32_ok Ox Ox) (Nq ?_)
  refine rg_newS (cs := ?_) (ty := ?_) (n := 1) (c := 1) Rx (fun w => ?_) Nz (fun g3 => ?_); rotate_left 2
  focus (go_simp; rfl)
  simp only [qz]; refine rg_pushU rfl rfl hc1 rfl Ox Nz (fun u4 v4 hO4 => ?_); refine Zx ?_; refine Zr ?_; refine Wx [0, 0, 0] ?_; refine rf_add rfl rfl rfl rfl (wrap_ok Ox Ox) (Zx ?_); refine rg_nil ?_
  have hdz' := hdz.snoc (y := dig xs i - bo + 4294967296) Ox Ox
  have hst := minus_step (t := dig xs i - bo) Ox heq.out Ox 1
  rw [show dig xs i - bo + 4294967296 * 1 = dig xs i - bo + 4294967296 by omega] at hst; refine ek_roundF (xs.length - (i + 1)) Ox Kx ?_
  exact ⟨i + 1, 1, v4, u4, zs ++ [dig xs i - bo + 4294967296], rfl, rfl, rfl, by rfl, by rfl, hO4, hdz', (by simp; omega), (by simp; omega), Ox, Ox, hst, Ox⟩
 simp only [qz]
 obtain ⟨b2, off2, rfl, hlt2, hcell2⟩ := AS.openU hA2 Ox
 refine Zr ?_
 refine Wx [0, 0, 0, 0, 0, 0, 0, 0] ?_
 refine rf_indexS (n := i) (sz := 1) (j := off2 + i * 1) rfl rfl rfl rfl UU36 Kx Ox Ox rfl (Nq ?_)
 refine rf_load rfl rfl rfl UU141 rfl (fun w hw => (by have := (Kn.cellB hw hlt2 (by simp) (off2 + i)).trans (hcell2 i Ox); simpa using this)) (Nq ?_)
 refine rf_conv rfl rfl rfl UU141 UU2 (wrap_ok Ox Ox) (Nq ?_)
 refine rf_sub rfl rfl rfl rfl (wrap_ok Ox Ox) (Zx ?_)
 refine Zr ?_
 refine Wx [0] ?_
 refine Zr ?_
 refine Wx [0, 0] ?_
 refine rfb_lss rfl rfl rfl rfl ?_
 rintro (_ | _) h4 <;> try simp only [qd, ne_eq] at h4
 ·simp only [qz]
  refine Zr ?_; refine Wx [0, 0, 0, 1, 1, 0] ?_; refine rf_conv rfl rfl rfl UU2 UU141 (wrap32_ok Ox Ox) (Nq ?_)
  refine rg_newS (cs := ?_) (ty := ?_) (n := 1) (c := 1) Rx (fun w => ?_) Nz (fun g5 => ?_); rotate_left 2
  focus (go_simp; rfl)
  simp only [qz]; refine rg_pushU rfl rfl hc1 rfl Ox Nz (fun u6 v6 hO6 => ?_); refine Zx ?_; refine Zr ?_; refine Wx [0, 0, 0] ?_; refine rf_add rfl rfl rfl rfl (wrap_ok Ox Ox) (Zx ?_); refine rg_nil ?_
  have hdz' := hdz.snoc (y := dig xs i - bo - dig ys i) Ox Ox
  have hst := minus_step (t := dig xs i - bo - dig ys i) Ox heq.out Ox 0
  rw [show dig xs i - bo - dig ys i + 4294967296 * 0 = dig xs i - bo - dig ys i by omega] at hst; refine ek_roundF (xs.length - (i + 1)) Ox Kx ?_
  exact ⟨i + 1, 0, v6, u6, zs ++ [dig xs i - bo - dig ys i], rfl, rfl, rfl, by rfl, by rfl, hO6, hdz', (by simp; omega), (by simp; omega), Ox, Ox, hst, Ox⟩
 simp only [qz]
 refine Zr ?_
 refine Wx [0, 0, 0] ?_
 refine rf_add rfl rfl rfl rfl (wrap_ok Ox Ox) (Zx ?_)
 refine rg_nil (ek_next ?_)
 refine Wx [0] ?_
 refine rg_nil (ek_next ?_)
 refine Wx [0, 0, 0, 1, 1, 0] ?_
 refine rf_conv rfl rfl rfl UU2 UU141 (wrap32_ok Ox Ox) (Nq ?_)
 refine rg_newS (cs := ?_) (ty := ?_) (n := 1) (c := 1) Rx (fun w => ?_) Nz (fun g7 => ?_); rotate_left 2
 focus (go_simp; rfl)
 simp only [qz]
 refine rg_pushU rfl rfl hc1 rfl Ox Nz (fun u8 v8 hO8 => ?_)
 refine Zx ?_
 refine Zr ?_
 refine Wx [0, 0, 0] ?_
 refine rf_add rfl rfl rfl rfl (wrap_ok Ox Ox) (Zx ?_)
 refine rg_nil ?_
 have hdz' := hdz.snoc (y := dig xs i - bo - dig ys i + 4294967296) Ox Ox
 have hst := minus_step (t := dig xs i - bo - dig ys i) Ox heq.out Ox 1
 rw [show dig xs i - bo - dig ys i + 4294967296 * 1 = dig xs i - bo - dig ys i + 4294967296 by omega] at hst
 refine ek_roundF (xs.length - (i + 1)) Ox Kx ?_
 exact ⟨i + 1, 1, v8, u8, zs ++ [dig xs i - bo - dig ys i + 4294967296], rfl, rfl, rfl, by rfl, by rfl, hO8, hdz', (by simp; omega), (by simp; omega), Ox, Ox, hst, Ox⟩
end Go.Proofs.YthjjkajjpejcdaaGreat
