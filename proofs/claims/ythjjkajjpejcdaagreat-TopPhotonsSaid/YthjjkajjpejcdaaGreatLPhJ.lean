/- Texts in one: PhT. -/
import Derived.Test.YthjjkajjpejcdaaGreatLPhI
namespace Go.Proofs.YthjjkajjpejcdaaGreat
set_option linter.all false
set_option maxRecDepth 100000
set_option maxHeartbeats 1000000
open Go.RowKit
theorem mpat_ok (N p : Nat) (h1 : 1 ≤ N) (h6 : N ≤ 6) (hp : p ≤ 5) (w : World) : Calls Tryz.prog 9 #[.int .i64 N, .int .i64 p] w (RetL w (pats N p) 0) := by
 have h := mpatterns_any N p w
 rw [show patR (N : Int) (p : Int) = pats N p by (unfold patR; rw [if_pos Ox, Int.toNat_natCast, Int.toNat_natCast]), show patE (N : Int) (p : Int) = 0 by (unfold patE; rw [if_pos Ox])] at h
 exact h
theorem mlight_m (N : Nat) (xs : List It) (vs : List Nm) (a a' : Option Addr) (c c' mm : Nat) (hmm : vs.length = mm) (hN1 : 1 ≤ N) (hN6 : N ≤ 6) (hlx : xs.length ≤ 5000) (hfit : ∀ j, j < xs.length → fitB N (it xs j) = true) (hvs : vecB vs = true) (hvn : vs.length = N) (r : LR) (hr : liS N xs vs xs.length = r) (w : World) (hA : AS w a (its xs)) (hB : AS w a' (nms vs)) : Calls Tryz.prog 16 #[.int .i64 N, .slice a xs.length c, .slice a' mm c'] w fun e w' => RetV w (rL r) (rC r) e w' := by
 subst hmm hr
 exact mlight_any N xs vs a a' c c' hN1 hN6 hlx hfit hvs (Lib.hid hvn) Ox w hA hB
theorem mlen_m (vs : List Nm) (a' : Option Addr) (c' mm : Nat) (hmm : vs.length = mm) (hl : mm ≤ 1000000) (z : Nm) (cc : Int) (hr : numV (lenM vs) = .tuple #[nmV z, .int .i64 cc]) (w : World) (hB : AS w a' (nms vs)) : Calls Tryz.prog 17 #[.slice a' mm c'] w fun e w' => e = .returned (.tuple #[nmV z, .int .i64 cc]) ∧ Below w.heap.size w w' := by
 subst hmm
 have h := mlength_any vs a' c' hl w hB
 rwa [hr] at h
theorem topPhotons_any (n : Int) (xs : List It) (inn : List Int) (a a' : Option Addr) (c c' : Nat) (w : World) (hA : AS w a (its xs)) (hB : AS w a' (zs inn)) : Calls Tryz.prog 3 #[.int .i64 n, .slice a xs.length c, .slice a' inn.length c'] w fun e w' => e = .returned (.bool true) ∧ Below w.heap.size w w' := by
 go_enter Tryz.func3, Tryz.ntmps3
 refine wk_start ?_
 refine wk_seq ?_
 refine wk_region [0] rfl Kx ?_
 simp only [qy]
 refine rg_assign ?_
 simp only [qz]
 refine rg_nil (ek_next (wk_seq (wk_seq ?_)))
 refine wk_region [0, 0, 0, 0, 0, 0, 0, 0, 0, 0, 0, 0, 0, 0, 1, 0, 0, 0, 0, 0, 0, 0, 0] rfl Kx ?_
 simp only [qy]
 refine rg_move ?_
 simp only [qz]
 refine rfb_lss rfl rfl rfl rfl ?_
 intro x h1
 cases x
 ·(try simp only [qd, ne_eq] at h1)
  simp only [qz]
  refine rg_move ?_
  simp only [qz]
  apply rg_soft_g
  case hg => rfl
  case hy => (intro w hw; go_simp; (try go_bits); exact Yld.mk _ _)
  simp only [qz]
  refine rfb_gtr rfl rfl rfl rfl ?_
  intro x h2
  cases x
  ·(try simp only [qd, ne_eq] at h2)
   simp only [qz]
   refine rf_pick rfl rfl rfl ?_
   simp only [qz]
   refine rg_move ?_
   simp only [qz]
   apply rg_soft_g
   case hg => rfl
   case hy => (intro w hw; go_simp; (try go_bits); exact Yld.mk _ _)
   simp only [qz]
   refine rf_len rfl rfl rfl UU22 ?_
   simp only [qz]
   refine rfb_gtr rfl rfl rfl rfl ?_
   intro x h3
   cases x
   ·(try simp only [qd, ne_eq] at h3)
    simp only [qz]
    refine rf_pick rfl rfl rfl ?_
    simp only [qz]
    refine rg_move ?_
    simp only [qz]
    apply rg_soft_g
    case hg => rfl
    case hy => (intro w hw; go_simp; (try go_bits); exact Yld.mk _ _)
    simp only [qz]
    apply rg_soft_g
    case hg => rfl
    case hy => (intro w hw; go_simp; (try go_bits); exact Yld.mk _ _)
    simp only [qz]
    apply rg_pureb Rx Kx
    case hargs => exact Ax
    case h => exact fun w hw => rvalidItems_any xs a c n w (hA.kn0 hw)
    case hz => exact Nz
    intro x h4
    cases x
    ·(try simp only [qd, ne_eq] at h4)
     simp only [qz]
     refine rf_not rfl rfl rfl ?_
     simp only [qz]
     refine rf_pick rfl rfl rfl ?_
     simp only [qz]
     refine rg_move ?_
     simp only [qz]
     refine rg_skip Rx ?_
     simp only [qz]
     refine rg_skip Rx ?_
     simp only [qz]
     refine rg_skip Rx ?_
     simp only [qz]
     refine rg_skip Rx ?_
     simp only [qz]
     refine rf_pick rfl rfl rfl ?_
     simp only [qz]
     refine rg_nil (ek_next (wk_cond_t rfl (wk_seq ?_)))
     refine wk_region [1, 0] rfl Kx ?_
     simp only [qy]
     apply rg_pure Rx Kx
     case hargs => exact Ax
     case h => exact fun w hw => one_any w
     case hz => exact Nz
     simp only [qz]
     refine rg_assign ?_
     simp only [qz]
     refine rg_nil (ek_next (wk_ret (ek_then_ret ?_)))
     refine ek_ret (fun w hw => ⟨rfl, _, res_t _ rfl, ?_⟩)
     (try simp only [qz])
     first | exact ⟨rfl, hw.below⟩ | exact ⟨trivial, hw.below⟩ | exact hw.below
    (try simp only [qd, ne_eq] at h4)
    simp only [qz]
    obtain ⟨hn1, hn6, hl5, hft⟩ := validB_all (n := n) (xs := xs) h4
    obtain ⟨N, rfl⟩ : ∃ N : Nat, n = N := ⟨n.toNat, by omega⟩
    refine rf_not rfl rfl rfl ?_
    simp only [qz]
    refine rf_pick rfl rfl rfl ?_
    simp only [qz]
    refine rg_move ?_
    simp only [qz]
    apply rg_soft_g
    case hg => rfl
    case hy => (intro w hw; go_simp; (try go_bits); exact Yld.mk _ _)
    simp only [qz]
    refine rf_len rfl rfl rfl UU23 ?_
    simp only [qz]
    apply rg_soft_g
    case hg => rfl
    case hy => (intro w hw; go_simp; (try go_bits); exact Yld.mk _ _)
    simp only [qz]
    refine rfb_neq rfl rfl rfl rfl ?_
    intro x h5
    cases x
    ·(try simp only [qd, ne_eq] at h5)
     simp only [qz]
     have hil : inn.length ≤ N ∧ N ≤ inn.length := by omega
     clear h5
     refine rf_pick rfl rfl rfl ?_
     simp only [qz]
     refine rg_nil (ek_next (wk_cond_f rfl (wk_skip (ek_next (wk_seq ?_)))))
     refine wk_region [0] rfl Kx ?_
     simp only [qy]
     refine rg_assign ?_
     simp only [qz]
     refine rg_nil (ek_next (wk_seq (wk_seq ?_)))
     refine wk_region [0] rfl Kx ?_
     simp only [qy]
     refine rg_assign ?_
     simp only [qz]
     refine rg_nil (ek_next (wk_block ?_))
     refine wk_loopF [6, 7, 8, 54, 55, 56, 57, 58, 59, 60, 61, 62, 63, 64, 65, 66, 67, 68, 69, 70, 71, 72, 73, 74, 75, 76, 77] (fun mz f s => ∃ (i : Nat) (ph : Int), f 7 = .int .i64 ph ∧ f 8 = .int .i64 i ∧ s = [] ∧ mz = N - i ∧ i ≤ N ∧ Hid (sT inn i = ph) ∧ Hid (∀ j, j < i → 0 ≤ gI inn j ∧ gI inn j ≤ 3) ∧ (0 ≤ ph ∧ ph ≤ 3 * i)) ((fun (i : Nat) (ph : Int) => N - i) (0) (0)) ?_ Kx ?_
     ·exact ⟨0, 0, rfl, rfl, rfl, rfl, by omega, Lib.hid rfl, (Lib.hid (fun j hj => by omega)), Ox⟩
     rintro mz f1 s ⟨i, ph, hs1_7, hs1_8, rfl, hn, hd1, hd2, hd3, hd4⟩
     simp only [Act.putF, List.foldl_cons, List.foldl_nil, hs1_7, hs1_8, Act.put, Act.eval, q1, q2, q3, q4, q5, q6, q7, q8, q9, q10, q11, q12, q13, q14, q15, q16, q17, q18, Nat.reduceAdd, Bool.not_true, Bool.not_false]
     clear hs1_7 hs1_8
     refine wk_seq (wk_seq ?_)
     refine wk_region [0, 0, 0] rfl Kx ?_
     simp only [qy]
     refine rg_move ?_
     simp only [qz]
     refine rg_move ?_
     simp only [qz]
     refine rfb_lss rfl rfl rfl rfl ?_
     intro x h6
     cases x
     ·(try simp only [qd, ne_eq] at h6)
      simp only [qz]
      refine rg_nil (ek_next (wk_cond_f rfl (wk_exit (ek_then_exit (ek_then_exit (ek_block_exit (ek_next (wk_seq (wk_seq ?_)))))))))
      refine wk_region [0, 0] rfl Kx ?_
      simp only [qy]
      refine rg_move ?_
      simp only [qz]
      refine rfb_gtr rfl rfl rfl rfl ?_
      intro x h7
      cases x
      ·(try simp only [qd, ne_eq] at h7)
       simp only [qz]
       refine rg_nil (ek_next (wk_cond_f rfl (wk_skip (ek_next (wk_seq ?_)))))
       obtain rfl : N = i := by omega
       have hsum : sT inn inn.length = ph := by rw [show inn.length = N by omega]; exact hd2.out
       obtain ⟨p, rfl⟩ : ∃ p : Nat, ph = p := ⟨ph.toNat, by omega⟩
       have hbI := hd3.out
       have hip : inn ∈ pats N p := by have h := in_pats (o := inn) (N := N) Ox Ox Ox hbI (by rw [hsum]; omega); rwa [hsum, Int.toNat_natCast] at h
       have hI := pat_o Ox Ox Ox hip
       have hpl := pats_le (N := N) (p := p) Ox Ox Ox
       have hpl0 := List.length_pos_of_mem hip
       have hfa : ∀ x ∈ xs, fitB N x = true := fun x hx => by
        obtain ⟨j, hj, rfl⟩ := List.getElem_of_mem hx
        have := hft j hj
        unfold it at this
        rwa [List.getD_eq_getElem?_getD, List.getElem?_eq_getElem hj] at this
       have hmo := Lib.hid (matO_S (N := N) (xs := xs) Ox Ox hl5 hfa)
       obtain ⟨hvec, lx, hlx⟩ := lig_ok (N := N) (o := inn) Ox Ox Ox hbI
       replace hlx := Lib.hid hlx
       replace hbI := Lib.hid hbI
       replace hsum := Lib.hid hsum
       clear hd2 hd3
       refine wk_region [0, 0, 1, 0, 0, 0, 1, 1, 0] rfl Kx ?_
       simp only [qy]
       refine rg_move ?_
       simp only [qz]
       refine rg_move ?_
       simp only [qz]
       rcases hm : matS N xs xs.length with cc | m
       ·obtain rfl : cc = 4 := matS_lim (N := N) (xs := xs) Ox Ox hfa xs.length (Nat.le_refl _) hm
        replace hm := Lib.hid hm
        apply (rg_retM (n := 0) (zs := []) (c := 4)) Rx Kx
        case hargs => exact Ax
        case h => exact fun w hw => by have := matrixOf_any N xs a c w (hA.kn0 hw); rw [hmo.out, hm.out] at this; exact this
        case hz => exact Nz
        intro va1 vc1 u1 hO1
        simp only [qz]
        refine rg_move ?_
        simp only [qz]
        refine rf_extract rfl rfl rfl rfl ?_
        simp only [qz]
        refine rf_extract rfl rfl rfl rfl ?_
        simp only [qz]
        refine Rgn fun g2 => ?_
        simp only [qz]
        refine rf_storeR (n := 2) rfl rfl Kx rfl rfl (UpdR.here _ _ _ Nl) Nz ?_
        simp only [qz, Nat.reduceAdd]
        refine rg_assign ?_
        simp only [qz]
        refine rg_nil (ek_next (wk_seq (wk_seq ?_)))
        refine wk_region [0, 0] rfl Kx ?_
        simp only [qy]
        refine rg_move ?_
        simp only [qz]
        refine rf_neq (b := true) rfl rfl rfl rfl (by decide) ?_
        simp only [qz]
        refine rg_nil (ek_next (wk_cond_t rfl (wk_seq ?_)))
        refine wk_region [0, 0, 0, 1, 0, 0] rfl Kx ?_
        simp only [qy]
        refine rg_move ?_
        simp only [qz]
        refine rf_eql (b := true) rfl rfl rfl rfl (by decide) ?_
        simp only [qz]
        refine rg_move ?_
        simp only [qz]
        apply rg_pure Rx Kx
        case hargs => exact Ax
        case h => exact fun w hw => one_any w
        case hz => exact Nz
        simp only [qz]
        refine rf_pick rfl rfl rfl ?_
        simp only [qz]
        refine rg_assign ?_
        simp only [qz]
        refine rg_nil (ek_next (wk_ret (ek_then_ret ?_)))
        refine ek_ret (fun w hw => ⟨rfl, _, res_t _ rfl, ?_⟩)
        (try simp only [qz])
        first | exact ⟨rfl, hw.below⟩ | exact ⟨trivial, hw.below⟩ | exact hw.below
       obtain ⟨hvm, hum, -, -⟩ := mat_facts (N := N) (xs := xs) Ox Ox hfa hm
       have huC := (unB_C hvm).1 hum
       obtain ⟨ds, hds, hvd, htd⟩ := dagM_ok hvm
       have hml : m.length ≤ 36 := by obtain ⟨_, _, _, _, _, h, _⟩ := validB_N' hvm; exact h
       have hdl : ds.length ≤ 36 := by obtain ⟨_, _, _, _, _, h, _⟩ := validB_N' hvd; exact h
       replace hds := Lib.hid hds
       replace hm := Lib.hid hm
       apply (rg_retM (n := (N : Int)) (zs := m) (c := 0)) Rx Kx
       case hargs => exact Ax
       case h => exact fun w hw => by have := matrixOf_any N xs a c w (hA.kn0 hw); rw [hmo.out, hm.out] at this; exact this
       case hz => exact Nz
       intro va3 vc3 u3 hO3
       simp only [qz]
       refine rg_move ?_
       simp only [qz]
       refine rf_extract rfl rfl rfl rfl ?_
       simp only [qz]
       refine rf_extract rfl rfl rfl rfl ?_
       simp only [qz]
       refine Rgn fun g4 => ?_
       simp only [qz]
       refine rf_storeR (n := 2) rfl rfl Kx rfl rfl (UpdR.here _ _ _ Nl) Nz ?_
       simp only [qz, Nat.reduceAdd]
       refine rg_assign ?_
       simp only [qz]
       refine rg_nil (ek_next (wk_seq (wk_seq ?_)))
       refine wk_region [0, 0] rfl Kx ?_
       simp only [qy]
       refine rg_move ?_
       simp only [qz]
       refine rf_neq (b := false) rfl rfl rfl rfl (by decide) ?_
       simp only [qz]
       refine rg_nil (ek_next (wk_cond_f rfl (wk_skip (ek_next (wk_seq ?_)))))
       refine wk_region [0, 1, 0, 0, 0, 1, 1, 0] rfl Kx ?_
       simp only [qy]
       refine rf_loadR (n := 2) rfl rfl rfl UU28 rfl Kx (fun w hw => Kn.hd0 hw) rfl rfl ?_
       simp only [qz]
       apply (rg_retM (n := (N : Int)) (zs := ds) (c := 0)) Rx Kx
       case hargs => exact Ax
       case h => exact fun w hw => by have := mdagger_any N m va3 vc3 Ox w (OwnN.asN hO3 (hw.perm (perm_atU (l := [_]) (u := u3) (List.Perm.refl _)))); rw [hds.out] at this; exact this
       case hz => exact Nz
       intro va5 vc5 u5 hO5
       simp only [qz]
       refine rg_move ?_
       simp only [qz]
       refine rf_extract rfl rfl rfl rfl ?_
       simp only [qz]
       refine rf_extract rfl rfl rfl rfl ?_
       simp only [qz]
       refine Rgn fun g6 => ?_
       simp only [qz]
       refine rf_storeR (n := 2) rfl rfl Kx rfl rfl (UpdR.here _ _ _ Nl) Nz ?_
       simp only [qz, Nat.reduceAdd]
       refine rg_assign ?_
       simp only [qz]
       refine rg_nil (ek_next (wk_seq ?_))
       refine wk_region [0, 0, 1, 0, 0, 0, 0, 0] rfl Kx ?_
       simp only [qy]
       refine rg_move ?_
       simp only [qz]
       refine rg_move ?_
       simp only [qz]
       apply rg_retL Rx Kx
       case hargs => exact Ax
       case h => exact fun w hw => mpat_ok N p Ox Ox Ox w
       case hz => exact Nz
       intro va7 vc7 u7 hO7
       simp only [qz]
       refine rg_move ?_
       simp only [qz]
       refine rf_extract rfl rfl rfl rfl ?_
       simp only [qz]
       refine rf_extract rfl rfl rfl rfl ?_
       simp only [qz]
       refine rg_assign ?_
       simp only [qz]
       refine rg_assign ?_
       simp only [qz]
       refine rg_nil (ek_next (wk_seq (wk_seq ?_)))
       refine wk_region [0, 0, 0, 0, 0, 0] rfl Kx ?_
       simp only [qy]
       refine rg_move ?_
       simp only [qz]
       refine rf_neq (b := false) rfl rfl rfl rfl (by decide) ?_
       simp only [qz]
       refine rg_move ?_
       simp only [qz]
       apply rg_soft_g
       case hg => rfl
       case hy => (intro w hw; go_simp; (try go_bits); exact Yld.mk _ _)
       simp only [qz]
       refine rf_neq (b := false) rfl rfl rfl rfl (by decide) ?_
       simp only [qz]
       refine rf_pick rfl rfl rfl ?_
       simp only [qz]
       refine rg_nil (ek_next (wk_cond_f rfl (wk_skip (ek_next (wk_seq ?_)))))
       refine wk_region [1] rfl Kx ?_
       simp only [qy]
       refine Rgn fun g8 => ?_
       simp only [qz]
       refine rg_nil (ek_next (wk_seq (wk_seq ?_)))
       rw [wd_zero9]
       refine wk_region [0] rfl Kx ?_
       simp only [qy]
       refine rg_assign ?_
       simp only [qz]
       refine rg_nil (ek_next (wk_block ?_))
       obtain ⟨uQ, uV, hq, rfl, hOQ, hRQ⟩ := hO7
       obtain ⟨gq, cq, rq, rfl, hvq, hlq⟩ := hOQ.open1 hpl0
       cases hvq
       have hlq1 : (pats N p).length ≤ hq.length := by omega
       clear hlq
       simp only [List.append_assoc, List.cons_append, List.nil_append]
       refine wk_loopF [6, 15, 16, 17, 18, 19, 20, 21, 111, 112, 113, 114, 115, 116, 117, 118, 119, 120, 121, 122, 123, 124, 125, 126, 127, 128, 129, 130, 131, 132, 133, 134, 135, 136, 137, 138, 139, 140, 141, 142, 143, 144, 145, 146, 147, 148, 149, 150, 151, 152, 153, 154, 155, 156, 157, 158, 159, 160, 161, 162, 163, 164, 165, 166, 167, 168, 169, 170, 171, 172, 173, 174, 175, 176, 177, 178, 179, 180, 181, 182, 183, 184, 185, 186, 187, 188, 189] (fun mz f s => ∃ (j : Nat) (y : Nm) (ta0 ta1 ta2 ta3 : Option Addr) (tc0 tc1 tc2 tc3 : Nat) (uy : List Blk), f 15 = .int .i64 j ∧ s = (uy ++ ((g8, .cells #[.bool (decide (y.a < 0)), .slice ta0 (digs y.a.natAbs).length tc0, .bool (decide (y.b < 0)), .slice ta1 (digs y.b.natAbs).length tc1, .bool (decide (y.c < 0)), .slice ta2 (digs y.c.natAbs).length tc2, .bool (decide (y.d < 0)), .slice ta3 (digs y.d.natAbs).length tc3, .int .i64 y.k] 41) :: ((gq, .cells (hq ++ rq).toArray 23) :: (uV ++ ((g6, .cells #[.int .i64 N, .slice va5 ds.length vc5] 28) :: (u5 ++ ((g4, .cells #[.int .i64 N, .slice va3 m.length vc3] 28) :: (u3 ++ [])))))))) ∧ mz = (pats N p).length - j ∧ j ≤ (pats N p).length ∧ Hid (SuO N m inn (pats N p) j y) ∧ SK4 w uy y (.slice ta0 (digs y.a.natAbs).length tc0) (.slice ta1 (digs y.b.natAbs).length tc1) (.slice ta2 (digs y.c.natAbs).length tc2) (.slice ta3 (digs y.d.natAbs).length tc3)) ((fun (j : Nat) (y : Nm) (ta0 ta1 ta2 ta3 : Option Addr) (tc0 tc1 tc2 tc3 : Nat) (uy : List Blk) => (pats N p).length - j) (0) (Nm.zero) (none) (none) (none) (none) (0) (0) (0) (0) ([])) ?_ Kx ?_
       ·exact ⟨0, Nm.zero, none, none, none, none, 0, 0, 0, 0, [], rfl, rfl, rfl, (Nat.zero_le _), (Lib.hid suO_start), sk4_zero⟩
       rintro mz f2 s ⟨j, y, ta0, ta1, ta2, ta3, tc0, tc1, tc2, tc3, uy, hs2_15, rfl, hn, hd1, hd2, hd3⟩
       simp only [Act.putF, List.foldl_cons, List.foldl_nil, hs2_15, Act.put, Act.eval, q1, q2, q3, q4, q5, q6, q7, q8, q9, q10, q11, q12, q13, q14, q15, q16, q17, q18, Nat.reduceAdd, Bool.not_true, Bool.not_false]
       clear hs2_15
       refine wk_seq (wk_seq ?_)
       refine wk_region [0, 0, 0, 0] rfl Kx ?_
       simp only [qy]
       refine rg_move ?_
       simp only [qz]
       refine rg_move ?_
       simp only [qz]
       refine rf_len rfl rfl rfl UU33 ?_
       simp only [qz]
       refine rfb_lss rfl rfl rfl rfl ?_
       intro x h8
       cases x
       ·(try simp only [qd, ne_eq] at h8)
        simp only [qz]
        refine rg_nil (ek_next (wk_cond_f rfl (wk_exit (ek_then_exit (ek_then_exit (ek_block_exit (ek_next (wk_seq ?_))))))))
        obtain rfl : (pats N p).length = j := by omega
        have hwn := SuO.fin Ox Ox Ox huC hip hd2.out
        have cny := fun w hs => wnum_any y (.slice ta0 (digs y.a.natAbs).length tc0) (.slice ta1 (digs y.b.natAbs).length tc1) (.slice ta2 (digs y.c.natAbs).length tc2) (.slice ta3 (digs y.d.natAbs).length tc3) (SuO.fit382 hd2.out Ox) hd2.out.k0 (by have := hd2.out.k1; omega) w hs
        rw [hwn] at cny
        replace cny := Lib.hid cny
        clear hwn
        refine wk_region [0, 1, 0, 0, 0, 1, 1, 0] rfl Kx ?_
        simp only [qy]
        refine rf_loadR (n := 9) rfl rfl rfl UU41 rfl Kx (fun w hw => Kn.hd0 (Kn.tlU hw)) rfl rfl ?_
        simp only [qz]
        apply rg_pure Rx Kx
        case hargs => exact Ax
        case h => exact fun w hw => cny.out w (hd3.at hw (List.sublist_append_left _ _))
        case hz => exact Nz
        simp only [qz]
        refine rg_move ?_
        simp only [qz]
        refine rf_extract rfl rfl rfl rfl ?_
        simp only [qz]
        refine rf_extract rfl rfl rfl rfl ?_
        simp only [qz]
        refine Rgn fun g9 => ?_
        simp only [qz]
        refine rf_storeR (n := 5) rfl rfl Kx rfl rfl (UpdR.here _ _ _ Nl) Nz ?_
        simp only [qz, Nat.reduceAdd]
        refine rg_assign ?_
        simp only [qz]
        refine rg_nil (ek_next (wk_seq (wk_seq ?_)))
        refine wk_region [0, 0, 0, 0, 0, 0, 0, 0] rfl Kx ?_
        simp only [qy]
        refine rg_move ?_
        simp only [qz]
        refine rf_not rfl rfl rfl ?_
        simp only [qz]
        refine rg_move ?_
        simp only [qz]
        refine rf_loadR (n := 5) rfl rfl rfl UU44 rfl Kx (fun w hw => Kn.hd0 hw) rfl rfl ?_
        simp only [qz]
        refine rf_build (cs := fun a => #[a.eval (.const (.int .i64 36)), .int .i64 0, .int .i64 0, .int .i64 0]) rfl rfl Kx ?_
        simp only [qz]
        refine rf_build (cs := fun a => #[cellAt (a.eval (.tmp 199)) 0, cellAt (a.eval (.tmp 199)) 1, cellAt (a.eval (.tmp 199)) 2, cellAt (a.eval (.tmp 199)) 3, .int .i64 0]) rfl rfl Kx ?_
        simp only [qz]
        refine rf_neN (u := (cN 36)) (v := (cN 36)) rfl rfl rfl rfl ?_
        rw [decide_eq_true (rfl : (cN 36) = (cN 36))]
        simp only [qz]
        refine rf_pick rfl rfl rfl ?_
        simp only [qz]
        refine rg_nil (ek_next (wk_cond_f rfl (wk_skip (ek_next (wk_seq ?_)))))
        refine wk_region [0, 1, 0] rfl Kx ?_
        simp only [qy]
        refine rg_move ?_
        simp only [qz]
        obtain ⟨iN, hiN, hzN, hsN, hbN⟩ := info_partsN numInfo
        refine rg_make (n := N) (i := iN) Rx UU26 hiN hzN rfl rfl (by rw [hbN]; omega) Ox Nz (fun gz10 => ?_)
        rw [hsN, show (Value.agg #[.int .i64 0, .int .i64 0, .int .i64 0, .int .i64 0, .int .i64 0]).cells = #[.int .i64 0, .int .i64 0, .int .i64 0, .int .i64 0, .int .i64 0] from rfl, madeN]
        simp only [qz]
        refine rg_assign ?_
        simp only [qz]
        refine rg_nil (ek_next (wk_seq (wk_seq ?_)))
        refine wk_region [0] rfl Kx ?_
        simp only [qy]
        refine rg_assign ?_
        simp only [qz]
        refine rg_nil (ek_next (wk_block ?_))
        refine wk_sub (sc _ (sk _ ((sk _ (sk _ ((sk _ ((sk _ (sn.trans (List.sublist_append_right _ _))).trans (List.sublist_append_right _ _))).trans (List.sublist_append_right _ _)))).trans (List.sublist_append_right _ _)))) ?_
        rw [← vST_0 inn N]
        refine wk_loopF [25, 205, 206, 207, 208, 209, 210, 211, 212, 213, 214, 215, 216, 217, 218] (fun mz f s => ∃ (i : Nat), f 25 = .int .i64 i ∧ s = ((gz10, .cells (NmE.flat (vST inn N i) ++ []).toArray 44) :: []) ∧ mz = N - i ∧ i ≤ N) ((fun (i : Nat) => N - i) (0)) ?_ Kx ?_
        ·exact ⟨0, rfl, rfl, rfl, by omega⟩
        rintro mz f3 s ⟨i, hs3_25, rfl, hn, he1⟩
        simp only [Act.putF, List.foldl_cons, List.foldl_nil, hs3_25, Act.put, Act.eval, q1, q2, q3, q4, q5, q6, q7, q8, q9, q10, q11, q12, q13, q14, q15, q16, q17, q18, Nat.reduceAdd, Bool.not_true, Bool.not_false]
        clear hs3_25
        refine wk_seq (wk_seq ?_)
        refine wk_region [0, 0, 0] rfl Kx ?_
        simp only [qy]
        refine rg_move ?_
        simp only [qz]
        refine rg_move ?_
        simp only [qz]
        refine rfb_lss rfl rfl rfl rfl ?_
        intro x h9
        cases x
        ·(try simp only [qd, ne_eq] at h9)
         simp only [qz]
         refine rg_nil (ek_next (wk_cond_f rfl (wk_exit (ek_then_exit (ek_then_exit (ek_block_exit (ek_next (wk_seq ?_))))))))
         obtain rfl : N = i := by omega
         rw [vST_N (show inn.length = N by omega)]
         refine wk_region [0, 0, 0, 1, 0, 0, 0, 0, 0] rfl Kx ?_
         simp only [qy]
         refine rg_move ?_
         simp only [qz]
         refine rg_move ?_
         simp only [qz]
         refine rg_move ?_
         simp only [qz]
         rcases hL : liS N xs (ligV inn) xs.length with cc | l
         ·obtain rfl : cc = 4 := liS_code (N := N) (L := xs) Ox Ox hft hvec (by rw [ligV_len]; omega) xs.length (Nat.le_refl _) hL
          have hL' := Lib.hid hL
          clear hL
          apply (rg_retV (zs := []) (cc := 4)) Rx Kx
          case hargs => exact Ax
          case h => exact fun w hw => mlight_m N xs (ligV inn) a (some ⟨gz10, 0, none⟩) c N N (by rw [ligV_len]; omega) Ox Ox hl5 hft hvec (by rw [ligV_len]; omega) _ hL'.out w (hA.kn0 hw) (OwnN.asN (ownN_fl (g := gz10) (n := N) (by rw [ligV_len]; omega) Ox) (hw.perm (List.Perm.refl _)))
          case hz => exact Nz
          intro va11 vc11 u11 hO11
          simp only [qz]
          refine rg_move ?_
          simp only [qz]
          refine rf_extract rfl rfl rfl rfl ?_
          simp only [qz]
          refine rf_extract rfl rfl rfl rfl ?_
          simp only [qz]
          refine rg_assign ?_
          simp only [qz]
          refine rg_assign ?_
          simp only [qz]
          refine rg_nil (ek_next (wk_seq ?_))
          refine wk_region [0, 1, 0, 0, 0, 1, 1, 0] rfl Kx ?_
          simp only [qy]
          refine rg_move ?_
          simp only [qz]
          apply rg_pure Rx Kx
          case hargs => exact Ax
          case h => exact fun w hw => mlen_m (ligV inn) (some ⟨gz10, 0, none⟩) N N (by rw [ligV_len]; omega) Ox lx 0 (by rw [hlx.out]; rfl) w (OwnN.asN (ownN_fl (g := gz10) (n := N) (by rw [ligV_len]; omega) Ox) (hw.perm ((((List.Perm.refl _).append_left _).trans (List.perm_middle (l₁ := u11))).trans ((List.Perm.refl _).cons _))))
          case hz => exact Nz
          simp only [qz]
          refine rg_move ?_
          simp only [qz]
          refine rf_extract rfl rfl rfl rfl ?_
          simp only [qz]
          refine rf_extract rfl rfl rfl rfl ?_
          simp only [qz]
          refine Rgn fun g12 => ?_
          simp only [qz]
          refine rf_storeR (n := 5) rfl rfl Kx rfl rfl (UpdR.here _ _ _ Nl) Nz ?_
          simp only [qz, Nat.reduceAdd]
          refine rg_assign ?_
          simp only [qz]
          refine rg_nil (ek_next (wk_seq ?_))
          refine wk_region [0, 1, 0, 0, 0, 1, 1, 0] rfl Kx ?_
          simp only [qy]
          refine rg_move ?_
          simp only [qz]
          apply rg_pure Rx Kx
          case hargs => exact Ax
          case h => exact fun w hw => mlen_m [] va11 vc11 0 rfl Ox Nm.zero 20 rfl w AS.nil
          case hz => exact Nz
          simp only [qz]
          refine rg_move ?_
          simp only [qz]
          refine rf_extract rfl rfl rfl rfl ?_
          simp only [qz]
          refine rf_extract rfl rfl rfl rfl ?_
          simp only [qz]
          refine Rgn fun g13 => ?_
          simp only [qz]
          refine rf_storeR (n := 5) rfl rfl Kx rfl rfl (UpdR.here _ _ _ Nl) Nz ?_
          simp only [qz, Nat.reduceAdd]
          refine rg_assign ?_
          simp only [qz]
          refine rg_nil (ek_next (wk_seq (wk_seq ?_)))
          refine wk_region [0, 0] rfl Kx ?_
          simp only [qy]
          refine rg_move ?_
          simp only [qz]
          refine rf_neq (b := true) rfl rfl rfl rfl (by decide) ?_
          simp only [qz]
          refine rg_nil (ek_next (wk_cond_t rfl (wk_seq ?_)))
          refine wk_region [0, 0, 0, 1, 0, 0] rfl Kx ?_
          simp only [qy]
          refine rg_move ?_
          simp only [qz]
          refine rf_eql (b := true) rfl rfl rfl rfl (by decide) ?_
          simp only [qz]
          refine rg_move ?_
          simp only [qz]
          apply rg_pure Rx Kx
          case hargs => exact Ax
          case h => exact fun w hw => one_any w
          case hz => exact Nz
          simp only [qz]
          refine rf_pick rfl rfl rfl ?_
          simp only [qz]
          refine rg_assign ?_
          simp only [qz]
          refine rg_nil (ek_next (wk_ret (ek_then_ret ?_)))
          refine ek_ret (fun w hw => ⟨rfl, _, res_t _ rfl, ?_⟩)
          (try simp only [qz])
          first | exact ⟨rfl, hw.below⟩ | exact ⟨trivial, hw.below⟩ | exact hw.below
         obtain ⟨hvl, hll, -⟩ := liS_ok (N := N) (L := xs) Ox Ox hft hvec (by rw [ligV_len]; omega) xs.length (Nat.le_refl _) hL
         replace hll := Lib.hid hll
         have hL' := Lib.hid hL
         clear hL
         apply (rg_retV (zs := l) (cc := 0)) Rx Kx
         case hargs => exact Ax
         case h => exact fun w hw => mlight_m N xs (ligV inn) a (some ⟨gz10, 0, none⟩) c N N (by rw [ligV_len]; omega) Ox Ox hl5 hft hvec (by rw [ligV_len]; omega) _ hL'.out w (hA.kn0 hw) (OwnN.asN (ownN_fl (g := gz10) (n := N) (by rw [ligV_len]; omega) Ox) (hw.perm (List.Perm.refl _)))
         case hz => exact Nz
         intro va14 vc14 u14 hO14
         simp only [qz]
         refine rg_move ?_
         simp only [qz]
         refine rf_extract rfl rfl rfl rfl ?_
         simp only [qz]
         refine rf_extract rfl rfl rfl rfl ?_
         simp only [qz]
         refine rg_assign ?_
         simp only [qz]
         refine rg_assign ?_
         simp only [qz]
         refine rg_nil (ek_next (wk_seq ?_))
         refine wk_region [0, 1, 0, 0, 0, 1, 1, 0] rfl Kx ?_
         simp only [qy]
         refine rg_move ?_
         simp only [qz]
         apply rg_pure Rx Kx
         case hargs => exact Ax
         case h => exact fun w hw => mlen_m (ligV inn) (some ⟨gz10, 0, none⟩) N N (by rw [ligV_len]; omega) Ox lx 0 (by rw [hlx.out]; rfl) w (OwnN.asN (ownN_fl (g := gz10) (n := N) (by rw [ligV_len]; omega) Ox) (hw.perm ((((List.Perm.refl _).append_left _).trans (List.perm_middle (l₁ := u14))).trans ((List.Perm.refl _).cons _))))
         case hz => exact Nz
         simp only [qz]
         refine rg_move ?_
         simp only [qz]
         refine rf_extract rfl rfl rfl rfl ?_
         simp only [qz]
         refine rf_extract rfl rfl rfl rfl ?_
         simp only [qz]
         refine Rgn fun g15 => ?_
         simp only [qz]
         refine rf_storeR (n := 5) rfl rfl Kx rfl rfl (UpdR.here _ _ _ Nl) Nz ?_
         simp only [qz, Nat.reduceAdd]
         refine rg_assign ?_
         simp only [qz]
         refine rg_nil (ek_next (wk_seq ?_))
         refine wk_region [0, 1, 0, 0, 0, 1, 1, 0] rfl Kx ?_
         simp only [qy]
         refine rg_move ?_
         simp only [qz]
         rcases hY : lenM l with cc | yy
         ·obtain rfl : cc = 4 := lenM_c4 hvl hY
          replace hY := Lib.hid hY
          apply rg_pure Rx Kx
          case hargs => exact Ax
          case h => exact fun w hw => mlen_m l va14 vc14 l.length rfl (by have := hll.out; omega) Nm.zero 4 (by rw [hY.out]; rfl) w (OwnN.asN hO14 (hw.perm (perm_atU (l := [_]) (u := u14) (List.Perm.refl _))))
          case hz => exact Nz
          simp only [qz]
          refine rg_move ?_
          simp only [qz]
          refine rf_extract rfl rfl rfl rfl ?_
          simp only [qz]
          refine rf_extract rfl rfl rfl rfl ?_
          simp only [qz]
          refine Rgn fun g16 => ?_
          simp only [qz]
          refine rf_storeR (n := 5) rfl rfl Kx rfl rfl (UpdR.here _ _ _ Nl) Nz ?_
          simp only [qz, Nat.reduceAdd]
          refine rg_assign ?_
          simp only [qz]
          refine rg_nil (ek_next (wk_seq (wk_seq ?_)))
          refine wk_region [0, 0] rfl Kx ?_
          simp only [qy]
          refine rg_move ?_
          simp only [qz]
          refine rf_neq (b := false) rfl rfl rfl rfl (by decide) ?_
          simp only [qz]
          refine rg_nil (ek_next (wk_cond_f rfl (wk_skip (ek_next (wk_seq ?_)))))
          refine wk_region [0, 0, 0, 0, 0, 0, 0, 0, 0, 0, 0, 0, 0, 0, 0, 0, 1, 0, 0] rfl Kx ?_
          simp only [qy]
          refine rg_move ?_
          simp only [qz]
          refine rf_eql (b := true) rfl rfl rfl rfl (by decide) ?_
          simp only [qz]
          refine rg_move ?_
          simp only [qz]
          apply rg_soft_g
          case hg => rfl
          case hy => (intro w hw; go_simp; (try go_bits); exact Yld.mk _ _)
          simp only [qz]
          refine rf_eql (b := true) rfl rfl rfl rfl (by decide) ?_
          simp only [qz]
          apply rg_soft_g
          case hg => rfl
          case hy => (intro w hw; go_simp; (try go_bits); exact Yld.mk _ _)
          simp only [qz]
          refine rg_skip Rx ?_
          simp only [qz]
          refine rg_skip Rx ?_
          simp only [qz]
          refine rg_skip Rx ?_
          simp only [qz]
          refine rg_skip Rx ?_
          simp only [qz]
          refine rg_skip Rx ?_
          simp only [qz]
          refine rg_skip Rx ?_
          simp only [qz]
          refine rg_skip Rx ?_
          simp only [qz]
          refine rf_pick rfl rfl rfl ?_
          simp only [qz]
          refine rf_pick rfl rfl rfl ?_
          simp only [qz]
          refine rg_move ?_
          simp only [qz]
          apply rg_pure Rx Kx
          case hargs => exact Ax
          case h => exact fun w hw => one_any w
          case hz => exact Nz
          simp only [qz]
          refine rf_pick rfl rfl rfl ?_
          simp only [qz]
          refine rg_assign ?_
          simp only [qz]
          refine rg_nil (ek_next (wk_ret ?_))
          refine ek_ret (fun w hw => ⟨rfl, _, res_t _ rfl, ?_⟩)
          (try simp only [qz])
          first | exact ⟨rfl, hw.below⟩ | exact ⟨trivial, hw.below⟩ | exact hw.below
         obtain rfl : lx = yy := li_same (N := N) (L := xs) Ox Ox hft hvec (by rw [ligV_len]; omega) hL'.out hlx.out hY
         replace hY := Lib.hid hY
         apply rg_pure Rx Kx
         case hargs => exact Ax
         case h => exact fun w hw => mlen_m l va14 vc14 l.length rfl (by have := hll.out; omega) lx 0 (by rw [hY.out]; rfl) w (OwnN.asN hO14 (hw.perm (perm_atU (l := [_]) (u := u14) (List.Perm.refl _))))
         case hz => exact Nz
         simp only [qz]
         refine rg_move ?_
         simp only [qz]
         refine rf_extract rfl rfl rfl rfl ?_
         simp only [qz]
         refine rf_extract rfl rfl rfl rfl ?_
         simp only [qz]
         refine Rgn fun g17 => ?_
         simp only [qz]
         refine rf_storeR (n := 5) rfl rfl Kx rfl rfl (UpdR.here _ _ _ Nl) Nz ?_
         simp only [qz, Nat.reduceAdd]
         refine rg_assign ?_
         simp only [qz]
         refine rg_nil (ek_next (wk_seq (wk_seq ?_)))
         refine wk_region [0, 0] rfl Kx ?_
         simp only [qy]
         refine rg_move ?_
         simp only [qz]
         refine rf_neq (b := false) rfl rfl rfl rfl (by decide) ?_
         simp only [qz]
         refine rg_nil (ek_next (wk_cond_f rfl (wk_skip (ek_next (wk_seq ?_)))))
         refine wk_region [0, 0, 0, 0, 0, 0, 0, 0, 0, 0, 0, 0, 0, 0, 0, 0, 1, 0, 0] rfl Kx ?_
         simp only [qy]
         refine rg_move ?_
         simp only [qz]
         refine rf_eql (b := true) rfl rfl rfl rfl (by decide) ?_
         simp only [qz]
         refine rg_move ?_
         simp only [qz]
         apply rg_soft_g
         case hg => rfl
         case hy => (intro w hw; go_simp; (try go_bits); exact Yld.mk _ _)
         simp only [qz]
         refine rf_eql (b := false) rfl rfl rfl rfl (by decide) ?_
         simp only [qz]
         apply rg_soft_g
         case hg => rfl
         case hy => (intro w hw; go_simp; (try go_bits); exact Yld.mk _ _)
         simp only [qz]
         apply rg_soft_g
         case hg => rfl
         case hy => (intro w hw; go_simp; (try go_bits); exact Yld.mk _ _)
         simp only [qz]
         refine rf_eql (b := true) rfl rfl rfl rfl (by decide) ?_
         simp only [qz]
         apply rg_soft_g
         case hg => rfl
         case hy => (intro w hw; go_simp; (try go_bits); exact Yld.mk _ _)
         simp only [qz]
         refine rf_loadR (n := 5) rfl rfl rfl UU44 rfl Kx (fun w hw => Kn.hd0 (Kn.tl hw)) rfl rfl ?_
         simp only [qz]
         refine rf_loadR (n := 5) rfl rfl rfl UU44 rfl Kx (fun w hw => Kn.hd0 hw) rfl rfl ?_
         simp only [qz]
         refine rf_eqN (u := lx) (v := lx) rfl rfl rfl rfl ?_
         rw [decide_eq_true (rfl : lx = lx)]
         simp only [qz]
         refine rf_pick rfl rfl rfl ?_
         simp only [qz]
         refine rf_pick rfl rfl rfl ?_
         simp only [qz]
         refine rf_pick rfl rfl rfl ?_
         simp only [qz]
         refine rg_move ?_
         simp only [qz]
         apply rg_pure Rx Kx
         case hargs => exact Ax
         case h => exact fun w hw => one_any w
         case hz => exact Nz
         simp only [qz]
         refine rf_pick rfl rfl rfl ?_
         simp only [qz]
         refine rg_assign ?_
         simp only [qz]
         refine rg_nil (ek_next (wk_ret ?_))
         refine ek_ret (fun w hw => ⟨rfl, _, res_t _ rfl, ?_⟩)
         (try simp only [qz])
         first | exact ⟨rfl, hw.below⟩ | exact ⟨trivial, hw.below⟩ | exact hw.below
        (try simp only [qd, ne_eq] at h9)
        simp only [qz]
        refine rg_nil (ek_next (wk_cond_t rfl (wk_skip (ek_next (wk_seq (wk_block ?_))))))
        obtain ⟨b3, o3, rfl, hlt3, hc3⟩ := AS.openI hB Ox
        refine wk_region [0, 0, 0, 0, 0, 0, 0, 0, 0, 1] rfl Kx ?_
        simp only [qy]
        refine rg_move ?_
        simp only [qz]
        refine rg_move ?_
        simp only [qz]
        refine rg_move ?_
        simp only [qz]
        refine rg_move ?_
        simp only [qz]
        refine rf_indexS (n := i) (sz := 1) (j := o3 + i) rfl rfl rfl rfl UU23 Kx Ox Ox Ox ?_
        simp only [qz]
        refine rf_load (v := .int .i64 (gI inn i)) rfl rfl rfl UU3 rfl (fun w hw => (Kn.cellB hw hlt3 (by simp) (o3 + i)).trans (hc3 i Ox)) ?_
        simp only [qz]
        refine rf_build (cs := fun a => #[a.eval (.tmp 215), a.eval (.const (.int .i64 1)), .int .i64 0, .int .i64 0]) rfl rfl Kx ?_
        simp only [qz]
        refine rf_build (cs := fun a => #[cellAt (a.eval (.tmp 216)) 0, cellAt (a.eval (.tmp 216)) 1, cellAt (a.eval (.tmp 216)) 2, cellAt (a.eval (.tmp 216)) 3, .int .i64 0]) rfl rfl Kx ?_
        simp only [qz]
        refine rf_indexS (n := i) (sz := 5) (j := 0 + i * 5) rfl rfl rfl rfl UU26 Kx Ox Ox Ox ?_
        simp only [qz]
        have hsz := nm_sz (vST inn N i) i ⟨gI inn i, 1, 0, 0, 0⟩ (by rw [vST_len Ox Ox]; omega)
        refine rf_storeR (n := 5) (vs := nmC ⟨gI inn i, 1, 0, 0, 0⟩) rfl rfl Kx rfl rfl (UpdR.here _ _ _ hsz) Nz ?_
        rw [nm_fl _ _ _ (by rw [vST_len Ox Ox]; omega), vST_set Ox Ox]
        simp only [qz]
        refine rg_nil (ek_block (ek_next ?_))
        refine wk_region [0, 0, 0] rfl Kx ?_
        simp only [qy]
        refine rg_move ?_
        simp only [qz]
        refine rf_add rfl rfl rfl rfl (wrap_ok Ox Ox) ?_
        simp only [qz]
        refine rg_assign ?_
        simp only [qz]
        refine rg_nil ?_
        refine ek_roundF (N - (i + 1)) Ox Kx ?_
        exact ⟨i + 1, rfl, by rfl, by rfl, Ox⟩
       (try simp only [qd, ne_eq] at h8)
       simp only [qz]
       obtain ⟨o, ho⟩ : ∃ o, (pats N p)[j]? = some o := ⟨_, List.getElem?_eq_getElem Ox⟩
       have hoP := List.mem_of_getElem? ho
       have hO0 := pat_o Ox Ox Ox hoP
       obtain ⟨z, z2, m1, m2, c1, c2, hch1, hch2, hcc1, hcc2, hall⟩ := ch_both hvm hvd htd Ox hI hO0
       obtain ⟨ad, ac, ur, hrow, hOr, hsr⟩ := hRQ.row j Ox
       have hgd : (pats N p).getD j [] = o := by rw [List.getD_eq_getElem?_getD, ho]; rfl
       rw [hgd] at hrow hOr
       obtain ⟨ad1, rfl, hAr⟩ := hOr.addr (by rw [hO0.len]; omega)
       clear hgd
       replace ho := Lib.hid ho
       replace hch1 := Lib.hid hch1
       replace hch2 := Lib.hid hch2
       have hol := hO0.len
       have hol6 : o.length ≤ 6 := by omega
       clear hol
       refine rg_nil (ek_next (wk_cond_t rfl (wk_skip (ek_next (wk_seq (wk_block ?_))))))
       refine wk_cutF [16, 17, 18, 117, 118, 119, 120, 121, 122, 123, 124, 125, 126, 127] (fun f s => ∃ (gy1 : Nat), f 16 = .pointer (some ⟨gy1, 0, none⟩) ∧ f 17 = .int .i64 m1 ∧ f 18 = .int .i64 c1 ∧ s = ((gy1, .cells #[.int .i64 z.a, .int .i64 z.b, .int .i64 z.c, .int .i64 z.d, .int .i64 z.k] 44) :: (uy ++ ((g8, .cells #[.bool (decide (y.a < 0)), .slice ta0 (digs y.a.natAbs).length tc0, .bool (decide (y.b < 0)), .slice ta1 (digs y.b.natAbs).length tc1, .bool (decide (y.c < 0)), .slice ta2 (digs y.c.natAbs).length tc2, .bool (decide (y.d < 0)), .slice ta3 (digs y.d.natAbs).length tc3, .int .i64 y.k] 41) :: ((gq, .cells (hq ++ rq).toArray 23) :: (uV ++ ((g6, .cells #[.int .i64 N, .slice va5 ds.length vc5] 28) :: (u5 ++ ((g4, .cells #[.int .i64 N, .slice va3 m.length vc3] 28) :: (u3 ++ [])))))))))) ?_ ?_
       ·refine wk_rt _ Kx (List.Sublist.append_left (sc _ (sc _ (List.Sublist.append_left (sc _ (List.Sublist.append_left (sc _ (List.Sublist.append_left sn _)) _)) _))) _) ?_
        refine rt_soft (i := 0) rfl Kx (fun c d v a w h => by cases d <;> exact h) (List.Sublist.append_left (sc _ (sc _ (List.Sublist.append_left (sc _ (List.Sublist.append_left (sc _ (List.Sublist.append_left sn _)) _)) _))) _) ?_
        refine rf_loadR (n := 2) rfl rfl rfl UU28 rfl Kx (fun w hw => Kn.hd0 (Kn.tlU (Kn.tl (Kn.tlU (Kn.tl (Kn.tl (Kn.tlU hw))))))) rfl rfl ?_
        simp only [qz]
        refine rg_nil ?_
        refine ek_rt (List.Sublist.append_left (sc _ (sc _ (List.Sublist.append_left (sc _ (List.Sublist.append_left (sc _ (List.Sublist.append_left sn _)) _)) _))) _) ?_
        refine rt_soft (i := 1) rfl Kx (fun c d v a w h => by cases d <;> exact h) (List.Sublist.append_left (sc _ (sc _ (List.Sublist.append_left (sc _ (List.Sublist.append_left (sc _ (List.Sublist.append_left sn _)) _)) _))) _) ?_
        refine rg_move ?_
        simp only [qz]
        refine rg_nil ?_
        refine ek_rt (List.Sublist.append_left (sc _ (sc _ (List.Sublist.append_left (sc _ (List.Sublist.append_left (sc _ (List.Sublist.append_left sn _)) _)) _))) _) ?_
        refine rt_soft (i := 2) rfl Kx (fun c d v a w h => by cases d <;> exact h) (List.Sublist.append_left (sc _ (sc _ (List.Sublist.append_left (sc _ (List.Sublist.append_left (sc _ (List.Sublist.append_left sn _)) _)) _))) _) ?_
        refine rg_move ?_
        simp only [qz]
        refine rg_nil ?_
        refine ek_rt (List.Sublist.append_left (sc _ (sc _ (List.Sublist.append_left (sc _ (List.Sublist.append_left (sc _ (List.Sublist.append_left sn _)) _)) _))) _) ?_
        refine rt_soft (i := 3) rfl Kx (fun c d v a w h => by cases d <;> exact h) (List.Sublist.append_left (sc _ (sc _ (List.Sublist.append_left (sc _ (List.Sublist.append_left (sc _ (List.Sublist.append_left sn _)) _)) _))) _) ?_
        refine rg_move ?_
        simp only [qz]
        refine rg_nil ?_
        refine ek_rt (List.Sublist.append_left (sc _ (sc _ (List.Sublist.append_left (sc _ (List.Sublist.append_left (sc _ (List.Sublist.append_left sn _)) _)) _))) _) ?_
        refine rt_soft (i := 4) rfl Kx (fun c d v a w h => by cases d <;> exact h) (List.Sublist.append_left (sc _ (sc _ (List.Sublist.append_left (sc _ (List.Sublist.append_left (sc _ (List.Sublist.append_left sn _)) _)) _))) _) ?_
        refine rf_indexS (n := j) (sz := 1) (j := j) rfl rfl rfl rfl UU33 Kx Ox Ox Ox ?_
        simp only [qz]
        refine rg_nil ?_
        refine ek_rt (List.Sublist.append_left (sc _ (sc _ (List.Sublist.append_left (sc _ (List.Sublist.append_left (sc _ (List.Sublist.append_left sn _)) _)) _))) _) ?_
        refine rt_soft (i := 5) rfl Kx (fun c d v a w h => by cases d <;> exact h) (List.Sublist.append_left (sc _ (sc _ (List.Sublist.append_left (sc _ (List.Sublist.append_left (sc _ (List.Sublist.append_left sn _)) _)) _))) _) ?_
        refine rf_load (v := .slice (some ad1) o.length ac) rfl rfl rfl UU23 rfl (fun w hw => (Kn.hd0 (Kn.tl (Kn.tlU hw))).at (by rw [List.getElem?_append_left Ox]; exact hrow)) ?_
        simp only [qz]
        refine rg_nil ?_
        refine ek_rt (List.Sublist.append_left (sc _ (sc _ (List.Sublist.append_left (sc _ (List.Sublist.append_left (sc _ (List.Sublist.append_left sn _)) _)) _))) _) ?_
        refine rt_hard2 (i := 6) (j := 11) Kx rfl rfl ?_ ?_
        ·apply rg_pure Rx Kx
         case hargs => exact Ax
         case h => exact fun w hw => by have := mchance_any N m inn o va3 a' (some ad1) vc3 c' ac Ox Ox Ox w (OwnN.asN hO3 (hw.perm ((((((((((((((((List.Perm.refl _).cons _).trans (List.perm_middle (l₁ := u3)).symm).append_left _).trans (List.perm_append_comm_assoc u5 u3 _)).cons _).trans (List.perm_middle (l₁ := u3)).symm).append_left _).trans (List.perm_append_comm_assoc uV u3 _)).cons _).trans (List.perm_middle (l₁ := u3)).symm).cons _).trans (List.perm_middle (l₁ := u3)).symm).append_left _).trans (List.perm_append_comm_assoc uy u3 _)).trans ((List.Perm.refl _).append_left _)))) (hB.kn0 hw) (hAr hw (hsr.trans ((List.Sublist.cons _ (List.Sublist.cons _ (List.sublist_append_left _ _))).trans (List.sublist_append_right _ _)))); rw [hch1.out] at this; exact this
         case hz => exact (fun _ h => by cases h; exact (List.Sublist.append_left (sc _ (sc _ (List.Sublist.append_left (sc _ (List.Sublist.append_left (sc _ (List.Sublist.append_left sn _)) _)) _))) _))
         simp only [qz]
         refine rg_nil ?_
         refine ek_rt (List.Sublist.append_left (sc _ (sc _ (List.Sublist.append_left (sc _ (List.Sublist.append_left (sc _ (List.Sublist.append_left sn _)) _)) _))) _) ?_
         refine rt_soft (i := 7) rfl Kx (fun c d v a w h => by cases d <;> exact h) (List.Sublist.append_left (sc _ (sc _ (List.Sublist.append_left (sc _ (List.Sublist.append_left (sc _ (List.Sublist.append_left sn _)) _)) _))) _) ?_
         refine rg_move ?_
         simp only [qz]
         refine rg_nil ?_
         refine ek_rt (List.Sublist.append_left (sc _ (sc _ (List.Sublist.append_left (sc _ (List.Sublist.append_left (sc _ (List.Sublist.append_left sn _)) _)) _))) _) ?_
         refine rt_soft (i := 8) rfl Kx (fun c d v a w h => by cases d <;> exact h) (List.Sublist.append_left (sc _ (sc _ (List.Sublist.append_left (sc _ (List.Sublist.append_left (sc _ (List.Sublist.append_left sn _)) _)) _))) _) ?_
         refine rf_extract rfl rfl rfl rfl ?_
         simp only [qz]
         refine rg_nil ?_
         refine ek_rt (List.Sublist.append_left (sc _ (sc _ (List.Sublist.append_left (sc _ (List.Sublist.append_left (sc _ (List.Sublist.append_left sn _)) _)) _))) _) ?_
         refine rt_soft (i := 9) rfl Kx (fun c d v a w h => by cases d <;> exact h) (List.Sublist.append_left (sc _ (sc _ (List.Sublist.append_left (sc _ (List.Sublist.append_left (sc _ (List.Sublist.append_left sn _)) _)) _))) _) ?_
         refine rf_extract rfl rfl rfl rfl ?_
         simp only [qz]
         refine rg_nil ?_
         refine ek_rt (List.Sublist.append_left (sc _ (sc _ (List.Sublist.append_left (sc _ (List.Sublist.append_left (sc _ (List.Sublist.append_left sn _)) _)) _))) _) ?_
         refine rt_soft (i := 10) rfl Kx (fun c d v a w h => by cases d <;> exact h) (List.Sublist.append_left (sc _ (sc _ (List.Sublist.append_left (sc _ (List.Sublist.append_left (sc _ (List.Sublist.append_left sn _)) _)) _))) _) ?_
         refine rf_extract rfl rfl rfl rfl ?_
         simp only [qz]
         refine rg_nil ?_
         refine ek_rt (List.Sublist.append_left (sc _ (sc _ (List.Sublist.append_left (sc _ (List.Sublist.append_left (sc _ (List.Sublist.append_left sn _)) _)) _))) _) ?_
         refine rt_hard1 (i := 11) Kx rfl ?_
         refine rg_new (cs := ?_) (ty := ?_) Rx (fun w => ?_) (fun _ h => by cases h; exact (List.Sublist.append_left (sc _ (sc _ (List.Sublist.append_left (sc _ (List.Sublist.append_left (sc _ (List.Sublist.append_left sn _)) _)) _))) _)) (fun g18 => ?_); rotate_left 2
         focus (go_simp; rfl)
         simp only [qz]
         refine rg_nil ?_
         refine ek_rt (sk _ (List.Sublist.append_left (sc _ (sc _ (List.Sublist.append_left (sc _ (List.Sublist.append_left (sc _ (List.Sublist.append_left sn _)) _)) _))) _)) ?_
         refine rt_hard1 (i := 12) Kx rfl ?_
         refine rf_storeR (n := 5) rfl rfl Kx rfl rfl (UpdR.here _ _ _ Nl) (fun _ h => by cases h; exact (sk _ (List.Sublist.append_left (sc _ (sc _ (List.Sublist.append_left (sc _ (List.Sublist.append_left (sc _ (List.Sublist.append_left sn _)) _)) _))) _))) ?_
         simp only [qz, Nat.reduceAdd]
         refine rg_nil ?_
         refine ek_rt (sk _ (List.Sublist.append_left (sc _ (sc _ (List.Sublist.append_left (sc _ (List.Sublist.append_left (sc _ (List.Sublist.append_left sn _)) _)) _))) _)) ?_
         refine rt_soft (i := 13) rfl Kx (fun c d v a w h => by cases d <;> exact h) (sk _ (List.Sublist.append_left (sc _ (sc _ (List.Sublist.append_left (sc _ (List.Sublist.append_left (sc _ (List.Sublist.append_left sn _)) _)) _))) _)) ?_
         refine rg_assign ?_
         simp only [qz]
         refine rg_nil ?_
         refine ek_rt (sk _ (List.Sublist.append_left (sc _ (sc _ (List.Sublist.append_left (sc _ (List.Sublist.append_left (sc _ (List.Sublist.append_left sn _)) _)) _))) _)) ?_
         refine rt_soft (i := 14) rfl Kx (fun c d v a w h => by cases d <;> exact h) (sk _ (List.Sublist.append_left (sc _ (sc _ (List.Sublist.append_left (sc _ (List.Sublist.append_left (sc _ (List.Sublist.append_left sn _)) _)) _))) _)) ?_
         refine rg_assign ?_
         simp only [qz]
         refine rg_nil ?_
         refine ek_rt (sk _ (List.Sublist.append_left (sc _ (sc _ (List.Sublist.append_left (sc _ (List.Sublist.append_left (sc _ (List.Sublist.append_left sn _)) _)) _))) _)) ?_
         refine rt_nil Kx ?_
         refine ek_midF Kx ?_
         exact ⟨g18, rfl, rfl, rfl, by rfl⟩
        refine rg_new (cs := ?_) (ty := ?_) Rx (fun w => ?_) (fun _ h => by cases h; exact (List.Sublist.append_left (sc _ (sc _ (List.Sublist.append_left (sc _ (List.Sublist.append_left (sc _ (List.Sublist.append_left sn _)) _)) _))) _)) (fun g19 => ?_); rotate_left 2
        focus (go_simp; rfl)
        simp only [qz]
        refine rg_nil ?_
        refine ek_rt (sk _ (List.Sublist.append_left (sc _ (sc _ (List.Sublist.append_left (sc _ (List.Sublist.append_left (sc _ (List.Sublist.append_left sn _)) _)) _))) _)) ?_
        refine rt_hard1 (i := 6) Kx rfl ?_
        apply rg_pure Rx Kx
        case hargs => exact Ax
        case h => exact fun w hw => by have := mchance_any N m inn o va3 a' (some ad1) vc3 c' ac Ox Ox Ox w (OwnN.asN hO3 (hw.perm ((((((((((((((((((List.Perm.refl _).cons _).trans (List.perm_middle (l₁ := u3)).symm).append_left _).trans (List.perm_append_comm_assoc u5 u3 _)).cons _).trans (List.perm_middle (l₁ := u3)).symm).append_left _).trans (List.perm_append_comm_assoc uV u3 _)).cons _).trans (List.perm_middle (l₁ := u3)).symm).cons _).trans (List.perm_middle (l₁ := u3)).symm).append_left _).trans (List.perm_append_comm_assoc uy u3 _)).cons _).trans (List.perm_middle (l₁ := u3)).symm).trans ((List.Perm.refl _).append_left _)))) (hB.kn0 hw) (hAr hw (hsr.trans (List.Sublist.cons _ ((List.Sublist.cons _ (List.Sublist.cons _ (List.sublist_append_left _ _))).trans (List.sublist_append_right _ _))))); rw [hch1.out] at this; exact this
        case hz => exact (fun _ h => by cases h; exact (sk _ (List.Sublist.append_left (sc _ (sc _ (List.Sublist.append_left (sc _ (List.Sublist.append_left (sc _ (List.Sublist.append_left sn _)) _)) _))) _)))
        simp only [qz]
        refine rg_nil ?_
        refine ek_rt (sk _ (List.Sublist.append_left (sc _ (sc _ (List.Sublist.append_left (sc _ (List.Sublist.append_left (sc _ (List.Sublist.append_left sn _)) _)) _))) _)) ?_
        refine rt_soft (i := 7) rfl Kx (fun c d v a w h => by cases d <;> exact h) (sk _ (List.Sublist.append_left (sc _ (sc _ (List.Sublist.append_left (sc _ (List.Sublist.append_left (sc _ (List.Sublist.append_left sn _)) _)) _))) _)) ?_
        refine rg_move ?_
        simp only [qz]
        refine rg_nil ?_
        refine ek_rt (sk _ (List.Sublist.append_left (sc _ (sc _ (List.Sublist.append_left (sc _ (List.Sublist.append_left (sc _ (List.Sublist.append_left sn _)) _)) _))) _)) ?_
        refine rt_soft (i := 8) rfl Kx (fun c d v a w h => by cases d <;> exact h) (sk _ (List.Sublist.append_left (sc _ (sc _ (List.Sublist.append_left (sc _ (List.Sublist.append_left (sc _ (List.Sublist.append_left sn _)) _)) _))) _)) ?_
        refine rf_extract rfl rfl rfl rfl ?_
        simp only [qz]
        refine rg_nil ?_
        refine ek_rt (sk _ (List.Sublist.append_left (sc _ (sc _ (List.Sublist.append_left (sc _ (List.Sublist.append_left (sc _ (List.Sublist.append_left sn _)) _)) _))) _)) ?_
        refine rt_soft (i := 9) rfl Kx (fun c d v a w h => by cases d <;> exact h) (sk _ (List.Sublist.append_left (sc _ (sc _ (List.Sublist.append_left (sc _ (List.Sublist.append_left (sc _ (List.Sublist.append_left sn _)) _)) _))) _)) ?_
        refine rf_extract rfl rfl rfl rfl ?_
        simp only [qz]
        refine rg_nil ?_
        refine ek_rt (sk _ (List.Sublist.append_left (sc _ (sc _ (List.Sublist.append_left (sc _ (List.Sublist.append_left (sc _ (List.Sublist.append_left sn _)) _)) _))) _)) ?_
        refine rt_soft (i := 10) rfl Kx (fun c d v a w h => by cases d <;> exact h) (sk _ (List.Sublist.append_left (sc _ (sc _ (List.Sublist.append_left (sc _ (List.Sublist.append_left (sc _ (List.Sublist.append_left sn _)) _)) _))) _)) ?_
        refine rf_extract rfl rfl rfl rfl ?_
        simp only [qz]
        refine rg_nil ?_
        refine ek_rt (sk _ (List.Sublist.append_left (sc _ (sc _ (List.Sublist.append_left (sc _ (List.Sublist.append_left (sc _ (List.Sublist.append_left sn _)) _)) _))) _)) ?_
        refine rt_hard1 (i := 12) Kx rfl ?_
        refine rf_storeR (n := 5) rfl rfl Kx rfl rfl (UpdR.here _ _ _ Nl) (fun _ h => by cases h; exact (sk _ (List.Sublist.append_left (sc _ (sc _ (List.Sublist.append_left (sc _ (List.Sublist.append_left (sc _ (List.Sublist.append_left sn _)) _)) _))) _))) ?_
        simp only [qz, Nat.reduceAdd]
        refine rg_nil ?_
        refine ek_rt (sk _ (List.Sublist.append_left (sc _ (sc _ (List.Sublist.append_left (sc _ (List.Sublist.append_left (sc _ (List.Sublist.append_left sn _)) _)) _))) _)) ?_
        refine rt_soft (i := 13) rfl Kx (fun c d v a w h => by cases d <;> exact h) (sk _ (List.Sublist.append_left (sc _ (sc _ (List.Sublist.append_left (sc _ (List.Sublist.append_left (sc _ (List.Sublist.append_left sn _)) _)) _))) _)) ?_
        refine rg_assign ?_
        simp only [qz]
        refine rg_nil ?_
        refine ek_rt (sk _ (List.Sublist.append_left (sc _ (sc _ (List.Sublist.append_left (sc _ (List.Sublist.append_left (sc _ (List.Sublist.append_left sn _)) _)) _))) _)) ?_
        refine rt_soft (i := 14) rfl Kx (fun c d v a w h => by cases d <;> exact h) (sk _ (List.Sublist.append_left (sc _ (sc _ (List.Sublist.append_left (sc _ (List.Sublist.append_left (sc _ (List.Sublist.append_left sn _)) _)) _))) _)) ?_
        refine rg_assign ?_
        simp only [qz]
        refine rg_nil ?_
        refine ek_rt (sk _ (List.Sublist.append_left (sc _ (sc _ (List.Sublist.append_left (sc _ (List.Sublist.append_left (sc _ (List.Sublist.append_left sn _)) _)) _))) _)) ?_
        refine rt_nil Kx ?_
        refine ek_midF Kx ?_
        exact ⟨g19, rfl, rfl, rfl, by rfl⟩
       rintro f3 s ⟨gy1, hs3_16, hs3_17, hs3_18, rfl⟩
       simp only [Act.putF, List.foldl_cons, List.foldl_nil, hs3_16, hs3_17, hs3_18, Act.put, Act.eval, q1, q2, q3, q4, q5, q6, q7, q8, q9, q10, q11, q12, q13, q14, q15, q16, q17, q18, Nat.reduceAdd, Bool.not_true, Bool.not_false]
       clear hs3_16 hs3_17 hs3_18
       refine wk_cutF [19, 20, 21, 128, 129, 130, 131, 132, 133, 134, 135, 136, 137, 138] (fun f s => ∃ (gy2 : Nat), f 19 = .pointer (some ⟨gy2, 0, none⟩) ∧ f 20 = .int .i64 m2 ∧ f 21 = .int .i64 c2 ∧ s = ((gy2, .cells #[.int .i64 z2.a, .int .i64 z2.b, .int .i64 z2.c, .int .i64 z2.d, .int .i64 z2.k] 44) :: ((gy1, .cells #[.int .i64 z.a, .int .i64 z.b, .int .i64 z.c, .int .i64 z.d, .int .i64 z.k] 44) :: (uy ++ ((g8, .cells #[.bool (decide (y.a < 0)), .slice ta0 (digs y.a.natAbs).length tc0, .bool (decide (y.b < 0)), .slice ta1 (digs y.b.natAbs).length tc1, .bool (decide (y.c < 0)), .slice ta2 (digs y.c.natAbs).length tc2, .bool (decide (y.d < 0)), .slice ta3 (digs y.d.natAbs).length tc3, .int .i64 y.k] 41) :: ((gq, .cells (hq ++ rq).toArray 23) :: (uV ++ ((g6, .cells #[.int .i64 N, .slice va5 ds.length vc5] 28) :: (u5 ++ ((g4, .cells #[.int .i64 N, .slice va3 m.length vc3] 28) :: (u3 ++ []))))))))))) ?_ ?_
       ·refine wk_rt _ Kx (sc _ (List.Sublist.append_left (sc _ (sc _ (List.Sublist.append_left (sc _ (List.Sublist.append_left (sc _ (List.Sublist.append_left sn _)) _)) _))) _)) ?_
        refine rt_soft (i := 0) rfl Kx (fun c d v a w h => by cases d <;> exact h) (sc _ (List.Sublist.append_left (sc _ (sc _ (List.Sublist.append_left (sc _ (List.Sublist.append_left (sc _ (List.Sublist.append_left sn _)) _)) _))) _)) ?_
        refine rf_loadR (n := 2) rfl rfl rfl UU28 rfl Kx (fun w hw => Kn.hd0 (Kn.tlU (Kn.tl (Kn.tl (Kn.tlU (Kn.tl hw)))))) rfl rfl ?_
        simp only [qz]
        refine rg_nil ?_
        refine ek_rt (sc _ (List.Sublist.append_left (sc _ (sc _ (List.Sublist.append_left (sc _ (List.Sublist.append_left (sc _ (List.Sublist.append_left sn _)) _)) _))) _)) ?_
        refine rt_soft (i := 1) rfl Kx (fun c d v a w h => by cases d <;> exact h) (sc _ (List.Sublist.append_left (sc _ (sc _ (List.Sublist.append_left (sc _ (List.Sublist.append_left (sc _ (List.Sublist.append_left sn _)) _)) _))) _)) ?_
        refine rg_move ?_
        simp only [qz]
        refine rg_nil ?_
        refine ek_rt (sc _ (List.Sublist.append_left (sc _ (sc _ (List.Sublist.append_left (sc _ (List.Sublist.append_left (sc _ (List.Sublist.append_left sn _)) _)) _))) _)) ?_
        refine rt_soft (i := 2) rfl Kx (fun c d v a w h => by cases d <;> exact h) (sc _ (List.Sublist.append_left (sc _ (sc _ (List.Sublist.append_left (sc _ (List.Sublist.append_left (sc _ (List.Sublist.append_left sn _)) _)) _))) _)) ?_
        refine rg_move ?_
        simp only [qz]
        refine rg_nil ?_
        refine ek_rt (sc _ (List.Sublist.append_left (sc _ (sc _ (List.Sublist.append_left (sc _ (List.Sublist.append_left (sc _ (List.Sublist.append_left sn _)) _)) _))) _)) ?_
        refine rt_soft (i := 3) rfl Kx (fun c d v a w h => by cases d <;> exact h) (sc _ (List.Sublist.append_left (sc _ (sc _ (List.Sublist.append_left (sc _ (List.Sublist.append_left (sc _ (List.Sublist.append_left sn _)) _)) _))) _)) ?_
        refine rf_indexS (n := j) (sz := 1) (j := j) rfl rfl rfl rfl UU33 Kx Ox Ox Ox ?_
        simp only [qz]
        refine rg_nil ?_
        refine ek_rt (sc _ (List.Sublist.append_left (sc _ (sc _ (List.Sublist.append_left (sc _ (List.Sublist.append_left (sc _ (List.Sublist.append_left sn _)) _)) _))) _)) ?_
        refine rt_soft (i := 4) rfl Kx (fun c d v a w h => by cases d <;> exact h) (sc _ (List.Sublist.append_left (sc _ (sc _ (List.Sublist.append_left (sc _ (List.Sublist.append_left (sc _ (List.Sublist.append_left sn _)) _)) _))) _)) ?_
        refine rf_load (v := .slice (some ad1) o.length ac) rfl rfl rfl UU23 rfl (fun w hw => (Kn.hd0 (Kn.tl (Kn.tlU (Kn.tl hw)))).at (by rw [List.getElem?_append_left Ox]; exact hrow)) ?_
        simp only [qz]
        refine rg_nil ?_
        refine ek_rt (sc _ (List.Sublist.append_left (sc _ (sc _ (List.Sublist.append_left (sc _ (List.Sublist.append_left (sc _ (List.Sublist.append_left sn _)) _)) _))) _)) ?_
        refine rt_soft (i := 5) rfl Kx (fun c d v a w h => by cases d <;> exact h) (sc _ (List.Sublist.append_left (sc _ (sc _ (List.Sublist.append_left (sc _ (List.Sublist.append_left (sc _ (List.Sublist.append_left sn _)) _)) _))) _)) ?_
        refine rg_move ?_
        simp only [qz]
        refine rg_nil ?_
        refine ek_rt (sc _ (List.Sublist.append_left (sc _ (sc _ (List.Sublist.append_left (sc _ (List.Sublist.append_left (sc _ (List.Sublist.append_left sn _)) _)) _))) _)) ?_
        refine rt_hard2 (i := 6) (j := 11) Kx rfl rfl ?_ ?_
        ·apply rg_pure Rx Kx
         case hargs => exact Ax
         case h => exact fun w hw => by have := mchance_any N ds o inn va5 (some ad1) a' vc5 ac c' Ox Ox Ox w (OwnN.asN hO5 (hw.perm ((((((((((((((List.Perm.refl _).cons _).trans (List.perm_middle (l₁ := u5)).symm).append_left _).trans (List.perm_append_comm_assoc uV u5 _)).cons _).trans (List.perm_middle (l₁ := u5)).symm).cons _).trans (List.perm_middle (l₁ := u5)).symm).append_left _).trans (List.perm_append_comm_assoc uy u5 _)).cons _).trans (List.perm_middle (l₁ := u5)).symm).trans ((List.Perm.refl _).append_left _)))) (hAr hw (hsr.trans (List.Sublist.cons _ ((List.Sublist.cons _ (List.Sublist.cons _ (List.sublist_append_left _ _))).trans (List.sublist_append_right _ _))))) (hB.kn0 hw); rw [hch2.out] at this; exact this
         case hz => exact (fun _ h => by cases h; exact (sc _ (List.Sublist.append_left (sc _ (sc _ (List.Sublist.append_left (sc _ (List.Sublist.append_left (sc _ (List.Sublist.append_left sn _)) _)) _))) _)))
         simp only [qz]
         refine rg_nil ?_
         refine ek_rt (sc _ (List.Sublist.append_left (sc _ (sc _ (List.Sublist.append_left (sc _ (List.Sublist.append_left (sc _ (List.Sublist.append_left sn _)) _)) _))) _)) ?_
         refine rt_soft (i := 7) rfl Kx (fun c d v a w h => by cases d <;> exact h) (sc _ (List.Sublist.append_left (sc _ (sc _ (List.Sublist.append_left (sc _ (List.Sublist.append_left (sc _ (List.Sublist.append_left sn _)) _)) _))) _)) ?_
         refine rg_move ?_
         simp only [qz]
         refine rg_nil ?_
         refine ek_rt (sc _ (List.Sublist.append_left (sc _ (sc _ (List.Sublist.append_left (sc _ (List.Sublist.append_left (sc _ (List.Sublist.append_left sn _)) _)) _))) _)) ?_
         refine rt_soft (i := 8) rfl Kx (fun c d v a w h => by cases d <;> exact h) (sc _ (List.Sublist.append_left (sc _ (sc _ (List.Sublist.append_left (sc _ (List.Sublist.append_left (sc _ (List.Sublist.append_left sn _)) _)) _))) _)) ?_
         refine rf_extract rfl rfl rfl rfl ?_
         simp only [qz]
         refine rg_nil ?_
         refine ek_rt (sc _ (List.Sublist.append_left (sc _ (sc _ (List.Sublist.append_left (sc _ (List.Sublist.append_left (sc _ (List.Sublist.append_left sn _)) _)) _))) _)) ?_
         refine rt_soft (i := 9) rfl Kx (fun c d v a w h => by cases d <;> exact h) (sc _ (List.Sublist.append_left (sc _ (sc _ (List.Sublist.append_left (sc _ (List.Sublist.append_left (sc _ (List.Sublist.append_left sn _)) _)) _))) _)) ?_
         refine rf_extract rfl rfl rfl rfl ?_
         simp only [qz]
         refine rg_nil ?_
         refine ek_rt (sc _ (List.Sublist.append_left (sc _ (sc _ (List.Sublist.append_left (sc _ (List.Sublist.append_left (sc _ (List.Sublist.append_left sn _)) _)) _))) _)) ?_
         refine rt_soft (i := 10) rfl Kx (fun c d v a w h => by cases d <;> exact h) (sc _ (List.Sublist.append_left (sc _ (sc _ (List.Sublist.append_left (sc _ (List.Sublist.append_left (sc _ (List.Sublist.append_left sn _)) _)) _))) _)) ?_
         refine rf_extract rfl rfl rfl rfl ?_
         simp only [qz]
         refine rg_nil ?_
         refine ek_rt (sc _ (List.Sublist.append_left (sc _ (sc _ (List.Sublist.append_left (sc _ (List.Sublist.append_left (sc _ (List.Sublist.append_left sn _)) _)) _))) _)) ?_
         refine rt_hard1 (i := 11) Kx rfl ?_
         refine rg_new (cs := ?_) (ty := ?_) Rx (fun w => ?_) (fun _ h => by cases h; exact (sc _ (List.Sublist.append_left (sc _ (sc _ (List.Sublist.append_left (sc _ (List.Sublist.append_left (sc _ (List.Sublist.append_left sn _)) _)) _))) _))) (fun g20 => ?_); rotate_left 2
         focus (go_simp; rfl)
         simp only [qz]
         refine rg_nil ?_
         refine ek_rt (sk _ (sc _ (List.Sublist.append_left (sc _ (sc _ (List.Sublist.append_left (sc _ (List.Sublist.append_left (sc _ (List.Sublist.append_left sn _)) _)) _))) _))) ?_
         refine rt_hard1 (i := 12) Kx rfl ?_
         refine rf_storeR (n := 5) rfl rfl Kx rfl rfl (UpdR.here _ _ _ Nl) (fun _ h => by cases h; exact (sk _ (sc _ (List.Sublist.append_left (sc _ (sc _ (List.Sublist.append_left (sc _ (List.Sublist.append_left (sc _ (List.Sublist.append_left sn _)) _)) _))) _)))) ?_
         simp only [qz, Nat.reduceAdd]
         refine rg_nil ?_
         refine ek_rt (sk _ (sc _ (List.Sublist.append_left (sc _ (sc _ (List.Sublist.append_left (sc _ (List.Sublist.append_left (sc _ (List.Sublist.append_left sn _)) _)) _))) _))) ?_
         refine rt_soft (i := 13) rfl Kx (fun c d v a w h => by cases d <;> exact h) (sk _ (sc _ (List.Sublist.append_left (sc _ (sc _ (List.Sublist.append_left (sc _ (List.Sublist.append_left (sc _ (List.Sublist.append_left sn _)) _)) _))) _))) ?_
         refine rg_assign ?_
         simp only [qz]
         refine rg_nil ?_
         refine ek_rt (sk _ (sc _ (List.Sublist.append_left (sc _ (sc _ (List.Sublist.append_left (sc _ (List.Sublist.append_left (sc _ (List.Sublist.append_left sn _)) _)) _))) _))) ?_
         refine rt_soft (i := 14) rfl Kx (fun c d v a w h => by cases d <;> exact h) (sk _ (sc _ (List.Sublist.append_left (sc _ (sc _ (List.Sublist.append_left (sc _ (List.Sublist.append_left (sc _ (List.Sublist.append_left sn _)) _)) _))) _))) ?_
         refine rg_assign ?_
         simp only [qz]
         refine rg_nil ?_
         refine ek_rt (sk _ (sc _ (List.Sublist.append_left (sc _ (sc _ (List.Sublist.append_left (sc _ (List.Sublist.append_left (sc _ (List.Sublist.append_left sn _)) _)) _))) _))) ?_
         refine rt_nil Kx ?_
         refine ek_midF Kx ?_
         exact ⟨g20, rfl, rfl, rfl, by rfl⟩
        refine rg_new (cs := ?_) (ty := ?_) Rx (fun w => ?_) (fun _ h => by cases h; exact (sc _ (List.Sublist.append_left (sc _ (sc _ (List.Sublist.append_left (sc _ (List.Sublist.append_left (sc _ (List.Sublist.append_left sn _)) _)) _))) _))) (fun g21 => ?_); rotate_left 2
        focus (go_simp; rfl)
        simp only [qz]
        refine rg_nil ?_
        refine ek_rt (sk _ (sc _ (List.Sublist.append_left (sc _ (sc _ (List.Sublist.append_left (sc _ (List.Sublist.append_left (sc _ (List.Sublist.append_left sn _)) _)) _))) _))) ?_
        refine rt_hard1 (i := 6) Kx rfl ?_
        apply rg_pure Rx Kx
        case hargs => exact Ax
        case h => exact fun w hw => by have := mchance_any N ds o inn va5 (some ad1) a' vc5 ac c' Ox Ox Ox w (OwnN.asN hO5 (hw.perm ((((((((((((((((List.Perm.refl _).cons _).trans (List.perm_middle (l₁ := u5)).symm).append_left _).trans (List.perm_append_comm_assoc uV u5 _)).cons _).trans (List.perm_middle (l₁ := u5)).symm).cons _).trans (List.perm_middle (l₁ := u5)).symm).append_left _).trans (List.perm_append_comm_assoc uy u5 _)).cons _).trans (List.perm_middle (l₁ := u5)).symm).cons _).trans (List.perm_middle (l₁ := u5)).symm).trans ((List.Perm.refl _).append_left _)))) (hAr hw (hsr.trans (List.Sublist.cons _ (List.Sublist.cons _ ((List.Sublist.cons _ (List.Sublist.cons _ (List.sublist_append_left _ _))).trans (List.sublist_append_right _ _)))))) (hB.kn0 hw); rw [hch2.out] at this; exact this
        case hz => exact (fun _ h => by cases h; exact (sk _ (sc _ (List.Sublist.append_left (sc _ (sc _ (List.Sublist.append_left (sc _ (List.Sublist.append_left (sc _ (List.Sublist.append_left sn _)) _)) _))) _))))
        simp only [qz]
        refine rg_nil ?_
        refine ek_rt (sk _ (sc _ (List.Sublist.append_left (sc _ (sc _ (List.Sublist.append_left (sc _ (List.Sublist.append_left (sc _ (List.Sublist.append_left sn _)) _)) _))) _))) ?_
        refine rt_soft (i := 7) rfl Kx (fun c d v a w h => by cases d <;> exact h) (sk _ (sc _ (List.Sublist.append_left (sc _ (sc _ (List.Sublist.append_left (sc _ (List.Sublist.append_left (sc _ (List.Sublist.append_left sn _)) _)) _))) _))) ?_
        refine rg_move ?_
        simp only [qz]
        refine rg_nil ?_
        refine ek_rt (sk _ (sc _ (List.Sublist.append_left (sc _ (sc _ (List.Sublist.append_left (sc _ (List.Sublist.append_left (sc _ (List.Sublist.append_left sn _)) _)) _))) _))) ?_
        refine rt_soft (i := 8) rfl Kx (fun c d v a w h => by cases d <;> exact h) (sk _ (sc _ (List.Sublist.append_left (sc _ (sc _ (List.Sublist.append_left (sc _ (List.Sublist.append_left (sc _ (List.Sublist.append_left sn _)) _)) _))) _))) ?_
        refine rf_extract rfl rfl rfl rfl ?_
        simp only [qz]
        refine rg_nil ?_
        refine ek_rt (sk _ (sc _ (List.Sublist.append_left (sc _ (sc _ (List.Sublist.append_left (sc _ (List.Sublist.append_left (sc _ (List.Sublist.append_left sn _)) _)) _))) _))) ?_
        refine rt_soft (i := 9) rfl Kx (fun c d v a w h => by cases d <;> exact h) (sk _ (sc _ (List.Sublist.append_left (sc _ (sc _ (List.Sublist.append_left (sc _ (List.Sublist.append_left (sc _ (List.Sublist.append_left sn _)) _)) _))) _))) ?_
        refine rf_extract rfl rfl rfl rfl ?_
        simp only [qz]
        refine rg_nil ?_
        refine ek_rt (sk _ (sc _ (List.Sublist.append_left (sc _ (sc _ (List.Sublist.append_left (sc _ (List.Sublist.append_left (sc _ (List.Sublist.append_left sn _)) _)) _))) _))) ?_
        refine rt_soft (i := 10) rfl Kx (fun c d v a w h => by cases d <;> exact h) (sk _ (sc _ (List.Sublist.append_left (sc _ (sc _ (List.Sublist.append_left (sc _ (List.Sublist.append_left (sc _ (List.Sublist.append_left sn _)) _)) _))) _))) ?_
        refine rf_extract rfl rfl rfl rfl ?_
        simp only [qz]
        refine rg_nil ?_
        refine ek_rt (sk _ (sc _ (List.Sublist.append_left (sc _ (sc _ (List.Sublist.append_left (sc _ (List.Sublist.append_left (sc _ (List.Sublist.append_left sn _)) _)) _))) _))) ?_
        refine rt_hard1 (i := 12) Kx rfl ?_
        refine rf_storeR (n := 5) rfl rfl Kx rfl rfl (UpdR.here _ _ _ Nl) (fun _ h => by cases h; exact (sk _ (sc _ (List.Sublist.append_left (sc _ (sc _ (List.Sublist.append_left (sc _ (List.Sublist.append_left (sc _ (List.Sublist.append_left sn _)) _)) _))) _)))) ?_
        simp only [qz, Nat.reduceAdd]
        refine rg_nil ?_
        refine ek_rt (sk _ (sc _ (List.Sublist.append_left (sc _ (sc _ (List.Sublist.append_left (sc _ (List.Sublist.append_left (sc _ (List.Sublist.append_left sn _)) _)) _))) _))) ?_
        refine rt_soft (i := 13) rfl Kx (fun c d v a w h => by cases d <;> exact h) (sk _ (sc _ (List.Sublist.append_left (sc _ (sc _ (List.Sublist.append_left (sc _ (List.Sublist.append_left (sc _ (List.Sublist.append_left sn _)) _)) _))) _))) ?_
        refine rg_assign ?_
        simp only [qz]
        refine rg_nil ?_
        refine ek_rt (sk _ (sc _ (List.Sublist.append_left (sc _ (sc _ (List.Sublist.append_left (sc _ (List.Sublist.append_left (sc _ (List.Sublist.append_left sn _)) _)) _))) _))) ?_
        refine rt_soft (i := 14) rfl Kx (fun c d v a w h => by cases d <;> exact h) (sk _ (sc _ (List.Sublist.append_left (sc _ (sc _ (List.Sublist.append_left (sc _ (List.Sublist.append_left (sc _ (List.Sublist.append_left sn _)) _)) _))) _))) ?_
        refine rg_assign ?_
        simp only [qz]
        refine rg_nil ?_
        refine ek_rt (sk _ (sc _ (List.Sublist.append_left (sc _ (sc _ (List.Sublist.append_left (sc _ (List.Sublist.append_left (sc _ (List.Sublist.append_left sn _)) _)) _))) _))) ?_
        refine rt_nil Kx ?_
        refine ek_midF Kx ?_
        exact ⟨g21, rfl, rfl, rfl, by rfl⟩
       rintro f4 s ⟨gy2, hs4_19, hs4_20, hs4_21, rfl⟩
       simp only [Act.putF, List.foldl_cons, List.foldl_nil, hs4_19, hs4_20, hs4_21, Act.put, Act.eval, q1, q2, q3, q4, q5, q6, q7, q8, q9, q10, q11, q12, q13, q14, q15, q16, q17, q18, Nat.reduceAdd, Bool.not_true, Bool.not_false]
       clear hs4_19 hs4_20 hs4_21
       refine wk_seq (wk_seq ?_)
       refine wk_region [0, 0, 0, 0, 0, 0] rfl Kx ?_
       simp only [qy]
       refine rg_move ?_
       simp only [qz]
       refine rfb_neq rfl rfl rfl rfl ?_
       intro x h10
       cases x
       ·(try simp only [qd, ne_eq] at h10)
        simp only [qz]
        refine rg_move ?_
        simp only [qz]
        apply rg_soft_g
        case hg => rfl
        case hy => (intro w hw; go_simp; (try go_bits); exact Yld.mk _ _)
        simp only [qz]
        refine rfb_neq rfl rfl rfl rfl ?_
        intro x h11
        cases x
        ·(try simp only [qd, ne_eq] at h11)
         simp only [qz]
         obtain ⟨hz', hm', hm1, hzo, hzv⟩ := hall Ox Ox
         obtain rfl : z = z2 := hz'.symm
         obtain rfl : m1 = m2 := hm'.symm
         clear hz' hm'
         obtain ⟨by_, hby⟩ : ∃ x, mfN (mdN inn) * mfN (mdN o) = x := ⟨_, rfl⟩
         obtain ⟨hq1, -, -, hq4, hq5⟩ := pat_io Ox Ox Ox hoP hip
         have hst0 := fun hc => SuO.step hd2.out ho.out hzo hzv hc
         rw [hby] at hm1 hq1 hq4 hq5 hst0
         subst hm1
         clear hby
         replace hq1 := Lib.hid hq1
         replace hzv := Lib.hid hzv
         refine rf_pick rfl rfl rfl ?_
         simp only [qz]
         refine rg_nil (ek_next (wk_cond_f rfl (wk_skip (ek_next (wk_seq (wk_seq ?_))))))
         refine wk_region [0, 0, 0, 0, 0, 0, 0, 0, 0, 0, 0, 0, 0, 0, 0, 0, 0, 0, 0, 0, 0, 0, 0, 1, 0, 0] rfl Kx ?_
         simp only [qy]
         refine rf_loadR (n := 5) rfl rfl rfl UU44 rfl Kx (fun w hw => Kn.hd0 (Kn.tl hw)) rfl rfl ?_
         simp only [qz]
         refine rf_loadR (n := 5) rfl rfl rfl UU44 rfl Kx (fun w hw => Kn.hd0 hw) rfl rfl ?_
         simp only [qz]
         refine rf_neN (u := z) (v := z) rfl rfl rfl rfl ?_
         rw [decide_eq_true (rfl : z = z)]
         simp only [qz]
         refine rg_move ?_
         simp only [qz]
         apply rg_soft_g
         case hg => rfl
         case hy => (intro w hw; go_simp; (try go_bits); exact Yld.mk _ _)
         simp only [qz]
         apply rg_soft_g
         case hg => rfl
         case hy => (intro w hw; go_simp; (try go_bits); exact Yld.mk _ _)
         simp only [qz]
         refine rfb_neq rfl rfl rfl rfl ?_
         intro x h12
         obtain rfl : x = false := by (refine h12.symm.trans ?_; exact decide_eq_false Ox)
         clear h12
         simp only [qz]
         refine rf_pick rfl rfl rfl ?_
         simp only [qz]
         refine rg_move ?_
         simp only [qz]
         apply rg_soft_g
         case hg => rfl
         case hy => (intro w hw; go_simp; (try go_bits); exact Yld.mk _ _)
         simp only [qz]
         refine rfb_lss rfl rfl rfl rfl ?_
         intro x h13
         obtain rfl : x = false := by (refine h13.symm.trans ?_; exact decide_eq_false Ox)
         clear h13
         simp only [qz]
         refine rf_pick rfl rfl rfl ?_
         simp only [qz]
         refine rg_move ?_
         simp only [qz]
         apply rg_soft_g
         case hg => rfl
         case hy => (intro w hw; go_simp; (try go_bits); exact Yld.mk _ _)
         simp only [qz]
         refine rfb_gtr rfl rfl rfl rfl ?_
         intro x h14
         obtain rfl : x = false := by (refine h14.symm.trans ?_; exact decide_eq_false Ox)
         clear h14
         simp only [qz]
         refine rf_pick rfl rfl rfl ?_
         simp only [qz]
         refine rg_move ?_
         simp only [qz]
         apply rg_soft_g
         case hg => rfl
         case hy => (intro w hw; go_simp; (try go_bits); exact Yld.mk _ _)
         simp only [qz]
         refine rf_rem (r := 0) rfl rfl rfl rfl Ox (rem36 hq1.out) ?_
         simp only [qz]
         refine rf_neq (b := false) rfl rfl rfl rfl (by decide) ?_
         simp only [qz]
         refine rf_pick rfl rfl rfl ?_
         simp only [qz]
         refine rg_move ?_
         simp only [qz]
         refine rf_loadR (n := 5) rfl rfl rfl UU44 rfl Kx (fun w hw => Kn.hd0 (Kn.tl hw)) rfl rfl ?_
         simp only [qz]
         apply rg_pure Rx Kx
         case hargs => exact Ax
         case h => exact fun w hw => by have := rValidNum_any z w; rw [okB_iff.2 hzo] at this; exact this
         case hz => exact Nz
         simp only [qz]
         refine rf_not rfl rfl rfl ?_
         simp only [qz]
         refine rf_pick rfl rfl rfl ?_
         simp only [qz]
         refine rg_nil (ek_next (wk_cond_f rfl (wk_skip (ek_next ?_))))
         have hcc : 36 / by_ ≤ 36 := Nat.div_le_self 36 by_
         have hpre := SuO.pre hd2.out Ox hzo hcc
         refine wk_draws_m (hz1 := (sc _ (sc _ (List.Sublist.append_left (sk _ (sc _ (List.Sublist.append_left (sc _ (List.Sublist.append_left (sc _ (List.Sublist.append_left sn _)) _)) _))) _)))) [(0, 0), (1, 0), (3, 0), (4, 0), (5, 0), (6, 0), (2, 1), (7, 1), (8, 1), (9, 1), (10, 2)] 10 Kx Kx (fun c d v a w h => by cases d <;> exact h) ?_
         simp only [List.map_cons, List.map_nil, List.getD_cons_zero, List.getD_cons_succ]
         refine rf_loadR (n := 9) rfl rfl rfl UU41 rfl Kx (fun w hw => Kn.hd0 (Kn.tlU (Kn.tl (Kn.tl hw)))) rfl rfl ?_
         simp only [qz]
         refine rf_loadR (n := 5) rfl rfl rfl UU44 rfl Kx (fun w hw => Kn.hd0 (Kn.tl hw)) rfl rfl ?_
         simp only [qz]
         refine rg_move ?_
         simp only [qz]
         refine rf_quo (r := ((36 / by_ : Nat) : Int)) rfl rfl rfl rfl Ox (quo36 by_) ?_
         simp only [qz]
         refine rf_build (cs := fun a => #[a.eval (.tmp 184), .int .i64 0, .int .i64 0, .int .i64 0]) rfl rfl Kx ?_
         simp only [qz]
         refine rf_build (cs := fun a => #[cellAt (a.eval (.tmp 185)) 0, cellAt (a.eval (.tmp 185)) 1, cellAt (a.eval (.tmp 185)) 2, cellAt (a.eval (.tmp 185)) 3, .int .i64 0]) rfl rfl Kx ?_
         simp only [qz]
         apply (rg_made (T := fun v u => ∃ s0 s1 s2 s3, v = wdV (z) s0 s1 s2 s3 ∧ SU4 u (z) s0 s1 s2 s3)) Rx Kx
         case hargs => exact Ax
         case h => exact fun w hw => wideOf_any z (Nm.fit_mono hzo.fit (by decide)) w
         case hz => exact (fun _ h => by cases h; exact (sc _ (sc _ (List.Sublist.append_left (sc _ (sc _ (List.Sublist.append_left (sc _ (List.Sublist.append_left (sc _ (List.Sublist.append_left sn _)) _)) _))) _))))
         rintro _ u22 ⟨t0, t1, t2, t3, rfl, hS22⟩
         obtain ⟨⟨ta22_0, tc22_0, rfl⟩, -⟩ := id hS22.a
         obtain ⟨⟨ta22_1, tc22_1, rfl⟩, -⟩ := id hS22.b
         obtain ⟨⟨ta22_2, tc22_2, rfl⟩, -⟩ := id hS22.c
         obtain ⟨⟨ta22_3, tc22_3, rfl⟩, -⟩ := id hS22.d
         simp only [qz]
         apply (rg_made (T := fun v u => ∃ s0 s1 s2 s3, v = wdV (cN (36 / by_)) s0 s1 s2 s3 ∧ SU4 u (cN (36 / by_)) s0 s1 s2 s3)) Rx Kx
         case hargs => exact Ax
         case h => exact fun w hw => wideOf_any (cN (36 / by_)) (Nm.fit_mono (cN_ok hcc).fit (by decide)) w
         case hz => exact (fun _ h => by cases h; exact ((sc _ (sc _ (List.Sublist.append_left (sc _ (sc _ (List.Sublist.append_left (sc _ (List.Sublist.append_left (sc _ (List.Sublist.append_left sn _)) _)) _))) _))).trans (List.sublist_append_right _ _)))
         rintro _ u23 ⟨t0, t1, t2, t3, rfl, hS23⟩
         obtain ⟨⟨ta23_0, tc23_0, rfl⟩, -⟩ := id hS23.a
         obtain ⟨⟨ta23_1, tc23_1, rfl⟩, -⟩ := id hS23.b
         obtain ⟨⟨ta23_2, tc23_2, rfl⟩, -⟩ := id hS23.c
         obtain ⟨⟨ta23_3, tc23_3, rfl⟩, -⟩ := id hS23.d
         simp only [qz]
         apply (rg_made (T := fun v u => ∃ s0 s1 s2 s3, v = wdV (z.mulR (cN (36 / by_))) s0 s1 s2 s3 ∧ SU4 u (z.mulR (cN (36 / by_))) s0 s1 s2 s3)) Rx Kx
         case hargs => exact Ax
         case h => exact fun w hw => wtimes_any z (cN (36 / by_)) _ _ _ _ _ _ _ _ (fit382 hzo.fit) (fit382 (cN_ok hcc).fit) (prodB_ok hzo.fit (cN_ok hcc).fit) hzo.k0 (by have := hzo.k1; omega) (Int.le_refl 0) (by show (0 : Int) ≤ 10000; decide) w (hS22.at hw ((List.sublist_append_left _ _).trans (List.sublist_append_right _ _))) (hS23.at hw (List.sublist_append_left _ _))
         case hz => exact (fun _ h => by cases h; exact (((sc _ (sc _ (List.Sublist.append_left (sc _ (sc _ (List.Sublist.append_left (sc _ (List.Sublist.append_left (sc _ (List.Sublist.append_left sn _)) _)) _))) _))).trans (List.sublist_append_right _ _)).trans (List.sublist_append_right _ _)))
         rintro _ u24 ⟨t0, t1, t2, t3, rfl, hS24⟩
         obtain ⟨⟨ta24_0, tc24_0, rfl⟩, -⟩ := id hS24.a
         obtain ⟨⟨ta24_1, tc24_1, rfl⟩, -⟩ := id hS24.b
         obtain ⟨⟨ta24_2, tc24_2, rfl⟩, -⟩ := id hS24.c
         obtain ⟨⟨ta24_3, tc24_3, rfl⟩, -⟩ := id hS24.d
         simp only [qz]
         apply (rg_made (T := fun v u => ∃ s0 s1 s2 s3, v = wdV (y.addR (z.mulR (cN (36 / by_)))) s0 s1 s2 s3 ∧ SU4 u (y.addR (z.mulR (cN (36 / by_)))) s0 s1 s2 s3)) Rx Kx
         case hargs => exact Ax
         case h => exact fun w hw => wplus_any y (z.mulR (cN (36 / by_))) _ _ _ _ _ _ _ _ hpre.1 hpre.2.1 hpre.2.2.1 hpre.2.2.2.1 hpre.2.2.2.2.1 hpre.2.2.2.2.2 w (hd3.at hw ((((List.Sublist.cons _ (List.Sublist.cons _ (List.sublist_append_left _ _))).trans (List.sublist_append_right _ _)).trans (List.sublist_append_right _ _)).trans (List.sublist_append_right _ _))) (hS24.at hw (List.sublist_append_left _ _))
         case hz => exact (fun _ h => by cases h; exact ((((sc _ (sc _ (List.Sublist.append_left (sc _ (sc _ (List.Sublist.append_left (sc _ (List.Sublist.append_left (sc _ (List.Sublist.append_left sn _)) _)) _))) _))).trans (List.sublist_append_right _ _)).trans (List.sublist_append_right _ _)).trans (List.sublist_append_right _ _)))
         rintro _ u25 ⟨t0, t1, t2, t3, rfl, hS25⟩
         obtain ⟨⟨ta25_0, tc25_0, rfl⟩, -⟩ := id hS25.a
         obtain ⟨⟨ta25_1, tc25_1, rfl⟩, -⟩ := id hS25.b
         obtain ⟨⟨ta25_2, tc25_2, rfl⟩, -⟩ := id hS25.c
         obtain ⟨⟨ta25_3, tc25_3, rfl⟩, -⟩ := id hS25.d
         simp only [qz]
         refine rf_storeRM (n := 9) rfl rfl Kx rfl rfl (UpdR.app _ (UpdR.app _ (UpdR.app _ (UpdR.app _ (UpdR.there _ (UpdR.there _ (UpdR.app _ (UpdR.here _ _ _ Nl)))))))) (((((sc _ (sc _ (List.Sublist.append_left (sk _ (sc _ (List.Sublist.append_left (sc _ (List.Sublist.append_left (sc _ (List.Sublist.append_left sn _)) _)) _))) _))).trans (List.sublist_append_right _ _)).trans (List.sublist_append_right _ _)).trans (List.sublist_append_right _ _)).trans (List.sublist_append_right _ _)) ?_
         simp only [qz, Nat.reduceAdd]
         refine rg_nil (ek_block (ek_next ?_))
         refine wk_region [0, 0, 0] rfl Kx ?_
         simp only [qy]
         refine rg_move ?_
         simp only [qz]
         refine rf_add rfl rfl rfl rfl (wrap_ok Ox Ox) ?_
         simp only [qz]
         refine rg_assign ?_
         simp only [qz]
         refine rg_nil ?_
         refine ek_sub (List.Sublist.append_left ((((sk _ (sk _ ((sc _ (sc _ (List.Sublist.append_left (sc _ (List.Sublist.append_left (sc _ (List.Sublist.append_left sn _)) _)) _))).trans (List.sublist_append_right _ _)))).trans (List.sublist_append_right _ _)).trans (List.sublist_append_right _ _)).trans (List.sublist_append_right _ _)) _) ?_
         refine ek_roundF ((pats N p).length - (j + 1)) Ox Kx ?_
         exact ⟨j + 1, y.addR (z.mulR (cN (36 / by_))), ta25_0, ta25_1, ta25_2, ta25_3, tc25_0, tc25_1, tc25_2, tc25_3, u25, rfl, by rfl, by rfl, Ox, (Lib.hid (hst0 hcc)), (SK4.own hS25)⟩
        (try simp only [qd, ne_eq] at h11)
        simp only [qz]
        refine rf_pick rfl rfl rfl ?_
        simp only [qz]
        refine rg_nil (ek_next (wk_cond_t rfl (wk_seq ?_)))
        refine wk_region [0, 0, 0, 0, 0, 0, 0, 1, 0, 0] rfl Kx ?_
        simp only [qy]
        refine rg_move ?_
        simp only [qz]
        refine rfb_eql rfl rfl rfl rfl ?_
        intro x h15
        cases x
        ·(try simp only [qd, ne_eq] at h15)
         simp only [qz]
         refine rg_move ?_
         simp only [qz]
         apply rg_soft_g
         case hg => rfl
         case hy => (intro w hw; go_simp; (try go_bits); exact Yld.mk _ _)
         simp only [qz]
         refine rfb_eql rfl rfl rfl rfl ?_
         intro x h16
         cases x
         ·(try simp only [qd, ne_eq] at h16)
          simp only [qz]
          exfalso; omega
         (try simp only [qd, ne_eq] at h16)
         simp only [qz]
         refine rf_pick rfl rfl rfl ?_
         simp only [qz]
         refine rg_move ?_
         simp only [qz]
         apply rg_pure Rx Kx
         case hargs => exact Ax
         case h => exact fun w hw => one_any w
         case hz => exact Nz
         simp only [qz]
         refine rf_pick rfl rfl rfl ?_
         simp only [qz]
         refine rg_assign ?_
         simp only [qz]
         refine rg_nil (ek_next (wk_ret (ek_then_ret (ek_block_ret (ek_then_ret (ek_then_ret (ek_block_ret (ek_then_ret ?_))))))))
         refine ek_ret (fun w hw => ⟨rfl, _, res_t _ rfl, ?_⟩)
         (try simp only [qz])
         first | exact ⟨rfl, hw.below⟩ | exact ⟨trivial, hw.below⟩ | exact hw.below
        (try simp only [qd, ne_eq] at h15)
        simp only [qz]
        exfalso; omega
       (try simp only [qd, ne_eq] at h10)
       simp only [qz]
       refine rg_move ?_
       simp only [qz]
       refine rg_skip Rx ?_
       simp only [qz]
       refine rg_skip Rx ?_
       simp only [qz]
       refine rf_pick rfl rfl rfl ?_
       simp only [qz]
       refine rg_nil (ek_next (wk_cond_t rfl (wk_seq ?_)))
       refine wk_region [0, 0, 0, 0, 0, 0, 0, 1, 0, 0] rfl Kx ?_
       simp only [qy]
       refine rg_move ?_
       simp only [qz]
       refine rfb_eql rfl rfl rfl rfl ?_
       intro x h17
       cases x
       ·(try simp only [qd, ne_eq] at h17)
        simp only [qz]
        exfalso; omega
       (try simp only [qd, ne_eq] at h17)
       simp only [qz]
       refine rg_move ?_
       simp only [qz]
       refine rg_skip Rx ?_
       simp only [qz]
       refine rg_skip Rx ?_
       simp only [qz]
       refine rf_pick rfl rfl rfl ?_
       simp only [qz]
       refine rg_move ?_
       simp only [qz]
       apply rg_pure Rx Kx
       case hargs => exact Ax
       case h => exact fun w hw => one_any w
       case hz => exact Nz
       simp only [qz]
       refine rf_pick rfl rfl rfl ?_
       simp only [qz]
       refine rg_assign ?_
       simp only [qz]
       refine rg_nil (ek_next (wk_ret (ek_then_ret (ek_block_ret (ek_then_ret (ek_then_ret (ek_block_ret (ek_then_ret ?_))))))))
       refine ek_ret (fun w hw => ⟨rfl, _, res_t _ rfl, ?_⟩)
       (try simp only [qz])
       first | exact ⟨rfl, hw.below⟩ | exact ⟨trivial, hw.below⟩ | exact hw.below
      (try simp only [qd, ne_eq] at h7)
      simp only [qz]
      refine rg_nil (ek_next (wk_cond_t rfl (wk_seq ?_)))
      refine wk_region [1, 0] rfl Kx ?_
      simp only [qy]
      apply rg_pure Rx Kx
      case hargs => exact Ax
      case h => exact fun w hw => one_any w
      case hz => exact Nz
      simp only [qz]
      refine rg_assign ?_
      simp only [qz]
      refine rg_nil (ek_next (wk_ret (ek_then_ret ?_)))
      refine ek_ret (fun w hw => ⟨rfl, _, res_t _ rfl, ?_⟩)
      (try simp only [qz])
      first | exact ⟨rfl, hw.below⟩ | exact ⟨trivial, hw.below⟩ | exact hw.below
     (try simp only [qd, ne_eq] at h6)
     simp only [qz]
     refine rg_nil (ek_next (wk_cond_t rfl (wk_skip (ek_next (wk_seq (wk_block (wk_seq (wk_seq ?_))))))))
     obtain ⟨b1, o1, rfl, hlt1, hc1⟩ := AS.openI hB Ox
     refine wk_region [0, 0, 0, 0, 0, 0, 0, 0, 0, 0, 0, 0] rfl Kx ?_
     simp only [qy]
     refine rg_move ?_
     simp only [qz]
     refine rg_move ?_
     simp only [qz]
     refine rf_indexS (n := i) (sz := 1) (j := o1 + i) rfl rfl rfl rfl UU23 Kx Ox Ox Ox ?_
     simp only [qz]
     refine rf_load (v := .int .i64 (gI inn i)) rfl rfl rfl UU3 rfl (fun w hw => (Kn.cellB hw hlt1 (by simp) (o1 + i)).trans (hc1 i Ox)) ?_
     simp only [qz]
     refine rfb_lss rfl rfl rfl rfl ?_
     intro x h18
     cases x
     ·(try simp only [qd, ne_eq] at h18)
      simp only [qz]
      refine rg_move ?_
      simp only [qz]
      apply rg_soft_g
      case hg => rfl
      case hy => (intro w hw; go_simp; (try go_bits); exact Yld.mk _ _)
      simp only [qz]
      apply rg_soft_g
      case hg => rfl
      case hy => (intro w hw; go_simp; (try go_bits); exact Yld.mk _ _)
      simp only [qz]
      refine rf_indexS (n := i) (sz := 1) (j := o1 + i) rfl rfl rfl rfl UU23 Kx Ox Ox Ox ?_
      simp only [qz]
      refine rf_load (v := .int .i64 (gI inn i)) rfl rfl rfl UU3 rfl (fun w hw => (Kn.cellB hw hlt1 (by simp) (o1 + i)).trans (hc1 i Ox)) ?_
      simp only [qz]
      refine rfb_gtr rfl rfl rfl rfl ?_
      intro x h19
      cases x
      ·(try simp only [qd, ne_eq] at h19)
       simp only [qz]
       refine rf_pick rfl rfl rfl ?_
       simp only [qz]
       refine rg_nil (ek_next (wk_cond_f rfl (wk_skip (ek_next ?_))))
       refine wk_region [0, 0, 0, 0, 0, 0, 0] rfl Kx ?_
       simp only [qy]
       refine rg_move ?_
       simp only [qz]
       refine rg_move ?_
       simp only [qz]
       refine rg_move ?_
       simp only [qz]
       refine rf_indexS (n := i) (sz := 1) (j := o1 + i) rfl rfl rfl rfl UU23 Kx Ox Ox Ox ?_
       simp only [qz]
       refine rf_load (v := .int .i64 (gI inn i)) rfl rfl rfl UU3 rfl (fun w hw => (Kn.cellB hw hlt1 (by simp) (o1 + i)).trans (hc1 i Ox)) ?_
       simp only [qz]
       refine rf_add rfl rfl rfl rfl (wrap_ok Ox Ox) ?_
       simp only [qz]
       refine rg_assign ?_
       simp only [qz]
       refine rg_nil (ek_block (ek_next ?_))
       refine wk_region [0, 0, 0] rfl Kx ?_
       simp only [qy]
       refine rg_move ?_
       simp only [qz]
       refine rf_add rfl rfl rfl rfl (wrap_ok Ox Ox) ?_
       simp only [qz]
       refine rg_assign ?_
       simp only [qz]
       refine rg_nil ?_
       refine ek_roundF (N - (i + 1)) Ox Kx ?_
       exact ⟨i + 1, ph + gI inn i, rfl, rfl, by rfl, by rfl, Ox, (Lib.hid (by rw [sT, hd2.out])), (Lib.hid (fun j hj => by rcases (by omega : j < i ∨ j = i) with h | rfl; exact hd3.out j h; exact ⟨by omega, by omega⟩)), Ox⟩
      (try simp only [qd, ne_eq] at h19)
      simp only [qz]
      refine rf_pick rfl rfl rfl ?_
      simp only [qz]
      refine rg_nil (ek_next (wk_cond_t rfl (wk_seq ?_)))
      refine wk_region [1, 0] rfl Kx ?_
      simp only [qy]
      apply rg_pure Rx Kx
      case hargs => exact Ax
      case h => exact fun w hw => one_any w
      case hz => exact Nz
      simp only [qz]
      refine rg_assign ?_
      simp only [qz]
      refine rg_nil (ek_next (wk_ret (ek_then_ret (ek_block_ret (ek_then_ret (ek_then_ret (ek_block_ret (ek_then_ret ?_))))))))
      refine ek_ret (fun w hw => ⟨rfl, _, res_t _ rfl, ?_⟩)
      (try simp only [qz])
      first | exact ⟨rfl, hw.below⟩ | exact ⟨trivial, hw.below⟩ | exact hw.below
     (try simp only [qd, ne_eq] at h18)
     simp only [qz]
     refine rg_move ?_
     simp only [qz]
     refine rg_skip Rx ?_
     simp only [qz]
     refine rg_skip Rx ?_
     simp only [qz]
     refine rg_skip Rx ?_
     simp only [qz]
     refine rg_skip Rx ?_
     simp only [qz]
     refine rg_skip Rx ?_
     simp only [qz]
     refine rf_pick rfl rfl rfl ?_
     simp only [qz]
     refine rg_nil (ek_next (wk_cond_t rfl (wk_seq ?_)))
     refine wk_region [1, 0] rfl Kx ?_
     simp only [qy]
     apply rg_pure Rx Kx
     case hargs => exact Ax
     case h => exact fun w hw => one_any w
     case hz => exact Nz
     simp only [qz]
     refine rg_assign ?_
     simp only [qz]
     refine rg_nil (ek_next (wk_ret (ek_then_ret (ek_block_ret (ek_then_ret (ek_then_ret (ek_block_ret (ek_then_ret ?_))))))))
     refine ek_ret (fun w hw => ⟨rfl, _, res_t _ rfl, ?_⟩)
     (try simp only [qz])
     first | exact ⟨rfl, hw.below⟩ | exact ⟨trivial, hw.below⟩ | exact hw.below
    (try simp only [qd, ne_eq] at h5)
    simp only [qz]
    refine rf_pick rfl rfl rfl ?_
    simp only [qz]
    refine rg_nil (ek_next (wk_cond_t rfl (wk_seq ?_)))
    refine wk_region [1, 0] rfl Kx ?_
    simp only [qy]
    apply rg_pure Rx Kx
    case hargs => exact Ax
    case h => exact fun w hw => one_any w
    case hz => exact Nz
    simp only [qz]
    refine rg_assign ?_
    simp only [qz]
    refine rg_nil (ek_next (wk_ret (ek_then_ret ?_)))
    refine ek_ret (fun w hw => ⟨rfl, _, res_t _ rfl, ?_⟩)
    (try simp only [qz])
    first | exact ⟨rfl, hw.below⟩ | exact ⟨trivial, hw.below⟩ | exact hw.below
   (try simp only [qd, ne_eq] at h3)
   simp only [qz]
   refine rf_pick rfl rfl rfl ?_
   simp only [qz]
   refine rg_move ?_
   simp only [qz]
   refine rg_skip Rx ?_
   simp only [qz]
   refine rg_skip Rx ?_
   simp only [qz]
   refine rg_skip_h Rx Nz ?_
   simp only [qz]
   refine rg_skip Rx ?_
   simp only [qz]
   refine rf_pick rfl rfl rfl ?_
   simp only [qz]
   refine rg_move ?_
   simp only [qz]
   refine rg_skip Rx ?_
   simp only [qz]
   refine rg_skip Rx ?_
   simp only [qz]
   refine rg_skip Rx ?_
   simp only [qz]
   refine rg_skip Rx ?_
   simp only [qz]
   refine rf_pick rfl rfl rfl ?_
   simp only [qz]
   refine rg_nil (ek_next (wk_cond_t rfl (wk_seq ?_)))
   refine wk_region [1, 0] rfl Kx ?_
   simp only [qy]
   apply rg_pure Rx Kx
   case hargs => exact Ax
   case h => exact fun w hw => one_any w
   case hz => exact Nz
   simp only [qz]
   refine rg_assign ?_
   simp only [qz]
   refine rg_nil (ek_next (wk_ret (ek_then_ret ?_)))
   refine ek_ret (fun w hw => ⟨rfl, _, res_t _ rfl, ?_⟩)
   (try simp only [qz])
   first | exact ⟨rfl, hw.below⟩ | exact ⟨trivial, hw.below⟩ | exact hw.below
  (try simp only [qd, ne_eq] at h2)
  simp only [qz]
  refine rf_pick rfl rfl rfl ?_
  simp only [qz]
  refine rg_move ?_
  simp only [qz]
  refine rg_skip Rx ?_
  simp only [qz]
  refine rg_skip Rx ?_
  simp only [qz]
  refine rg_skip Rx ?_
  simp only [qz]
  refine rf_pick rfl rfl rfl ?_
  simp only [qz]
  refine rg_move ?_
  simp only [qz]
  refine rg_skip Rx ?_
  simp only [qz]
  refine rg_skip Rx ?_
  simp only [qz]
  refine rg_skip_h Rx Nz ?_
  simp only [qz]
  refine rg_skip Rx ?_
  simp only [qz]
  refine rf_pick rfl rfl rfl ?_
  simp only [qz]
  refine rg_move ?_
  simp only [qz]
  refine rg_skip Rx ?_
  simp only [qz]
  refine rg_skip Rx ?_
  simp only [qz]
  refine rg_skip Rx ?_
  simp only [qz]
  refine rg_skip Rx ?_
  simp only [qz]
  refine rf_pick rfl rfl rfl ?_
  simp only [qz]
  refine rg_nil (ek_next (wk_cond_t rfl (wk_seq ?_)))
  refine wk_region [1, 0] rfl Kx ?_
  simp only [qy]
  apply rg_pure Rx Kx
  case hargs => exact Ax
  case h => exact fun w hw => one_any w
  case hz => exact Nz
  simp only [qz]
  refine rg_assign ?_
  simp only [qz]
  refine rg_nil (ek_next (wk_ret (ek_then_ret ?_)))
  refine ek_ret (fun w hw => ⟨rfl, _, res_t _ rfl, ?_⟩)
  (try simp only [qz])
  first | exact ⟨rfl, hw.below⟩ | exact ⟨trivial, hw.below⟩ | exact hw.below
 (try simp only [qd, ne_eq] at h1)
 simp only [qz]
 refine rg_move ?_
 simp only [qz]
 refine rg_skip Rx ?_
 simp only [qz]
 refine rg_skip Rx ?_
 simp only [qz]
 refine rf_pick rfl rfl rfl ?_
 simp only [qz]
 refine rg_move ?_
 simp only [qz]
 refine rg_skip Rx ?_
 simp only [qz]
 refine rg_skip Rx ?_
 simp only [qz]
 refine rg_skip Rx ?_
 simp only [qz]
 refine rf_pick rfl rfl rfl ?_
 simp only [qz]
 refine rg_move ?_
 simp only [qz]
 refine rg_skip Rx ?_
 simp only [qz]
 refine rg_skip Rx ?_
 simp only [qz]
 refine rg_skip_h Rx Nz ?_
 simp only [qz]
 refine rg_skip Rx ?_
 simp only [qz]
 refine rf_pick rfl rfl rfl ?_
 simp only [qz]
 refine rg_move ?_
 simp only [qz]
 refine rg_skip Rx ?_
 simp only [qz]
 refine rg_skip Rx ?_
 simp only [qz]
 refine rg_skip Rx ?_
 simp only [qz]
 refine rg_skip Rx ?_
 simp only [qz]
 refine rf_pick rfl rfl rfl ?_
 simp only [qz]
 refine rg_nil (ek_next (wk_cond_t rfl (wk_seq ?_)))
 refine wk_region [1, 0] rfl Kx ?_
 simp only [qy]
 apply rg_pure Rx Kx
 case hargs => exact Ax
 case h => exact fun w hw => one_any w
 case hz => exact Nz
 simp only [qz]
 refine rg_assign ?_
 simp only [qz]
 refine rg_nil (ek_next (wk_ret (ek_then_ret ?_)))
 refine ek_ret (fun w hw => ⟨rfl, _, res_t _ rfl, ?_⟩)
 (try simp only [qz])
 first | exact ⟨rfl, hw.below⟩ | exact ⟨trivial, hw.below⟩ | exact hw.below
end Go.Proofs.YthjjkajjpejcdaaGreat
