/- Texts in one: Pg8, Sp1, Fw1, Pg6, Pg9, Fw3, Tp1. -/
import Derived.Test.YthjjkajjpejcdaaGreatLTpJ
namespace Go.Proofs.YthjjkajjpejcdaaGreat
set_option linter.all false
set_option maxRecDepth 100000
set_option maxHeartbeats 1000000
open Go.RowKit
theorem exl_loop {B w : World} {F : List Nat} {s : List Blk} {l : Nat} {r : Loop} (K : Kn B F ((l, .loop r) :: s) w) : ∃ r', r' = r := ⟨_, rfl⟩
theorem fold_zipK {γ : Type} (f : γ → Nat × Value → γ) (t : γ) (p : Nat) (v : Value) : Array.foldl f t (#[p].zip #[v]) = f t (p, v) := by
 have e : (#[p].zip #[v]) = #[(p, v)] := by rw [List.zip_toArray]; rfl
 rw [e]; simp
def chunkL (zs : List Nm) (i N : Nat) : List Nm := (List.range N).map fun k => nm zs (i + k)
theorem chunkL_len (zs : List Nm) (i N : Nat) : (chunkL zs i N).length = N := by simp [chunkL]
theorem chunkL_nm {zs : List Nm} {i N k : Nat} (h : k < N) : nm (chunkL zs i N) k = nm zs (i + k) := by
 show ((chunkL zs i N).getD k _) = _
 unfold chunkL
 rw [List.getD_eq_getElem?_getD, List.getElem?_map, List.getElem?_range h]; rfl
theorem chunk_as {w : World} {b i N : Nat} {zs : List Nm} {r : List Value} (h : Hd w b 44 (NmE.flat zs ++ r).toArray) (hl : i + N ≤ zs.length) : AS w (some ⟨b, 0 + i * 5, none⟩) (nms (chunkL zs i N)) := fun _ => by
  refine ⟨b, _, rfl, h.lt, fun j hj => ?_⟩
  have hf : (nms (chunkL zs i N)).length = N * 5 := (NmE.flat_len _).trans (by rw [chunkL_len])
  have hd := Nat.div_add_mod j 5
  have hm5 := Nat.mod_lt j (show 0 < 5 by omega)
  have hk : j / 5 < N := by omega
  have h1 := NmE.get (chunkL zs i N) (j / 5) (j % 5) (by rw [chunkL_len]; exact hk) hm5
  have h2 := NmE.get zs (i + j / 5) (j % 5) Ox hm5
  have e1 : NmE.at (chunkL zs i N) (j / 5) = NmE.at zs (i + j / 5) := chunkL_nm hk
  rw [e1, ← h2] at h1
  have e2 : j / 5 * NmE.sz + j % 5 = j := by show j / 5 * 5 + j % 5 = j; omega
  have e3 : (i + j / 5) * NmE.sz + j % 5 = 0 + i * 5 + j := by show (i + j / 5) * 5 + j % 5 = _; omega
  rw [e2, e3] at h1
  have hzl := NmE.flat_len zs
  have hlt : 0 + i * 5 + j < (NmE.flat zs).length := by rw [hzl]; show _ < zs.length * 5; omega
  rw [h.cell, List.getElem?_toArray, List.getElem?_append_left hlt, h1]
def ChC (N lp gp gw bz : Nat) (r : Loop) (zs : List Nm) (rz : List Value) (j : Nat) (s : List Blk) : Prop := ∃ (ra : Option Addr) (rc : Nat) (rs : List RW) (uo : List Blk),
  s = (lp, .loop r) :: (gp, .cells #[.pointer (some ⟨gw, 0, none⟩)] 115) :: (gw, .cells #[.slice ra j rc, .slice none 0 0] 118) :: (bz, .cells (NmE.flat zs ++ rz).toArray 44) :: (rwB rs ++ (uo ++ [])) ∧
  Own 26 1 uo (.slice ra j rc) j (rwV N rs) ∧ rs.length = j ∧ ∀ i x, rs[i]? = some x → x.l.length = N ∧ ∀ k, k < N → nm x.l k = nm zs (i * N + k)
theorem rw_snoc_get {rs : List RW} {x q : RW} {i : Nat} (h : (rs ++ [x])[i]? = some q) : i = rs.length ∧ q = x ∨ rs[i]? = some q := by
 rcases (by omega : i < rs.length ∨ i = rs.length ∨ rs.length < i) with h1 | h1 | h1
 ·rw [List.getElem?_append_left h1] at h; exact .inr h
 ·subst h1
  rw [List.getElem?_append_right (Nat.le_refl _), Nat.sub_self] at h
  exact .inl ⟨rfl, (Option.some.inj h).symm⟩
 rw [List.getElem?_eq_none (by simp; omega)] at h; cases h
noncomputable def askE (n : Int) (xs : List Nm) : Int := if validB n xs = true then (if n > 4 ∨ expo xs > mostN n.toNat then 4 else if unB n xs = true then 0 else 22) else 20
def ProgL (N : Nat) (xs : List Nm) (L : List It) : Prop := (∀ x ∈ L, fitB N x = true) ∧ L.length ≤ 5000 ∧ EqT N (actQ L fun i k => Q4.conj (tb N xs k i)) dl
theorem prog_invalid (n : Int) (xs : List Nm) (a : Option Addr) (c : Nat) (hl : xs.length ≤ 1000000) (hv : Hid (validB n xs = false)) (w : World) (hA : AS w a (nms xs)) : Calls Tryz.prog 26 #[.agg #[.int .i64 n, .slice a xs.length c]] w fun e w' => RetS w [] 20 e w' := by
 refine calls_marks Tryz.func26 rfl ?_
 simp only [Tryz.ntmps26, List.size_toArray, List.length_cons, List.length_nil, Nat.reduceAdd, Nat.reduceSub, Array.replicate_succ, Array.replicate_zero, List.push_toArray, List.append_toArray, List.nil_append, List.cons_append]
 refine wk_seq ?_
 refine Wr [1, 0, 0] ?_
 refine Rgn fun g1 => ?_
 refine Zx ?_
 refine Zr ?_
 refine Wr [0, 1, 0] ?_
 refine rf_loadR (n := 2) rfl rfl rfl UU28 rfl Kx (fun w hw => Kn.hd0 hw) rfl rfl (Nq ?_)
 apply rg_pure Rx Kx
 case hargs => exact Ax
 case h => exact fun w hw => by have := mvalid_any n xs a c hl w (hA.kn0 hw); rw [hv.out] at this; exact this
 case hz => exact Nz
 refine Zx ?_
 refine Zr ?_
 refine Wx [0, 0] ?_
 refine Zr ?_
 refine ek_retM0 (fun w hw => ⟨_, res_tt _ _ rfl, ?_⟩)
 (try simp only [qz])
 exact ⟨.slice none 0 0, [], (by first | rfl | trivial), OwnT.nil, .nil hw.below⟩
theorem prog_big (N : Nat) (xs : List Nm) (a : Option Addr) (c : Nat) (hl : xs.length ≤ 1000000) (hv : Hid (validB (N : Int) xs = true)) (hN : (N : Int) > 4) (w : World) (hA : AS w a (nms xs)) : Calls Tryz.prog 26 #[.agg #[.int .i64 N, .slice a xs.length c]] w fun e w' => RetS w [] 4 e w' := by
 have hex : Hid (expR (N : Int) xs = (expo xs, 0)) := Lib.hid (by unfold expR; rw [hv.out, if_pos rfl])
 refine calls_marks Tryz.func26 rfl ?_
 simp only [Tryz.ntmps26, List.size_toArray, List.length_cons, List.length_nil, Nat.reduceAdd, Nat.reduceSub, Array.replicate_succ, Array.replicate_zero, List.push_toArray, List.append_toArray, List.nil_append, List.cons_append]
 refine wk_seq ?_
 refine Wr [1, 0, 0] ?_
 refine Rgn fun g1 => ?_
 refine Zx ?_
 refine Zr ?_
 refine Wr [0, 1, 0] ?_
 refine rf_loadR (n := 2) rfl rfl rfl UU28 rfl Kx (fun w hw => Kn.hd0 hw) rfl rfl (Nq ?_)
 apply rg_pure Rx Kx
 case hargs => exact Ax
 case h => exact fun w hw => by have := mvalid_any (N : Int) xs a c hl w (hA.kn0 hw); rw [hv.out] at this; exact this
 case hz => exact Nz
 refine Zx ?_
 refine Zr ?_
 refine Wr [0, 1, 0, 0, 0, 0, 0] ?_
 refine rf_loadR (n := 2) rfl rfl rfl UU28 rfl Kx (fun w hw => Kn.hd0 hw) rfl rfl (Nq ?_)
 apply rg_pure Rx Kx
 case hargs => exact Ax
 case h => exact fun w hw => by have := mExponent_any (N : Int) xs a c hl w (hA.kn0 hw); rw [hex.out] at this; exact this
 case hz => exact Nz
 refine Zx ?_
 refine Zr ?_
 refine Wr [0, 0, 0, 0, 0, 0, 0, 1, 0, 0] ?_
 refine Fd 0 0 UU28 ?_
 refine rf_load rfl rfl rfl UU3 rfl (fun w hw => (Kn.hd0 hw).at rfl) (Nq ?_)
 refine rfb_gtr rfl rfl rfl rfl ?_
 intro x h1
 obtain rfl : x = true := by (refine h1.symm.trans ?_; exact decide_eq_true Ox)
 clear h1
 refine Zx ?_
 refine rg_skip_h Rx Nz ?_
 refine Zx ?_
 refine Zr ?_
 refine Wx [0, 0] ?_
 refine Zr ?_
 refine ek_retM0 (fun w hw => ⟨_, res_tt _ _ rfl, ?_⟩)
 (try simp only [qz])
 exact ⟨.slice none 0 0, [], (by first | rfl | trivial), OwnT.nil, .nil hw.below⟩
theorem prog_limit (N : Nat) (xs : List Nm) (a : Option Addr) (c : Nat) (hl : xs.length ≤ 1000000) (hv : Hid (validB (N : Int) xs = true)) (hN : ¬ (N : Int) > 4) (hk : expo xs > mostN N) (w : World) (hA : AS w a (nms xs)) : Calls Tryz.prog 26 #[.agg #[.int .i64 N, .slice a xs.length c]] w fun e w' => RetS w [] 4 e w' := by
 have hex : Hid (expR (N : Int) xs = (expo xs, 0)) := Lib.hid (by unfold expR; rw [hv.out, if_pos rfl])
 refine calls_marks Tryz.func26 rfl ?_
 simp only [Tryz.ntmps26, List.size_toArray, List.length_cons, List.length_nil, Nat.reduceAdd, Nat.reduceSub, Array.replicate_succ, Array.replicate_zero, List.push_toArray, List.append_toArray, List.nil_append, List.cons_append]
 refine wk_seq ?_
 refine Wr [1, 0, 0] ?_
 refine Rgn fun g1 => ?_
 refine Zx ?_
 refine Zr ?_
 refine Wr [0, 1, 0] ?_
 refine rf_loadR (n := 2) rfl rfl rfl UU28 rfl Kx (fun w hw => Kn.hd0 hw) rfl rfl (Nq ?_)
 apply rg_pure Rx Kx
 case hargs => exact Ax
 case h => exact fun w hw => by have := mvalid_any (N : Int) xs a c hl w (hA.kn0 hw); rw [hv.out] at this; exact this
 case hz => exact Nz
 refine Zx ?_
 refine Zr ?_
 refine Wr [0, 1, 0, 0, 0, 0, 0] ?_
 refine rf_loadR (n := 2) rfl rfl rfl UU28 rfl Kx (fun w hw => Kn.hd0 hw) rfl rfl (Nq ?_)
 apply rg_pure Rx Kx
 case hargs => exact Ax
 case h => exact fun w hw => by have := mExponent_any (N : Int) xs a c hl w (hA.kn0 hw); rw [hex.out] at this; exact this
 case hz => exact Nz
 refine Zx ?_
 refine Zr ?_
 refine Wr [0, 0, 0, 0, 0, 0, 0, 1, 0, 0] ?_
 refine Fd 0 0 UU28 ?_
 refine rf_load rfl rfl rfl UU3 rfl (fun w hw => (Kn.hd0 hw).at rfl) (Nq ?_)
 refine rfb_gtr rfl rfl rfl rfl ?_
 intro x h1
 obtain rfl : x = false := by (refine h1.symm.trans ?_; exact decide_eq_false Ox)
 clear h1
 refine Zx ?_
 apply rg_soft_g
 case hg => rfl
 case hy => (intro w hw; exact Gy)
 simp only [qz]
 refine Fd 0 0 UU28 ?_
 refine rf_load rfl rfl rfl UU3 rfl (fun w hw => (Kn.hd0 hw).at rfl) (Nq ?_)
 apply rg_pure Rx Kx
 case hargs => exact Ax
 case h => exact fun w hw => most_any N Ox w
 case hz => exact Nz
 simp only [qz]
 refine rfb_gtr rfl rfl rfl rfl ?_
 intro x h2
 obtain rfl : x = true := by (refine h2.symm.trans ?_; exact decide_eq_true Ox)
 clear h2
 refine Zx ?_
 refine Zr ?_
 refine Wx [0, 0] ?_
 refine Zr ?_
 refine ek_retM0 (fun w hw => ⟨_, res_tt _ _ rfl, ?_⟩)
 (try simp only [qz])
 exact ⟨.slice none 0 0, [], (by first | rfl | trivial), OwnT.nil, .nil hw.below⟩
theorem prog_non (N : Nat) (xs : List Nm) (a : Option Addr) (c : Nat) (hl : xs.length ≤ 1000000) (hv : Hid (validB (N : Int) xs = true)) (hN : ¬ (N : Int) > 4) (hk : ¬ expo xs > mostN N) (hu : Hid (unB (N : Int) xs = false)) (w : World) (hA : AS w a (nms xs)) : Calls Tryz.prog 26 #[.agg #[.int .i64 N, .slice a xs.length c]] w fun e w' => RetS w [] 22 e w' := by
 have hex : Hid (expR (N : Int) xs = (expo xs, 0)) := Lib.hid (by unfold expR; rw [hv.out, if_pos rfl])
 refine calls_marks Tryz.func26 rfl ?_
 simp only [Tryz.ntmps26, List.size_toArray, List.length_cons, List.length_nil, Nat.reduceAdd, Nat.reduceSub, Array.replicate_succ, Array.replicate_zero, List.push_toArray, List.append_toArray, List.nil_append, List.cons_append]
 refine wk_seq ?_
 refine Wr [1, 0, 0] ?_
 refine Rgn fun g1 => ?_
 refine Zx ?_
 refine Zr ?_
 refine Wr [0, 1, 0] ?_
 refine rf_loadR (n := 2) rfl rfl rfl UU28 rfl Kx (fun w hw => Kn.hd0 hw) rfl rfl (Nq ?_)
 apply rg_pure Rx Kx
 case hargs => exact Ax
 case h => exact fun w hw => by have := mvalid_any (N : Int) xs a c hl w (hA.kn0 hw); rw [hv.out] at this; exact this
 case hz => exact Nz
 refine Zx ?_
 refine Zr ?_
 refine Wr [0, 1, 0, 0, 0, 0, 0] ?_
 refine rf_loadR (n := 2) rfl rfl rfl UU28 rfl Kx (fun w hw => Kn.hd0 hw) rfl rfl (Nq ?_)
 apply rg_pure Rx Kx
 case hargs => exact Ax
 case h => exact fun w hw => by have := mExponent_any (N : Int) xs a c hl w (hA.kn0 hw); rw [hex.out] at this; exact this
 case hz => exact Nz
 refine Zx ?_
 refine Zr ?_
 refine Wr [0, 0, 0, 0, 0, 0, 0, 1, 0, 0] ?_
 refine Fd 0 0 UU28 ?_
 refine rf_load rfl rfl rfl UU3 rfl (fun w hw => (Kn.hd0 hw).at rfl) (Nq ?_)
 refine rfb_gtr rfl rfl rfl rfl ?_
 intro x h1
 obtain rfl : x = false := by (refine h1.symm.trans ?_; exact decide_eq_false Ox)
 clear h1
 refine Zx ?_
 apply rg_soft_g
 case hg => rfl
 case hy => (intro w hw; exact Gy)
 simp only [qz]
 refine Fd 0 0 UU28 ?_
 refine rf_load rfl rfl rfl UU3 rfl (fun w hw => (Kn.hd0 hw).at rfl) (Nq ?_)
 apply rg_pure Rx Kx
 case hargs => exact Ax
 case h => exact fun w hw => most_any N Ox w
 case hz => exact Nz
 simp only [qz]
 refine rfb_gtr rfl rfl rfl rfl ?_
 intro x h2
 obtain rfl : x = false := by (refine h2.symm.trans ?_; exact decide_eq_false Ox)
 clear h2
 refine Zx ?_
 refine Zr ?_
 refine Wr [0, 1, 0, 0, 0, 0, 0] ?_
 refine rf_loadR (n := 2) rfl rfl rfl UU28 rfl Kx (fun w hw => Kn.hd0 hw) rfl rfl (Nq ?_)
 apply rg_pure Rx Kx
 case hargs => exact Ax
 case h => exact fun w hw => sunitary_non (N : Int) xs a c hl hv hu w (hA.kn0 hw)
 case hz => exact Nz
 refine Zx ?_
 refine Zr ?_
 refine Wx [0, 0] ?_
 refine rf_neq (b := true) rfl rfl rfl rfl (by decide) (Nq ?_)
 refine Zr ?_
 refine Wx [0, 0, 0] ?_
 refine Zr ?_
 refine ek_retM0 (fun w hw => ⟨_, res_tt _ _ rfl, ?_⟩)
 (try simp only [qz])
 exact ⟨.slice none 0 0, [], (by first | rfl | trivial), OwnT.nil, .nil hw.below⟩
theorem asked_invalid (n : Int) (xs : List Nm) (a : Option Addr) (c : Nat) (hl : xs.length ≤ 1000000) (hv : Hid (validB n xs = false)) (w : World) (hA : AS w a (nms xs)) : Calls Tryz.prog 27 #[.agg #[.int .i64 n, .slice a xs.length c]] w fun e w' => e = .returned (.int .i64 20) ∧ Below w.heap.size w w' := by
 go_enter Tryz.func27, Tryz.ntmps27
 refine wk_start ?_
 refine wk_seq ?_
 refine Wr [1, 0] ?_
 refine Rgn fun g1 => ?_
 refine Zm ?_
 refine Zr ?_
 refine Wr [0, 1, 0] ?_
 apply rg_soft
 case hy => (intro w hw; obtain ⟨hcg1, hfg1⟩ := (Kn.hd0 hw).facts; exact Gy)
 simp only [qz]
 apply rg_pure Rx Kx
 case hargs => exact Ax
 case h => exact fun w hw => by have := rmvalid_any n xs a c hl w (hA.kn0 hw); rw [hv.out] at this; exact this
 case hz => exact Nz
 simp only [qz]
 refine rf_not rfl rfl rfl (Nq ?_)
 refine Zr ?_
 refine Wm [0] ?_
 refine Zr ?_
 refine Er fun w hw => ?_
 (try simp only [qz])
 first | exact ⟨rfl, hw.below⟩ | exact ⟨trivial, hw.below⟩ | exact hw.below
theorem asked_big (N : Nat) (xs : List Nm) (a : Option Addr) (c : Nat) (hl : xs.length ≤ 1000000) (hv : Hid (validB (N : Int) xs = true)) (hN : (N : Int) > 4) (w : World) (hA : AS w a (nms xs)) : Calls Tryz.prog 27 #[.agg #[.int .i64 N, .slice a xs.length c]] w fun e w' => e = .returned (.int .i64 4) ∧ Below w.heap.size w w' := by
 have hex : Hid (expR (N : Int) xs = (expo xs, 0)) := Lib.hid (by unfold expR; rw [hv.out, if_pos rfl])
 have hN1 : 1 ≤ N ∧ N ≤ 6 := by
  obtain ⟨N', e, h1, h6, -⟩ := validB_true hv.out
  omega
 go_enter Tryz.func27, Tryz.ntmps27
 refine wk_start ?_
 refine wk_seq ?_
 refine Wr [1, 0] ?_
 refine Rgn fun g1 => ?_
 refine Zm ?_
 refine Zr ?_
 refine Wr [0, 1, 0] ?_
 apply rg_soft
 case hy => (intro w hw; obtain ⟨hcg1, hfg1⟩ := (Kn.hd0 hw).facts; exact Gy)
 simp only [qz]
 apply rg_pure Rx Kx
 case hargs => exact Ax
 case h => exact fun w hw => by have := rmvalid_any (N : Int) xs a c hl w (hA.kn0 hw); rw [hv.out] at this; exact this
 case hz => exact Nz
 simp only [qz]
 refine rf_not rfl rfl rfl (Nq ?_)
 refine Zr ?_
 refine Wr [1, 0] ?_
 refine rg_newS (cs := ?_) (ty := ?_) (n := 5) (c := 5) Rx (fun w => ?_) Nz (fun g2 => ?_); rotate_left 2
 focus (go_simp; rfl)
 refine Zm ?_
 refine Zr ?_
 refine Wr [0, 1, 0, 0, 0, 0, 0] ?_
 apply rg_soft
 case hy => (intro w hw; obtain ⟨hcg1, hfg1⟩ := (Kn.hd0 (Kn.tl hw)).facts; exact Gy)
 simp only [qz]
 apply rg_pure Rx Kx
 case hargs => exact Ax
 case h => exact fun w hw => by have := rExponent_any (N : Int) xs a c hl w (hA.kn0 hw); rw [hex.out] at this; exact this
 case hz => exact Nz
 refine Zm ?_
 refine rf_extract rfl rfl rfl rfl (Nq ?_)
 refine rf_extract rfl rfl rfl rfl (Zm ?_)
 refine Zr ?_
 refine Wr [0, 0, 0, 0, 0, 0, 0, 0, 0, 0, 0, 0] ?_
 refine Zk ?_
 apply rg_soft
 case hy => (intro w hw; obtain ⟨hcg1, hfg1⟩ := (Kn.hd0 (Kn.tl hw)).facts; exact Gy)
 simp only [qz]
 apply rg_softb
 case hy => (intro w hw; exact Gy)
 intro x h1
 obtain rfl : x = true := by (refine h1.symm.trans ?_; first | rfl | exact decide_eq_true Ox | exact beq_iff_eq.2 Ox | exact bne_iff_ne.2 Ox | (simp; omega) | (simp; done))
 clear h1
 refine Zm ?_
 refine rf_pick rfl rfl rfl (Nq ?_)
 refine Zr ?_
 refine Wm [0] ?_
 refine Zr ?_
 refine Er fun w hw => ?_
 (try simp only [qz])
 first | exact ⟨rfl, hw.below⟩ | exact ⟨trivial, hw.below⟩ | exact hw.below
theorem asked_limit (N : Nat) (xs : List Nm) (a : Option Addr) (c : Nat) (hl : xs.length ≤ 1000000) (hv : Hid (validB (N : Int) xs = true)) (hN : ¬ (N : Int) > 4) (hk : expo xs > mostN N) (w : World) (hA : AS w a (nms xs)) : Calls Tryz.prog 27 #[.agg #[.int .i64 N, .slice a xs.length c]] w fun e w' => e = .returned (.int .i64 4) ∧ Below w.heap.size w w' := by
 have hex : Hid (expR (N : Int) xs = (expo xs, 0)) := Lib.hid (by unfold expR; rw [hv.out, if_pos rfl])
 have hN1 : 1 ≤ N ∧ N ≤ 6 := by
  obtain ⟨N', e, h1, h6, -⟩ := validB_true hv.out
  omega
 go_enter Tryz.func27, Tryz.ntmps27
 refine wk_start ?_
 refine wk_seq ?_
 refine Wr [1, 0] ?_
 refine Rgn fun g1 => ?_
 refine Zm ?_
 refine Zr ?_
 refine Wr [0, 1, 0] ?_
 apply rg_soft
 case hy => (intro w hw; obtain ⟨hcg1, hfg1⟩ := (Kn.hd0 hw).facts; exact Gy)
 simp only [qz]
 apply rg_pure Rx Kx
 case hargs => exact Ax
 case h => exact fun w hw => by have := rmvalid_any (N : Int) xs a c hl w (hA.kn0 hw); rw [hv.out] at this; exact this
 case hz => exact Nz
 simp only [qz]
 refine rf_not rfl rfl rfl (Nq ?_)
 refine Zr ?_
 refine Wr [1, 0] ?_
 refine rg_newS (cs := ?_) (ty := ?_) (n := 5) (c := 5) Rx (fun w => ?_) Nz (fun g2 => ?_); rotate_left 2
 focus (go_simp; rfl)
 refine Zm ?_
 refine Zr ?_
 refine Wr [0, 1, 0, 0, 0, 0, 0] ?_
 apply rg_soft
 case hy => (intro w hw; obtain ⟨hcg1, hfg1⟩ := (Kn.hd0 (Kn.tl hw)).facts; exact Gy)
 simp only [qz]
 apply rg_pure Rx Kx
 case hargs => exact Ax
 case h => exact fun w hw => by have := rExponent_any (N : Int) xs a c hl w (hA.kn0 hw); rw [hex.out] at this; exact this
 case hz => exact Nz
 refine Zm ?_
 refine rf_extract rfl rfl rfl rfl (Nq ?_)
 refine rf_extract rfl rfl rfl rfl (Zm ?_)
 refine Zr ?_
 refine Wr [0, 0, 0, 0, 0, 0, 0, 0, 0, 0, 0, 0] ?_
 refine Zk ?_
 apply rg_soft
 case hy => (intro w hw; obtain ⟨hcg1, hfg1⟩ := (Kn.hd0 (Kn.tl hw)).facts; exact Gy)
 simp only [qz]
 apply rg_softb
 case hy => (intro w hw; exact Gy)
 intro x h1
 obtain rfl : x = false := by (refine h1.symm.trans ?_; first | rfl | exact decide_eq_false Ox | exact beq_eq_false_iff_ne.2 Ox | exact bne_eq_false_iff_eq.2 Ox | (simp; omega) | (simp; done))
 clear h1
 refine Zm ?_
 apply rg_soft_g
 case hg => rfl
 case hy => (intro w hw; exact Gy)
 simp only [qz]
 apply rg_soft_g
 case hg => rfl
 case hy => (intro w hw; exact Gy)
 simp only [qz]
 apply rg_soft_g
 case hg => rfl
 case hy => (intro w hw; exact Gy)
 simp only [qz]
 apply rg_soft_g
 case hg => rfl
 case hy => (intro w hw; obtain ⟨hcg1, hfg1⟩ := (Kn.hd0 (Kn.tl hw)).facts; exact Gy)
 simp only [qz]
 refine rf_indexS (n := N) (sz := 1) (j := N) rfl rfl rfl rfl UU23 Kx Ox Ox Ox (Nq ?_)
 refine rf_load (v := .int .i64 (mostN N)) rfl rfl rfl UU3 rfl (fun w hw => ((Kn.hd0 hw).cell N).trans (most_at N Ox)) (Nq ?_)
 apply rg_softb_g
 case hg => rfl
 case hy => (intro w hw; exact Gy)
 intro x h2
 obtain rfl : x = true := by (refine h2.symm.trans ?_; first | rfl | exact decide_eq_true Ox | exact beq_iff_eq.2 Ox | exact bne_iff_ne.2 Ox | (simp; omega) | (simp; done))
 clear h2
 simp only [qz]
 refine rf_pick rfl rfl rfl (Nq ?_)
 refine Zr ?_
 refine Wm [0] ?_
 refine Zr ?_
 refine Er fun w hw => ?_
 (try simp only [qz])
 first | exact ⟨rfl, hw.below⟩ | exact ⟨trivial, hw.below⟩ | exact hw.below
theorem asked_non (N : Nat) (xs : List Nm) (a : Option Addr) (c : Nat) (hl : xs.length ≤ 1000000) (hv : Hid (validB (N : Int) xs = true)) (hN : ¬ (N : Int) > 4) (hk : ¬ expo xs > mostN N) (hu : Hid (unB (N : Int) xs = false)) (w : World) (hA : AS w a (nms xs)) : Calls Tryz.prog 27 #[.agg #[.int .i64 N, .slice a xs.length c]] w fun e w' => e = .returned (.int .i64 22) ∧ Below w.heap.size w w' := by
 have hex : Hid (expR (N : Int) xs = (expo xs, 0)) := Lib.hid (by unfold expR; rw [hv.out, if_pos rfl])
 have hN1 : 1 ≤ N ∧ N ≤ 6 := by
  obtain ⟨N', e, h1, h6, -⟩ := validB_true hv.out
  omega
 go_enter Tryz.func27, Tryz.ntmps27
 refine wk_start ?_
 refine wk_seq ?_
 refine Wr [1, 0] ?_
 refine Rgn fun g1 => ?_
 refine Zm ?_
 refine Zr ?_
 refine Wr [0, 1, 0] ?_
 apply rg_soft
 case hy => (intro w hw; obtain ⟨hcg1, hfg1⟩ := (Kn.hd0 hw).facts; exact Gy)
 simp only [qz]
 apply rg_pure Rx Kx
 case hargs => exact Ax
 case h => exact fun w hw => by have := rmvalid_any (N : Int) xs a c hl w (hA.kn0 hw); rw [hv.out] at this; exact this
 case hz => exact Nz
 simp only [qz]
 refine rf_not rfl rfl rfl (Nq ?_)
 refine Zr ?_
 refine Wr [1, 0] ?_
 refine rg_newS (cs := ?_) (ty := ?_) (n := 5) (c := 5) Rx (fun w => ?_) Nz (fun g2 => ?_); rotate_left 2
 focus (go_simp; rfl)
 refine Zm ?_
 refine Zr ?_
 refine Wr [0, 1, 0, 0, 0, 0, 0] ?_
 apply rg_soft
 case hy => (intro w hw; obtain ⟨hcg1, hfg1⟩ := (Kn.hd0 (Kn.tl hw)).facts; exact Gy)
 simp only [qz]
 apply rg_pure Rx Kx
 case hargs => exact Ax
 case h => exact fun w hw => by have := rExponent_any (N : Int) xs a c hl w (hA.kn0 hw); rw [hex.out] at this; exact this
 case hz => exact Nz
 refine Zm ?_
 refine rf_extract rfl rfl rfl rfl (Nq ?_)
 refine rf_extract rfl rfl rfl rfl (Zm ?_)
 refine Zr ?_
 refine Wr [0, 0, 0, 0, 0, 0, 0, 0, 0, 0, 0, 0] ?_
 refine Zk ?_
 apply rg_soft
 case hy => (intro w hw; obtain ⟨hcg1, hfg1⟩ := (Kn.hd0 (Kn.tl hw)).facts; exact Gy)
 simp only [qz]
 apply rg_softb
 case hy => (intro w hw; exact Gy)
 intro x h1
 obtain rfl : x = false := by (refine h1.symm.trans ?_; first | rfl | exact decide_eq_false Ox | exact beq_eq_false_iff_ne.2 Ox | exact bne_eq_false_iff_eq.2 Ox | (simp; omega) | (simp; done))
 clear h1
 refine Zm ?_
 apply rg_soft_g
 case hg => rfl
 case hy => (intro w hw; exact Gy)
 simp only [qz]
 apply rg_soft_g
 case hg => rfl
 case hy => (intro w hw; exact Gy)
 simp only [qz]
 apply rg_soft_g
 case hg => rfl
 case hy => (intro w hw; exact Gy)
 simp only [qz]
 apply rg_soft_g
 case hg => rfl
 case hy => (intro w hw; obtain ⟨hcg1, hfg1⟩ := (Kn.hd0 (Kn.tl hw)).facts; exact Gy)
 simp only [qz]
 refine rf_indexS (n := N) (sz := 1) (j := N) rfl rfl rfl rfl UU23 Kx Ox Ox Ox (Nq ?_)
 refine rf_load (v := .int .i64 (mostN N)) rfl rfl rfl UU3 rfl (fun w hw => ((Kn.hd0 hw).cell N).trans (most_at N Ox)) (Nq ?_)
 apply rg_softb_g
 case hg => rfl
 case hy => (intro w hw; exact Gy)
 intro x h2
 obtain rfl : x = false := by (refine h2.symm.trans ?_; first | rfl | exact decide_eq_false Ox | exact beq_eq_false_iff_ne.2 Ox | exact bne_eq_false_iff_eq.2 Ox | (simp; omega) | (simp; done))
 clear h2
 simp only [qz]
 refine rf_pick rfl rfl rfl (Nq ?_)
 refine Zr ?_
 refine Wr [0, 1, 0] ?_
 apply rg_soft
 case hy => (intro w hw; obtain ⟨hcg1, hfg1⟩ := (Kn.hd0 (Kn.tl hw)).facts; exact Gy)
 simp only [qz]
 apply rg_pure Rx Kx
 case hargs => exact Ax
 case h => exact fun w hw => by have := rUn_any (N : Int) xs a c hv.out w (hA.kn0 hw); rw [hu.out] at this; exact this
 case hz => exact Nz
 simp only [qz]
 refine rf_not rfl rfl rfl (Nq ?_)
 refine Zr ?_
 refine Wm [0] ?_
 refine Zr ?_
 refine Er fun w hw => ?_
 (try simp only [qz])
 first | exact ⟨rfl, hw.below⟩ | exact ⟨trivial, hw.below⟩ | exact hw.below
theorem asked_yes (N : Nat) (xs : List Nm) (a : Option Addr) (c : Nat) (hl : xs.length ≤ 1000000) (hv : Hid (validB (N : Int) xs = true)) (hN : ¬ (N : Int) > 4) (hk : ¬ expo xs > mostN N) (hu : Hid (unB (N : Int) xs = true)) (w : World) (hA : AS w a (nms xs)) : Calls Tryz.prog 27 #[.agg #[.int .i64 N, .slice a xs.length c]] w fun e w' => e = .returned (.int .i64 0) ∧ Below w.heap.size w w' := by
 have hex : Hid (expR (N : Int) xs = (expo xs, 0)) := Lib.hid (by unfold expR; rw [hv.out, if_pos rfl])
 have hN1 : 1 ≤ N ∧ N ≤ 6 := by
  obtain ⟨N', e, h1, h6, -⟩ := validB_true hv.out
  omega
 go_enter Tryz.func27, Tryz.ntmps27
 refine wk_start ?_
 refine wk_seq ?_
 refine Wr [1, 0] ?_
 refine Rgn fun g1 => ?_
 refine Zm ?_
 refine Zr ?_
 refine Wr [0, 1, 0] ?_
 apply rg_soft
 case hy => (intro w hw; obtain ⟨hcg1, hfg1⟩ := (Kn.hd0 hw).facts; exact Gy)
 simp only [qz]
 apply rg_pure Rx Kx
 case hargs => exact Ax
 case h => exact fun w hw => by have := rmvalid_any (N : Int) xs a c hl w (hA.kn0 hw); rw [hv.out] at this; exact this
 case hz => exact Nz
 simp only [qz]
 refine rf_not rfl rfl rfl (Nq ?_)
 refine Zr ?_
 refine Wr [1, 0] ?_
 refine rg_newS (cs := ?_) (ty := ?_) (n := 5) (c := 5) Rx (fun w => ?_) Nz (fun g2 => ?_); rotate_left 2
 focus (go_simp; rfl)
 refine Zm ?_
 refine Zr ?_
 refine Wr [0, 1, 0, 0, 0, 0, 0] ?_
 apply rg_soft
 case hy => (intro w hw; obtain ⟨hcg1, hfg1⟩ := (Kn.hd0 (Kn.tl hw)).facts; exact Gy)
 simp only [qz]
 apply rg_pure Rx Kx
 case hargs => exact Ax
 case h => exact fun w hw => by have := rExponent_any (N : Int) xs a c hl w (hA.kn0 hw); rw [hex.out] at this; exact this
 case hz => exact Nz
 refine Zm ?_
 refine rf_extract rfl rfl rfl rfl (Nq ?_)
 refine rf_extract rfl rfl rfl rfl (Zm ?_)
 refine Zr ?_
 refine Wr [0, 0, 0, 0, 0, 0, 0, 0, 0, 0, 0, 0] ?_
 refine Zk ?_
 apply rg_soft
 case hy => (intro w hw; obtain ⟨hcg1, hfg1⟩ := (Kn.hd0 (Kn.tl hw)).facts; exact Gy)
 simp only [qz]
 apply rg_softb
 case hy => (intro w hw; exact Gy)
 intro x h1
 obtain rfl : x = false := by (refine h1.symm.trans ?_; first | rfl | exact decide_eq_false Ox | exact beq_eq_false_iff_ne.2 Ox | exact bne_eq_false_iff_eq.2 Ox | (simp; omega) | (simp; done))
 clear h1
 refine Zm ?_
 apply rg_soft_g
 case hg => rfl
 case hy => (intro w hw; exact Gy)
 simp only [qz]
 apply rg_soft_g
 case hg => rfl
 case hy => (intro w hw; exact Gy)
 simp only [qz]
 apply rg_soft_g
 case hg => rfl
 case hy => (intro w hw; exact Gy)
 simp only [qz]
 apply rg_soft_g
 case hg => rfl
 case hy => (intro w hw; obtain ⟨hcg1, hfg1⟩ := (Kn.hd0 (Kn.tl hw)).facts; exact Gy)
 simp only [qz]
 refine rf_indexS (n := N) (sz := 1) (j := N) rfl rfl rfl rfl UU23 Kx Ox Ox Ox (Nq ?_)
 refine rf_load (v := .int .i64 (mostN N)) rfl rfl rfl UU3 rfl (fun w hw => ((Kn.hd0 hw).cell N).trans (most_at N Ox)) (Nq ?_)
 apply rg_softb_g
 case hg => rfl
 case hy => (intro w hw; exact Gy)
 intro x h2
 obtain rfl : x = false := by (refine h2.symm.trans ?_; first | rfl | exact decide_eq_false Ox | exact beq_eq_false_iff_ne.2 Ox | exact bne_eq_false_iff_eq.2 Ox | (simp; omega) | (simp; done))
 clear h2
 simp only [qz]
 refine rf_pick rfl rfl rfl (Nq ?_)
 refine Zr ?_
 refine Wr [0, 1, 0] ?_
 apply rg_soft
 case hy => (intro w hw; obtain ⟨hcg1, hfg1⟩ := (Kn.hd0 (Kn.tl hw)).facts; exact Gy)
 simp only [qz]
 apply rg_pure Rx Kx
 case hargs => exact Ax
 case h => exact fun w hw => by have := rUn_any (N : Int) xs a c hv.out w (hA.kn0 hw); rw [hu.out] at this; exact this
 case hz => exact Nz
 simp only [qz]
 refine rf_not rfl rfl rfl (Nq ?_)
 refine Zr ?_
 refine Wm [0] ?_
 refine Zr ?_
 refine Er fun w hw => ?_
 (try simp only [qz])
 first | exact ⟨rfl, hw.below⟩ | exact ⟨trivial, hw.below⟩ | exact hw.below
theorem asked_any (n : Int) (xs : List Nm) (a : Option Addr) (c : Nat) (hl : xs.length ≤ 1000000) (w : World) (hA : AS w a (nms xs)) : Calls Tryz.prog 27 #[.agg #[.int .i64 n, .slice a xs.length c]] w fun e w' => e = .returned (.int .i64 (askE n xs)) ∧ Below w.heap.size w w' := by
 by_cases hv : validB n xs = true
 ·obtain ⟨N, rfl, -⟩ := validB_true hv
  have e0 : askE N xs = if (N : Int) > 4 ∨ expo xs > mostN N then 4 else if unB N xs = true then 0 else 22 := by unfold askE; rw [if_pos hv, Int.toNat_natCast]
  by_cases h4 : (N : Int) > 4
  ·rw [e0, if_pos (.inl h4)]; exact asked_big N xs a c hl (Lib.hid hv) h4 w hA
  by_cases hk : expo xs > mostN N
  ·rw [e0, if_pos (.inr hk)]; exact asked_limit N xs a c hl (Lib.hid hv) h4 hk w hA
  rw [e0, if_neg (fun h => h.elim h4 hk)]
  by_cases hu : unB N xs = true
  ·rw [if_pos hu]; exact asked_yes N xs a c hl (Lib.hid hv) h4 hk (Lib.hid hu) w hA
  rw [if_neg hu]; exact asked_non N xs a c hl (Lib.hid hv) h4 hk (Lib.hid (by simpa using hu)) w hA
 have e0 : askE n xs = 20 := by unfold askE; rw [if_neg hv]
 rw [e0]; exact asked_invalid n xs a c hl (Lib.hid (by simpa using hv)) w hA
section
variable {R : Option Nat} {ops : Array Oper} {Q : Exit → Act → World → Prop} {B : World} {F : List Nat} {s0 : Option (List Blk × List Blk)}
variable {l : List (Oper × Nat)} {a : Act} {s S : List Blk} {d : Option Tmp} {op : Op} {t : TypeId} {p : String} {af : Array Edge} {v : Value}
end
section
variable {P : Program} {R : Option Nat} {B : World} {F : List Nat} {s s1 s1' : List Blk} {l : Nat} {r : Loop} {X : Ending → World → Prop} {a : Act}
end
theorem cpls_take {xs : List It} {j : Nat} (h : j < xs.length) : cpls (xs.take (j + 1)) = cpls (xs.take j) + if (it xs j).kind = 2 then 1 else 0 := by
 rw [take_it h]
 unfold cpls
 rw [List.filter_append, List.length_append]
 congr 1
 by_cases e : (it xs j).kind = 2
 ·rw [if_pos e, List.filter_cons_of_pos (by simpa using e)]; rfl
 rw [if_neg e, List.filter_cons_of_neg (by simpa using e)]; rfl
theorem rcouplers_any (xs : List It) (a : Option Addr) (c : Nat) (hl : xs.length ≤ 1000000) (w : World) (hA : AS w a (its xs)) : Calls Tryz.prog 21 #[.slice a xs.length c] w fun e w' => e = .returned (.int .i64 (cpls xs : Nat)) ∧ Below w.heap.size w w' := by
 go_enter Tryz.func21, Tryz.ntmps21
 refine wk_start ?_
 refine wk_seq ?_
 refine Wm [0] ?_
 refine Zr ?_
 refine Wm [0] ?_
 refine Zr ?_
 refine Wm [0] ?_
 refine Zr ?_
 refine wk_loopF [3, 4, 5, 6, 7, 8, 9, 10, 11, 12, 13, 14, 15, 16, 17, 18] (fun mz f s => ∃ (j k : Nat), f 3 = .int .i64 k ∧ f 4 = .int .i64 j ∧ s = [] ∧ mz = xs.length - j ∧ j ≤ xs.length ∧ Hid (cpls (xs.take j) = k)) ((fun (j k : Nat) => xs.length - j) (0) (0)) ?_ Kx ?_
 ·exact ⟨0, 0, rfl, rfl, rfl, rfl, by omega, Lib.hid rfl⟩
 rintro mz f1 s ⟨j, k, hs1_3, hs1_4, rfl, hn, hd1, hd2⟩
 simp only [Act.putF, List.foldl_cons, List.foldl_nil, hs1_3, hs1_4, Act.put, Act.eval, qW, Nat.reduceAdd, Bool.not_true, Bool.not_false]
 clear hs1_3 hs1_4
 have hk := hd2
 clear hd2
 have hkl : k ≤ 1000000 := by (have := List.length_filter_le (fun x => decide (x.kind = 2)) (xs.take j); have h2 := List.length_take_le j xs; rw [← hk.out]; exact Nat.le_trans this Ox)
 refine wk_seq (wk_seq ?_)
 refine Wm [0, 0, 0, 0] ?_
 refine rf_len rfl rfl rfl UU22 (Nq ?_)
 refine rfb_lss rfl rfl rfl rfl ?_
 rintro (_ | _) h1 <;> try simp only [qd, ne_eq] at h1
 ·simp only [qz]
  refine Zr ?_; refine Wm [0, 0] ?_; refine Zr ?_
  refine Er fun w hw => ?_
  (try simp only [qz])
  obtain rfl : j = xs.length := by omega
  exact ⟨by rw [← hk.out, List.take_length], hw.below⟩
 simp only [qz]
 obtain ⟨b, off, rfl, hlt, hcell⟩ := AS.openT hA Ox
 have hck := hcell j Ox
 refine Zr ?_
 refine Wm [0, 0, 0, 0, 0, 0] ?_
 refine rf_indexS (n := j) (sz := 4) (j := off + j * 4) rfl rfl rfl rfl UU22 Kx Ox Ox rfl (Nq ?_)
 refine rf_field (n := 0) (j := off + j * 4) rfl rfl rfl UU72 rfl Kx rfl (Nq ?_)
 refine rf_load (v := .int .i64 (it xs j).kind) rfl rfl rfl UU3 rfl (fun w hw => (Kn.cellB hw hlt (by simp) _).trans hck.c0) (Nq ?_)
 refine rfb_eql rfl rfl rfl rfl ?_
 rintro (_ | _) h2 <;> try simp only [qd, ne_eq] at h2
 ·simp only [qz]
  refine Zr ?_; refine Wm [0, 0, 0] ?_; refine rf_add rfl rfl rfl rfl (wrap_ok Ox Ox) (Zm ?_); refine rg_nil ?_; refine ek_roundF (xs.length - (j + 1)) Ox Kx ?_
  exact ⟨j + 1, k, rfl, rfl, by rfl, by rfl, by omega, (Lib.hid (by rw [cpls_take Ox, hk.out, if_neg h2, Nat.add_zero]))⟩
 simp only [qz]
 refine Zr ?_
 refine Wm [0, 0, 0] ?_
 refine rf_add rfl rfl rfl rfl (wrap_ok Ox Ox) (Zm ?_)
 refine Zr ?_
 refine Wm [0, 0, 0] ?_
 refine rf_add rfl rfl rfl rfl (wrap_ok Ox Ox) (Zm ?_)
 refine rg_nil ?_
 refine ek_roundF (xs.length - (j + 1)) Ox Kx ?_
 exact ⟨j + 1, k + 1, rfl, rfl, by rfl, by rfl, by omega, (Lib.hid (by rw [cpls_take Ox, hk.out, if_pos h2]))⟩
theorem wcolumn_any (N col gw W : Nat) (B : Int) (M0 : Tb) (z : Zt) (L : List It) (s : List Blk) (hS : WS N gw z L s) (hN : N ≤ 4) (hN4 : N ≤ col + 4) (hB : N = col + 4 → B ≤ 13) (hWW : W ≤ 90000) (hc : col < N) (hR : Rn N col B M0 W z L) (w : World) (hK : Kn w (s.map (·.1)) s w) : Calls Tryz.prog 70 #[.pointer (some ⟨gw, 0, none⟩), .int .i64 (col : Int)] w fun e w' => e = .returned (.tuple #[]) ∧ ∃ s', Kn w (s.map (·.1)) s' w' ∧ ∃ z' L', WS N gw z' L' s' ∧ PI N (col + 1) z' ∧ Cb N (col + 1) z' ∧ EqT N (vt z') (actQ L' M0) ∧ (∀ x ∈ L', fitB N x = true) ∧ L'.length ≤ W + 4 := by
 have hLl := hR.len
 go_enter Tryz.func70, Tryz.ntmps70
 refine wk_startF hK.nil' ?_
 refine wk_seq (wk_seq ?_)
 refine Wx [0, 0, 1, 0] ?_
 apply rg_pure Rx Kx
 case hargs => exact Ax
 case h => exact fun w hw => wexpo_any N col gw z L s hS Ox Ox hc w (Kn.self hw)
 case hz => exact Nz
 refine Zx ?_
 refine Zr ?_
 refine wk_loopF [4, 11, 12, 13, 14, 15, 16, 17, 18, 19] (fun mz f s => ∃ (y : Zt) (M : List It) (uV : List Blk), f 4 = .int .i64 (expZ y col (N - col)) ∧ s = (uV ++ []) ∧ mz = muZ N col y ∧ WS N gw y M uV ∧ Rn N col B M0 W y M) ((fun (y : Zt) (M : List It) (uV : List Blk) => muZ N col y) (z) (L) (s)) ?_ Kx ?_
 ·exact ⟨z, L, s, rfl, rfl, rfl, hS, hR⟩
 rintro mz f1 s ⟨y, M, uV, hs1_4, rfl, hn, hd1, hd2⟩
 simp only [Act.putF, List.foldl_cons, List.foldl_nil, hs1_4, Act.put, Act.eval, qW, Nat.reduceAdd, Bool.not_true, Bool.not_false]
 clear hs1_4
 have hW := hd1
 have hRn := hd2
 clear hd1 hd2
 have hML := hRn.len
 refine wk_seq (wk_seq ?_)
 refine Wx [0, 0] ?_
 refine rfb_gtr rfl rfl rfl rfl ?_
 rintro (_ | _) h1 <;> try simp only [qd, ne_eq] at h1
 ·simp only [qz]
  refine Zr ?_
  obtain ⟨a, hca, haN, hane, hzer⟩ := hRn.unit hc Ox
  obtain ⟨go, oc, ro, rs, ia, ic, u, hse, hrl, hoc, hlen, hval, hO, hok⟩ := hW.open_
  rw [hse]; refine Wx [0, 0] ?_; refine Zr ?_; refine wk_loopF [5, 21, 22, 23, 24, 25, 26, 27, 28, 29, 30, 31, 32, 33, 34] (fun mz f s => ∃ (i : Nat), f 5 = .int .i64 i ∧ s = ((gw, .cells #[.slice (some ⟨go, 0, none⟩) N oc, .slice ia M.length ic] 118) :: ((go, .cells (rwV N rs ++ ro).toArray 26) :: (rwB rs ++ (u ++ [])))) ∧ mz = N - i ∧ col ≤ i ∧ i ≤ a) ((fun (i : Nat) => N - i) (col)) ?_ Kx ?_
  ·exact ⟨col, rfl, rfl, rfl, by omega, hca⟩
  rintro mz f2 s ⟨i, hs2_5, rfl, hn, he1, he2⟩
  simp only [Act.putF, List.foldl_cons, List.foldl_nil, hs2_5, Act.put, Act.eval, qW, Nat.reduceAdd, Bool.not_true, Bool.not_false]; clear hs2_5
  obtain ⟨⟨b1, c1, l1, r1⟩, hx1⟩ : ∃ x, rs[i]? = some x := ⟨rs[i]'Ox, List.getElem?_eq_getElem Ox⟩
  have hl1 : l1.length = N := hlen ⟨b1, c1, l1, r1⟩ (List.mem_of_getElem? hx1)
  have hz1 : nm l1 col = y (i) col := hval _ _ hx1 col hc
  refine wk_seq (wk_seq ?_); refine Wx [0, 0, 0, 0, 0, 0, 0, 0, 0, 0, 0, 0] ?_; refine Zk ?_; refine Fd 0 0 UU118 ?_; refine rf_load rfl rfl rfl UU116 rfl (fun w hw => (Kn.hd0 hw).at rfl) (Zx ?_); refine rf_indexS (n := i) (sz := 1) (j := i) rfl rfl rfl rfl UU116 Kx Ox Ox Ox (Nq ?_); refine rf_load (v := .slice (some ⟨b1, 0, none⟩) N c1) rfl rfl rfl UU26 rfl (fun w hw => Kn.outer (Kn.tl hw) (hx1)) (Zx ?_)
  refine rf_indexS (n := col) (sz := 5) (j := 0 + col * 5) rfl rfl rfl rfl UU26 Kx Ox Ox rfl (Nq ?_); refine rf_loadC (n := 5) (vs := [.int .i64 (y i col).a, .int .i64 (y i col).b, .int .i64 (y i col).c, .int .i64 (y i col).d, .int .i64 (y i col).k]) rfl rfl rfl UU44 rfl Kx rfl (fun w hw => atN_range (by have := Kn.row (Kn.tl (Kn.tl hw)) hx1 (k := col) (by rw [hl1]; exact hc); rw [hz1] at this; exact this)) (Nq ?_)
  refine rf_build (cs := fun a => #[.int .i64 0, .int .i64 0, .int .i64 0, .int .i64 0, .int .i64 0]) rfl rfl Kx (Nq ?_); refine rfb_eqN (y i col) (Nm.zero) rfl rfl rfl rfl ?_
  rintro (_ | _) h2 <;> try simp only [qd, ne_eq] at h2
  ·simp only [qz]
   refine Zr ?_
   obtain rfl : i = a := Decidable.byContradiction fun hn => h2 (hzer i Ox hn)
   rw [← hse]; refine Wx [0, 0, 0, 1] ?_; refine rg_eff (T := fun uY => WS N gw (bsZ i y (i - col)) (M ++ bsL i (i - col)) uY) (vb := uV) (rest := []) Rx Kx (by simp only [qm, qs, Act.eval]; try rfl) (List.Perm.refl _) (fun w hw => wbeside_any N i col gw y M uV hW Ox Ox hca haN w hw) (fun uY hTuY => ?_); simp only [qz]; refine Zr ?_
   obtain ⟨hpi, hbnd, hact, hfit, hlen3, hun, hz0⟩ := hRn.beside hN hc hca haN hane Ox
   obtain ⟨go2, oc2, ro2, rs2, ia2, ic2, u2, hse2, hrl2, hoc2, hlen2, hval2, hO2, hok2⟩ := hTuY.open_
   rw [hse2]; refine Wr [0, 0, 1, 1] ?_; refine rf_build (cs := fun a => #[a.eval (.const (.int .i64 1)), .int .i64 0, .int .i64 0, .int .i64 0]) rfl rfl Kx (Nq ?_); refine rf_build (cs := fun a => #[cellAt (a.eval (.tmp 39)) 0, cellAt (a.eval (.tmp 39)) 1, cellAt (a.eval (.tmp 39)) 2, cellAt (a.eval (.tmp 39)) 3, .int .i64 0]) rfl rfl Kx (Nq ?_)
   refine Rgn fun g1 => ?_
   simp only [qz]; refine rf_storeR (n := 5) rfl rfl Kx rfl rfl (UpdR.here _ _ _ Nl) Nz (Nw ?_); refine Zr ?_; refine Wx [0] ?_; refine Zr ?_; refine wk_loopF [7, 41, 42, 43, 44, 45, 46, 47, 48, 49, 50, 51, 52, 53, 54, 55, 56, 57, 58, 59, 60, 61, 62, 63, 64, 65] (fun mz f s => ∃ (n : Nat), f 41 = .int .i64 n ∧ s = ((g1, .cells #[.int .i64 1, .int .i64 0, .int .i64 0, .int .i64 0, .int .i64 0] 44) :: ((gw, .cells #[.slice (some ⟨go2, 0, none⟩) N oc2, .slice ia2 (M ++ bsL i (i - col)).length ic2] 118) :: ((go2, .cells (rwV N rs2 ++ ro2).toArray 26) :: (rwB rs2 ++ (u2 ++ []))))) ∧ mz = 8 - n ∧ n ≤ 8 ∧ (∀ j, j < n → turnM j (bsZ i y (i - col) col col) ≠ Nm.one)) ((fun (n : Nat) => 8 - n) (0)) ?_ Kx ?_
   ·exact ⟨0, rfl, rfl, rfl, by omega, (fun j y1 => absurd y1 Ox)⟩
   rintro mz f3 s ⟨n, hs3_41, rfl, hn, hx1, hx2⟩
   simp only [Act.putF, List.foldl_cons, List.foldl_nil, hs3_41, Act.put, Act.eval, qW, Nat.reduceAdd, Bool.not_true, Bool.not_false]; clear hs3_41; refine wk_seq ?_; refine Wr [0] ?_; refine rfb_lss rfl rfl rfl rfl ?_
   rintro (_ | _) h3 <;> try simp only [qd, ne_eq] at h3
   ·simp only [qz]
    refine rg_nil (ek_next (wk_seq (wk_cond_f rfl (wk_exit (ek_then_exit (ek_then_exit (ek_block_exit ?_)))))))
    exfalso
    obtain ⟨n', hn8, hn1⟩ := hun
    exact hx2 n' Ox hn1
   simp only [qz]; refine Zr ?_; refine Wx [0, 0] ?_; refine Zr ?_
   obtain ⟨⟨b3, c3, l3, r3⟩, hx3⟩ : ∃ x, rs2[col]? = some x := ⟨rs2[col]'Ox, List.getElem?_eq_getElem Ox⟩
   have hl3 : l3.length = N := hlen2 ⟨b3, c3, l3, r3⟩ (List.mem_of_getElem? hx3)
   have hz3 : nm l3 col = (bsZ i y (i - col)) (col) col := hval2 _ _ hx3 col hc
   have hok3 := hok2 col col Ox Ox
   refine wk_draws _ _ [(0, 0), (1, 0), (2, 0), (3, 0), (4, 0), (5, 0), (6, 0), (7, 0), (8, 0), (9, 0), (10, 0), (15, 0), (11, 1), (12, 0), (13, 0), (14, 1), (16, 0)] [] Kx Kx (fun c d v a w h => by cases d <;> exact h) ((sc _ (sc _ (sc _ (Sa (Sa sn _) _))))) (fun e => by first | exact absurd e (by decide) | rfl) ?_; simp only [List.map_cons, List.map_nil, List.getD_cons_zero, List.getD_cons_succ]; refine Zx ?_
   refine Zk ?_; refine Fd 0 0 UU118 ?_; refine rf_load rfl rfl rfl UU116 rfl (fun w hw => (Kn.hd0 (Kn.tl hw)).at rfl) (Zx ?_); refine rf_indexS (n := col) (sz := 1) (j := col) rfl rfl rfl rfl UU116 Kx Ox Ox Ox (Nq ?_); refine rf_load (v := .slice (some ⟨b3, 0, none⟩) N c3) rfl rfl rfl UU26 rfl (fun w hw => Kn.outer (Kn.tl (Kn.tl hw)) (hx3)) (Zx ?_); refine rf_indexS (n := col) (sz := 5) (j := 0 + col * 5) rfl rfl rfl rfl UU26 Kx Ox Ox rfl (Nq ?_)
   refine rf_loadC (n := 5) (vs := [.int .i64 (bsZ i y (i - col) col col).a, .int .i64 (bsZ i y (i - col) col col).b, .int .i64 (bsZ i y (i - col) col col).c, .int .i64 (bsZ i y (i - col) col col).d, .int .i64 (bsZ i y (i - col) col col).k]) rfl rfl rfl UU44 rfl Kx rfl (fun w hw => atN_range (by have := Kn.row (Kn.tl (Kn.tl (Kn.tl hw))) hx3 (k := col) (by rw [hl3]; exact hc); rw [hz3] at this; exact this)) (Zx ?_)
   refine rf_loadR (n := 5) rfl rfl rfl UU44 rfl Kx (fun w hw => Kn.hd0 hw) rfl rfl (Nq ?_); apply rg_pure Rx Kx
   case hargs => exact Ax
   case h => exact fun w hw => amTurnM (bsZ i y (i - col) col col) n Ox hok3 w
   case hz => exact (fun _ h => by cases h; exact (sc _ (sc _ (sc _ (Sa (Sa sn _) _)))))
   refine Zx ?_; apply rg_pure Rx Kx
   case hargs => exact Ax
   case h => exact fun w hw => must_any (turnM n (bsZ i y (i - col) col col)) 0 w
   case hz => exact (fun _ h => by cases h; exact (sc _ (sc _ (sc _ (Sa (Sa sn _) _)))))
   simp only [qz]; refine rfb_eqN (turnM n (bsZ i y (i - col) col col)) (Nm.one) rfl rfl rfl rfl ?_
   rintro (_ | _) h4 <;> try simp only [qd, ne_eq] at h4
   ·simp only [qz]
    refine Zr ?_; refine Wr [0, 0] ?_; refine rf_add rfl rfl rfl rfl (wrap_ok Ox Ox) (Zx ?_); refine rg_nil ?_; refine ek_roundF (8 - (n + 1)) Ox Kx ?_
    exact ⟨n + 1, rfl, by rfl, by rfl, by omega, (fun j y1 => if e : j = n then e ▸ h4 else hx2 j Ox)⟩
   simp only [qz]; refine Zr ?_; rw [← hse2]; refine Wx [0, 0, 0, 1] ?_; refine rg_eff (T := fun uZ => WS N gw (phZ col n (bsZ i y (i - col))) (if n = 0 then (M ++ bsL i (i - col)) else (M ++ bsL i (i - col)) ++ [phsI ((col : Int) + 1) n]) uZ) (vb := uY) (rest := [(g1, .cells #[.int .i64 1, .int .i64 0, .int .i64 0, .int .i64 0, .int .i64 0] 44)]) Rx Kx (by simp only [qm, qs, Act.eval]; try rfl) (perm_atU (l := [_]) (u := uY) (List.Perm.refl _)) (fun w hw => wphase_any N col gw (bsZ i y (i - col)) (M ++ bsL i (i - col)) uY hTuY Ox Ox hc n n Ox w hw) (fun uZ hTuZ => ?_)
   simp only [qz]; refine Zr ?_; refine ek_sub (Sa (sk _ sn) _) ?_; refine ek_ret (fun w hw => ⟨rfl, _, res_0 rfl, ?_⟩); (try simp only [qz])
   obtain ⟨r1, r2, r3, r4, r5⟩ := Rn.last hN4 hB hc hpi hbnd hact hfit (show n < 8 by omega) h4 hz0
   exact ⟨(by first | rfl | trivial), _, hw.of_nil, _, _, hTuZ, r1, r2, r3, r4, by omega⟩
  simp only [qz]; refine Zr ?_; refine Wx [0, 0, 0] ?_; refine rf_add rfl rfl rfl rfl (wrap_ok Ox Ox) (Zx ?_); refine rg_nil (ek_block ?_); refine ek_roundF (N - (i + 1)) Ox Kx ?_
  exact ⟨i + 1, rfl, by rfl, by rfl, by omega, (by rcases (by omega : i = a ∨ i < a) with e | e; exact absurd (e ▸ h2) hane; omega)⟩
 simp only [qz]
 refine Zr ?_
 refine Wx [0, 0, 0, 1] ?_
 obtain ⟨K, hKe⟩ : ∃ K : Nat, expZ y col (N - col) = K := ⟨(expZ y col (N - col)).toNat, by omega⟩
 have hEx := expZ_exp (N := N) (z := y) (show col ≤ N by omega)
 refine rg_eff (T := fun uX => ∃ y2 M2, WS N gw y2 M2 uX ∧ PairR N col (expZ y col (N - col)) y M y2 M2) (vb := uV) (rest := []) Rx Kx (by simp only [qm, qs, Act.eval]; try rfl) (List.Perm.refl _) (fun w hw => wpair_any N col gw (expZ y col (N - col)) y M uV hW Ox Ox hc w hw) (fun uX hTuX => ?_)
 simp only [qz]
 obtain ⟨y2, M2, hW2, hP2⟩ := hTuX
 rw [hKe] at hP2 hEx
 have hR2 := hRn.pair hN hc Ox hEx hP2
 refine Zr ?_
 refine Wx [0, 0, 1, 0] ?_
 apply rg_pure Rx Kx
 case hargs => exact Ax
 case h => exact fun w hw => wexpo_any N col gw y2 M2 uX hW2 Ox (by have := hR2.1.len; omega) hc w (Kn.self hw)
 case hz => exact Nz
 refine Zx ?_
 refine rg_nil ?_
 refine ek_roundF (muZ N col y2) (by have := hR2.2; omega) Kx ?_
 exact ⟨y2, M2, uX, rfl, by rfl, by rfl, hW2, hR2.1⟩
theorem dag_k {N : Nat} {xs zs : List Nm} (hv : validB N xs = true) (hz : validB N zs = true) (ht : ∀ i k, i < N → k < N → tb N zs i k = Q4.conj (tb N xs k i)) {i k : Nat} (hi : i < N) (hk : k < N) : (nm zs (i * N + k)).k ≤ expo xs := by
 obtain ⟨N', e, h1, h6, hx, -, ho⟩ := validB_true hv
 obtain rfl : N' = N := by omega
 obtain ⟨N'', e2, -, -, -, -, ho2⟩ := validB_true hz
 have o1 : (nm xs (k * N' + i)).Ok := nm_okA ho _
 have o2 : (nm zs (i * N' + k)).Ok := nm_okA ho2 _
 have h := ht i k hi hk
 unfold tb at h
 rw [← val_conj] at h
 rw [val_ok o2 (conj_ok o1) h]
 show (nm xs (k * N' + i)).k ≤ _
 refine (expo_ok ho).2.2 _ (NmE.at_mem ?_)
 rw [hx]
 exact ix_lt hk hi
theorem cb_start {N : Nat} {z : Zt} {K : Int} (hN : N ≤ 4) (h1 : 1 ≤ N) (hK : K ≤ mostN N) (hz : ∀ i k, i < N → k < N → (z i k).k ≤ K) : Cb N 0 z := by
 rcases (by omega : N = 1 ∨ N = 2 ∨ N = 3 ∨ N = 4) with rfl | rfl | rfl | rfl
 ·exact .inl Ox
 ·exact .inl Ox
 ·exact .inr ⟨12, .inl ⟨rfl, by omega⟩, fun i k _ hi hk => by have := hz i k hi hk; have e : mostN 3 = 12 := rfl; omega⟩
 exact .inr ⟨4, .inr ⟨rfl, by omega⟩, fun i k _ hi hk => by have := hz i k hi hk; have e : mostN 4 = 4 := rfl; omega⟩
theorem prog_yes (N : Nat) (xs : List Nm) (a : Option Addr) (c : Nat) (hl : xs.length ≤ 1000000) (hv : Hid (validB (N : Int) xs = true)) (hN : ¬ (N : Int) > 4) (hk : ¬ expo xs > mostN N) (hu : Hid (unB (N : Int) xs = true)) (w : World) (hA : AS w a (nms xs)) : Calls Tryz.prog 26 #[.agg #[.int .i64 N, .slice a xs.length c]] w fun e w' => ∃ L, ProgL N xs L ∧ RetS w L 0 e w' := by
 have hex : Hid (expR (N : Int) xs = (expo xs, 0)) := Lib.hid (by unfold expR; rw [hv.out, if_pos rfl])
 obtain ⟨-, hN1, hN6', hxl⟩ : True ∧ 1 ≤ N ∧ N ≤ 6 ∧ xs.length = N * N := by
  obtain ⟨N', e, h1, h6, hx, -⟩ := validB_true hv.out
  obtain rfl : N' = N := by omega
  exact ⟨trivial, h1, h6, hx⟩
 obtain ⟨zs, hdg, hzv, hzt⟩ := dagM_ok (N := N) hv.out
 obtain ⟨-, hzl, hzo⟩ : True ∧ zs.length = N * N ∧ allOk zs = true := by
  obtain ⟨N', e, -, -, hx, -, ho⟩ := validB_true hzv
  obtain rfl : N' = N := by omega
  exact ⟨trivial, hx, ho⟩
 have hz36 : zs.length ≤ 36 := by rw [hzl]; exact Nat.mul_le_mul hN6' hN6'
 have hz1 : 1 ≤ zs.length := by rw [hzl]; exact Nat.mul_le_mul hN1 hN1
 replace hzl := Lib.hid hzl
 replace hxl := Lib.hid hxl
 replace hdg := Lib.hid hdg
 refine calls_marks Tryz.func26 rfl ?_
 simp only [Tryz.ntmps26, List.size_toArray, List.length_cons, List.length_nil, Nat.reduceAdd, Nat.reduceSub, Array.replicate_succ, Array.replicate_zero, List.push_toArray, List.append_toArray, List.nil_append, List.cons_append]
 refine wk_seq ?_
 refine Wr [1, 0, 0] ?_
 refine Rgn fun g1 => ?_
 refine Zx ?_
 refine Zr ?_
 refine Wr [0, 1, 0] ?_
 refine rf_loadR (n := 2) rfl rfl rfl UU28 rfl Kx (fun w hw => Kn.hd0 hw) rfl rfl (Nq ?_)
 apply rg_pure Rx Kx
 case hargs => exact Ax
 case h => exact fun w hw => by have := mvalid_any (N : Int) xs a c hl w (hA.kn0 hw); rw [hv.out] at this; exact this
 case hz => exact Nz
 refine Zx ?_
 refine Zr ?_
 refine Wr [0, 1, 0, 0, 0, 0, 0] ?_
 refine rf_loadR (n := 2) rfl rfl rfl UU28 rfl Kx (fun w hw => Kn.hd0 hw) rfl rfl (Nq ?_)
 apply rg_pure Rx Kx
 case hargs => exact Ax
 case h => exact fun w hw => by have := mExponent_any (N : Int) xs a c hl w (hA.kn0 hw); rw [hex.out] at this; exact this
 case hz => exact Nz
 refine Zx ?_
 refine Zr ?_
 refine Wr [0, 0, 0, 0, 0, 0, 0, 1, 0, 0] ?_
 refine Fd 0 0 UU28 ?_
 refine rf_load rfl rfl rfl UU3 rfl (fun w hw => (Kn.hd0 hw).at rfl) (Nq ?_)
 refine rfb_gtr rfl rfl rfl rfl ?_
 intro x h1
 obtain rfl : x = false := by (refine h1.symm.trans ?_; exact decide_eq_false Ox)
 clear h1
 refine Zx ?_
 apply rg_soft_g
 case hg => rfl
 case hy => (intro w hw; exact Gy)
 simp only [qz]
 refine Fd 0 0 UU28 ?_
 refine rf_load rfl rfl rfl UU3 rfl (fun w hw => (Kn.hd0 hw).at rfl) (Nq ?_)
 apply rg_pure Rx Kx
 case hargs => exact Ax
 case h => exact fun w hw => most_any N Ox w
 case hz => exact Nz
 simp only [qz]
 refine rfb_gtr rfl rfl rfl rfl ?_
 intro x h2
 obtain rfl : x = false := by (refine h2.symm.trans ?_; exact decide_eq_false Ox)
 clear h2
 refine Zx ?_
 refine Zr ?_
 refine Wr [0, 1, 0, 0, 0, 0, 0] ?_
 refine rf_loadR (n := 2) rfl rfl rfl UU28 rfl Kx (fun w hw => Kn.hd0 hw) rfl rfl (Nq ?_)
 apply rg_pure Rx Kx
 case hargs => exact Ax
 case h => exact fun w hw => sunitary_yes (N : Int) xs a c hl hv hu w (hA.kn0 hw)
 case hz => exact Nz
 refine Zx ?_
 refine Zr ?_
 refine Wx [0, 0] ?_
 refine rf_neq (b := false) rfl rfl rfl rfl (by decide) (Nq ?_)
 refine Zr ?_
 refine Wr [0, 1, 0, 0, 0, 1, 1, 0] ?_
 refine rf_loadR (n := 2) rfl rfl rfl UU28 rfl Kx (fun w hw => Kn.hd0 hw) rfl rfl (Nq ?_)
 apply (rg_retM (n := (N : Int)) (zs := zs) (c := 0)) Rx Kx
 case hargs => exact Ax
 case h => exact fun w hw => by have := mdagger_any (N : Int) xs a c hl w (hA.kn0 hw); rw [hdg.out, Int.toNat_natCast] at this; exact this
 case hz => exact Nz
 intro va2 vc2 u2 hO2
 refine Zx ?_
 refine Rgn fun g3 => ?_
 simp only [qz]
 refine rf_storeR (n := 2) rfl rfl Kx rfl rfl (UpdR.here _ _ _ Nl) Nz (Nw ?_)
 refine Zx ?_
 refine Zr ?_
 obtain ⟨bz, cz, rz, hu, hvo, hco1, hco2, hco3⟩ := hO2.openM Ox
 subst hu
 cases hvo
 simp only [List.cons_append, List.nil_append]
 refine Wr [0, 1, 1, 1] ?_
 refine rf_build (cs := fun a => #[.slice none 0 0, .slice none 0 0]) rfl rfl Kx (Nq ?_)
 refine Rgn fun g4 => ?_
 simp only [qz]
 refine Rgn fun g5 => ?_
 simp only [qz]
 refine rf_store rfl rfl Kx rfl rfl (UpdR.here _ _ _ Nl) Nz (Nq ?_)
 refine Zr ?_
 refine Wr [0, 0, 0, 0, 1] ?_
 refine Fd 0 1 UU28 ?_
 refine rf_load rfl rfl rfl UU26 rfl (fun w hw => (Kn.hd0 (Kn.tl (Kn.tl hw))).at rfl) (Nq ?_)
 refine Fd 0 0 UU28 ?_
 refine rf_load rfl rfl rfl UU3 rfl (fun w hw => (Kn.hd0 (Kn.tl (Kn.tl (Kn.tl (Kn.tl hw))))).at rfl) (Nq ?_)
 apply rg_made (T := fun v u => ∃ gs gn, v = .func (.func 109) #[] #[.pointer (some ⟨gs, 0, none⟩), .pointer (some ⟨gn, 0, none⟩)] ∧ u = [(gn, .cells #[.int .i64 N] 3), (gs, .cells #[.slice (some ⟨bz, 0, none⟩) zs.length vc2] 26)]) Rx Kx
 case hargs => exact Ax
 case h => exact fun w hw => (chunk_any N bz zs.length vc2 hN1 w).mono (fun e w' ⟨gs, gn, he, hm⟩ => ⟨_, _, he, ⟨gs, gn, rfl, rfl⟩, hm⟩)
 case hz => exact Nz
 rintro v1 u1 ⟨gs, gn, rfl, rfl⟩
 simp only [List.cons_append, List.nil_append]
 simp only [qz]
 refine rg_nil (ek_next (wk_block ?_))
 refine wk_rangeFunc (f := 109) (caps := #[.pointer (some ⟨gs, 0, none⟩), .pointer (some ⟨gn, 0, none⟩)]) rfl Kx ?_
 intro fn dd lp w1 K1
 obtain ⟨r, hr⟩ := exl_loop K1
 rw [← hr] at K1
 have K2 := K1.perm ((perm_at (l := [_, _, _]) (perm_at (l := [_, _, _]) (perm_at (l := [_, _, _, _]) (perm_at (l := [_, _]) (perm_at (l := [_]) (List.Perm.refl _)))))).cons _)
 have K3 := Kn.self (v := [_, _, _, _, _, _]) (rest := [_, _, _]) K2
 have hR : RoundsK N bz lp r (ChC N lp g5 g4 bz r zs rz) := by
  subst hr
  refine ⟨rfl, fun j s ⟨ra, rc, rs, uo, e, _⟩ => by subst e; simp, ?_⟩; intro R B F j i s rest w hj hi ⟨ra, rc, rs, uo, hs, hOw, hrl, hrv⟩ K
  subst hs
  simp only [List.cons_append, List.append_assoc, List.nil_append] at K
  have hij : i + N ≤ zs.length := by
   have := Nat.mul_le_mul_right N (show j + 1 ≤ N by omega)
   rw [Nat.add_mul, Nat.one_mul, ← hi, ← hzl.out] at this
   exact this
  replace hi := Lib.hid hi
  refine roundIn_kn (Rep.here _) rfl ?_ K; simp only [fold_zipK]; simp only [qz]; refine Wx [0] ?_; refine rg_nil ?_; refine ek_asg ?_; refine wk_block ?_; refine wk_drawsR _ _ [(0, 0), (1, 0), (2, 0), (3, 0), (4, 0), (5, 0), (6, 1), (7, 1), (8, 1), (9, 3), (10, 0), (11, 2)] [11] Kx Kx (fun c d v a w h => by cases d <;> exact h) ((sc _ (sc _ (sc _ (sc _ (Sa ((List.Sublist.refl _).trans (Sr _ _)) _)))))) (fun e => by first | exact absurd e (by decide) | rfl) Rx ?_ ((sc _ (sc _ (sk _ (sc _ (Sa (List.Sublist.refl _) _))))))
  simp only [List.map_cons, List.map_nil, List.getD_cons_zero, List.getD_cons_succ]; refine rf_load rfl rfl rfl Tryz.underlying115 rfl (fun w hw => (Kn.hd0 (Kn.tl hw)).at rfl) (Nq ?_); refine rf_load rfl rfl rfl Tryz.underlying115 rfl (fun w hw => (Kn.hd0 (Kn.tl hw)).at rfl) (Nq ?_); refine Zk ?_; refine Fd 0 0 UU118 ?_; refine rf_load rfl rfl rfl UU116 rfl (fun w hw => (Kn.hd0 (Kn.tl (Kn.tl hw))).at rfl) (Zx ?_)
  apply rg_made (T := fun v u => OwnN u v (chunkL zs i N)) Rx Kx
  case hargs => exact Ax
  case h => exact fun w hw => (clonek_any N bz (0 + i * 5) N (chunkL zs i N) (Lib.hid (chunkL_len zs i N)) Ox w (chunk_as (Kn.hd0 (Kn.tl (Kn.tl (Kn.tl hw)))) hij)).mono (fun e w' ⟨v, u, he, hO, hm⟩ => ⟨v, u, he, hO, hm⟩)
  case hz => exact (fun _ h => by cases h; exact (sc _ (sc _ (sc _ (sc _ (Sa ((List.Sublist.refl _).trans (Sr _ _)) _))))))
  intro v2 u2 hO2
  obtain ⟨gr, cr, rr, hu2, hv2, hr1, hr2, hr3⟩ := hO2.openM (by rw [chunkL_len]; omega)
  subst hu2
  rw [chunkL_len] at hv2
  subst hv2
  simp only [List.cons_append, List.nil_append]; simp only [qz]
  refine rg_newS (cs := ?_) (ty := ?_) (n := 1) (c := 1) Rx (fun w => ?_) (fun _ h => by cases h; exact (sk _ (sc _ (sc _ (sc _ (sc _ (Sa ((List.Sublist.refl _).trans (Sr _ _)) _))))))) (fun g6 => ?_); rotate_left 2
  focus (go_simp; rfl)
  simp only [qz]; refine rg_appRow (u := uo) (hs := rwV N rs) (n := j) (h := .slice (some ⟨gr, 0, none⟩) N cr) Rx rfl hOw rfl Ox rfl ((((((((((((((((List.Perm.refl _).append_left _).trans (List.perm_append_comm_assoc (rwB rs) uo _)).cons _).trans (List.perm_middle (l₁ := uo)).symm).cons _).trans (List.perm_middle (l₁ := uo)).symm).cons _).trans (List.perm_middle (l₁ := uo)).symm).cons _).trans (List.perm_middle (l₁ := uo)).symm).cons _).trans (List.perm_middle (l₁ := uo)).symm).cons _).trans (List.perm_middle (l₁ := uo)).symm).trans ((List.Perm.refl _).append_left _)) (fun w hw => Kn.hd0 hw) (fun _ h => by cases h; exact (sk _ (sk _ (sc _ (sc _ (sc _ (sc _ (Sa (List.Sublist.refl _) _)))))))) (fun uP aP cP hOP => ?_)
  simp only [qz]; apply rg_softP
  case hy => (intro w hw; exact Gy)
  simp only [qz]; refine Fd 0 0 UU118 ?_; refine rf_storeM rfl rfl Kx rfl rfl (UpdR.app _ (UpdR.there _ (UpdR.there _ (UpdR.there _ (UpdR.there _ (UpdR.here _ _ _ Nl)))))) ((sk _ (sk _ (sc _ (sc _ (sk _ (sc _ (Sa (List.Sublist.refl _) _))))))).trans (Sr _ _)) (Nq ?_); refine rg_nil ?_; refine ek_out ?_; refine ek_block ?_; refine ek_perm ((((((((List.Perm.refl _).cons _).trans (List.Perm.swap _ _ _)).cons _).trans (List.Perm.swap _ _ _)).append_left _).trans (List.perm_middle (l₁ := uP))).trans (((((((((List.Perm.refl _).cons _).trans (List.Perm.swap _ _ _)).cons _).trans (List.Perm.swap _ _ _)).append_left _).trans (List.perm_middle (l₁ := uP))).trans (((((((((List.Perm.refl _).cons _).trans (List.Perm.swap _ _ _)).cons _).trans (List.Perm.swap _ _ _)).append_left _).trans (List.perm_middle (l₁ := uP))).trans (((((((((List.Perm.refl _).cons _).trans (List.Perm.swap _ _ _)).cons _).trans (List.Perm.swap _ _ _)).append_left _).trans (List.perm_middle (l₁ := uP))).trans (((((((((List.Perm.refl _).cons _).trans (List.perm_middle (l₁ := (rwB rs))).symm).cons _).trans (List.perm_middle (l₁ := (rwB rs))).symm).append_left _).trans (List.perm_append_comm_assoc uP (rwB rs) _)).trans (((((((List.Perm.refl _).cons _).trans (List.Perm.swap _ _ _)).append_left _).trans (List.perm_middle (l₁ := uP))).trans ((List.Perm.refl _).cons _)).append_left _)).cons _)).cons _)).cons _)).cons _)) ?_
  refine ek_sub (sc _ (sc _ (sc _ (sc _ (Sa (sc _ (Sa (sk _ (List.Sublist.refl _)) _)) _))))) ?_; refine ek_roundEnd (Rep.here _) (fun w hw => ⟨_, rfl, ⟨aP, cP, rs ++ [⟨gr, cr, chunkL zs i N, rr⟩], uP, rfl, (by unfold rwV; rw [List.map_append]; exact hOP), by rw [List.length_append, hrl]; rfl, fun i' q hq => ?_⟩, Kn.to ?_ hw⟩)
  ·rcases rw_snoc_get hq with ⟨e1, e2⟩ | h
   ·subst e2 e1
    refine ⟨chunkL_len _ _ _, fun k hk => ?_⟩
    show nm (chunkL zs i N) k = _
    rw [chunkL_nm hk, hi.out, hrl]
   ·exact hrv i' q h
  ·simp only [rwB, RW.blk, List.map_append, List.map_cons, List.map_nil, List.append_assoc, List.cons_append, List.nil_append]
 have hpend : r.pending = none := by subst hr; rfl
 have hst : r.state ≠ .busy := by (subst hr; simp)
 clear hr
 have hC0 : ChC N lp g5 g4 bz r zs rz 0 [(lp, .loop r), (g5, .cells #[.pointer (some ⟨g4, 0, none⟩)] 115), (g4, .cells #[.slice none 0 0, .slice none 0 0] 118), (bz, .cells (NmE.flat zs ++ rz).toArray 44)] := ⟨none, 0, [], [], rfl, Own.nil _ _, rfl, fun i x h => by simp at h⟩
 refine (chunk1_any N zs.length bz vc2 lp gs gn hN1 hN6' hzl hz36 hco1 r _ hR _ _ hC0 w1 K3).mono ?_
 rintro e w2 ⟨rfl, s', ⟨ra, rc, rs, uo, rfl, hOw, hrl, hrv⟩, hK⟩
 have K4 := Kn.effApp (v := [_, _, _, _, _, _]) (rest := [_, _, _]) K2 hK
 simp only [List.cons_append, List.append_assoc, List.nil_append] at K4
 refine ⟨_, _, r, _, rfl, K4, Rep.here _, hst, ?_⟩
 rw [hpend]
 refine ek_block (ek_next (wk_seq (wk_seq ?_)))
 obtain ⟨go, oc, ro, hu, hv', hrl2⟩ := hOw.open1 Ox
 subst hu
 cases hv'
 obtain ⟨ao, co, heo, hoc⟩ := Own.val hOw
 cases heo
 simp only [List.cons_append, List.nil_append]
 have hW0 : WS N g4 (fun i k => nm zs (i * N + k)) [] ((g4, .cells #[.slice (some ⟨go, 0, none⟩) N rc, .slice none 0 0] 118) :: (go, .cells (rwV N rs ++ ro).toArray 26) :: (rwB rs ++ ([] ++ [])))   := ⟨go, rc, ro, rs, none, 0, [], rfl, hrl, hoc, fun x hx => (by obtain ⟨i, hi⟩ := List.getElem?_of_mem hx; exact (hrv i x hi).1), fun i x hx k hk => (hrv i x hx).2 k hk, OwnT.nil, fun i k hi hk => nm_okA hzo _⟩
 refine wk_perm (perm_at (l := [_, _]) ((((((((((List.Perm.refl _).append_left _).trans (List.perm_middle (l₁ := (rwB rs)))).cons _).trans (List.Perm.swap _ _ _)).cons _).trans (List.Perm.swap _ _ _)).cons _).trans (List.Perm.swap _ _ _)).trans ((perm_atU (l := [_, _, _]) (u := (rwB rs)) (perm_at (l := [_]) (perm_at (l := [_, _, _, _, _, _]) (perm_at (l := [_, _, _, _]) (List.Perm.refl _))))).cons _))) ?_
 refine wk_sub (sc _ (sc _ (Sa (sc _ (sc _ (sc _ (sk _ (sk _ (sk _ (sk _ (sk _ sn)))))))) _))) ?_
 have hpi0 : PI N 0 (fun i k => nm zs (i * N + k)) := ⟨fun i k hi hk => nm_okA hzo _, unC_congr (b := fun i k => Q4.conj (tb N xs k i)) (fun i k hi hk => hzt i k hi hk) (unC_dag ((unB_C hv.out).1 hu.out)), fun i c _ hc => absurd hc Ox⟩
 have hk40 := expo_ok (validB_true hv.out).choose_spec.2.2.2.2.2
 have hkz : ∀ i k, i < N → k < N → (nm zs (i * N + k)).k ≤ expo xs := fun i k hi hk => dag_k hv.out hzv hzt hi hk
 have hcb0 : Cb N 0 (fun i k => nm zs (i * N + k)) := cb_start Ox hN1 (show expo xs ≤ mostN N by omega) hkz
 have hact0 : EqT N (vt (fun i k => nm zs (i * N + k))) (actQ [] fun i k => Q4.conj (tb N xs k i)) := fun i k hi hk => hzt i k hi hk
 refine Wr [0, 0, 0] ?_
 refine Fd 0 0 UU28 ?_
 refine rf_load rfl rfl rfl UU3 rfl (fun w hw => (Kn.hd0 (Kn.tl (Kn.tlU (Kn.tl (Kn.tl hw))))).at rfl) (Zx ?_)
 refine Zr ?_
 refine wk_loopF [12, 65, 66, 67, 68, 69, 70, 71] (fun mz f s => ∃ (col : Nat) (z : Zt) (L : List It) (uV : List Blk), f 65 = .int .i64 col ∧ s = (uV ++ ((g5, .cells #[.pointer (some ⟨g4, 0, none⟩)] 115) :: ((g1, .cells #[.int .i64 N, .slice a xs.length c] 28) :: ((dd, .deferred (some [])) :: [])))) ∧ mz = N - col ∧ col ≤ N ∧ WS N g4 z L uV ∧ PI N col z ∧ Cb N col z ∧ EqT N (vt z) (actQ L fun i k => Q4.conj (tb N xs k i)) ∧ (∀ x ∈ L, fitB N x = true) ∧ L.length ≤ 700 * col) ((fun (col : Nat) (z : Zt) (L : List It) (uV : List Blk) => N - col) (0) ((fun i k => nm zs (i * N + k))) ([]) (((g4, .cells #[.slice (some ⟨go, 0, none⟩) N rc, .slice none 0 0] 118) :: (go, .cells (rwV N rs ++ ro).toArray 26) :: (rwB rs ++ ([] ++ []))))) ?_ Kx ?_
 ·exact ⟨0, (fun i k => nm zs (i * N + k)), [], ((g4, .cells #[.slice (some ⟨go, 0, none⟩) N rc, .slice none 0 0] 118) :: (go, .cells (rwV N rs ++ ro).toArray 26) :: (rwB rs ++ ([] ++ []))), rfl, (by simp only [List.cons_append, List.append_assoc, List.nil_append]), rfl, by omega, hW0, hpi0, hcb0, hact0, (fun x hx => by cases hx), (by simp)⟩
 rintro mz f1 s ⟨col, z, L, uV, hs1_65, rfl, hn, hd1, hd2, hd3, hd4, hd5, hd6, hd7⟩
 simp only [Act.putF, List.foldl_cons, List.foldl_nil, hs1_65, Act.put, Act.eval, qW, Nat.reduceAdd, Bool.not_true, Bool.not_false]
 clear hs1_65
 refine wk_seq ?_
 refine Wr [0] ?_
 refine rfb_lss rfl rfl rfl rfl ?_
 rintro (_ | _) h3 <;> try simp only [qd, ne_eq] at h3
 ·simp only [qz]
  refine rg_nil (ek_next (wk_seq (wk_cond_f rfl (wk_exit (ek_then_exit (ek_then_exit (ek_block_exit (ek_next (wk_seq ?_)))))))))
  obtain rfl : col = N := by omega
  obtain ⟨go3, oc3, ro3, rs3, ia3, ic3, u3, hse3, hrl3, hoc3, hlen3, hval3, hO3, hok3⟩ := hd2.open_
  refine wk_perm ((((List.Perm.refl _).append_left _).trans (List.perm_middle (l₁ := uV))).trans (((((List.Perm.refl _).append_left _).trans (List.perm_middle (l₁ := uV))).trans (((((List.Perm.refl _).append_left _).trans (List.perm_middle (l₁ := uV))).trans ((List.Perm.refl _).cons _)).cons _)).cons _)) ?_; rw [hse3]; refine Wr [0, 0, 0, 0, 0, 0] ?_; refine rf_load rfl rfl rfl Tryz.underlying115 rfl (fun w hw => (Kn.hd0 hw).at rfl) (Nq ?_)
  refine Zk ?_; refine Fd 0 1 UU118 ?_; refine rf_load rfl rfl rfl UU22 rfl (fun w hw => (Kn.hd0 (Kn.tl (Kn.tl (Kn.tl hw)))).at rfl) (Zx ?_); refine Zr ?_; refine ek_retM1 (Rep.there _ (Rep.there _ (Rep.here _))) (fun w hw => ⟨_, res_tt _ _ rfl, ?_⟩); (try simp only [qz])
  exact ⟨L, ⟨hd6, by omega, fun i k hi hk => (hd5 i k hi hk).symm.trans (hd3.idc i k hi hk hk)⟩, _, u3, (by first | rfl | trivial), hO3, hw.made (List.Sublist.cons _ (List.Sublist.cons _ (List.Sublist.cons _ (List.Sublist.cons _ (List.Sublist.cons _ ((List.sublist_append_left _ _).trans (Sr _ _)))))))⟩
 simp only [qz]
 refine Zr ?_
 refine Wx [0, 0] ?_
 refine rg_nil (ek_next ?_)
 obtain ⟨B, hB, hB13⟩ := hd4.bnd hd3
 have hmu := muZ_le hd3 (show col < N by omega)
 have hmu2 : muZ N col z ≤ 320 := Nat.le_trans hmu (by have := Nat.mul_le_mul_right 80 (show N ≤ 4 by omega); omega)
 refine Wr [0, 0, 1] ?_
 refine rf_load rfl rfl rfl Tryz.underlying115 rfl (fun w hw => (Kn.hd0 (Kn.tlU hw)).at rfl) (Zx ?_)
 refine rg_eff (T := fun uX => ∃ z2 L2, WS N g4 z2 L2 uX ∧ PI N (col + 1) z2 ∧ Cb N (col + 1) z2 ∧ EqT N (vt z2) (actQ L2 fun i k => Q4.conj (tb N xs k i)) ∧ (∀ x ∈ L2, fitB N x = true) ∧ L2.length ≤ 700 * col + 640 + 4) (vb := uV) (rest := _) Rx Kx (by simp only [qm, qs, Act.eval]; try rfl) (List.Perm.refl _) (fun w hw => wcolumn_any N col g4 (700 * col + 640) B _ z L uV hd2 Ox Ox (fun h => hB13 Ox) Ox Ox ⟨hd3, hB, hd5, hd6, by omega⟩ w hw) (fun uX hTuX => ?_)
 simp only [qz]
 obtain ⟨z2, L2, hW2, hp2, hc2, ha2, hf2, hl2⟩ := hTuX
 refine Zr ?_
 refine Wr [0, 0] ?_
 refine rf_add rfl rfl rfl rfl (wrap_ok Ox Ox) (Zx ?_)
 refine rg_nil ?_
 refine ek_roundF (N - (col + 1)) Ox Kx ?_
 exact ⟨col + 1, z2, L2, uX, rfl, by rfl, by rfl, by omega, hW2, hp2, hc2, ha2, hf2, Ox⟩
theorem prog_any (n : Int) (xs : List Nm) (a : Option Addr) (c : Nat) (hl : xs.length ≤ 1000000) (w : World) (hA : AS w a (nms xs)) : Calls Tryz.prog 26 #[.agg #[.int .i64 n, .slice a xs.length c]] w fun e w' =>
    ∃ L, ((askE n xs = 0 → ProgL n.toNat xs L) ∧ (askE n xs ≠ 0 → L = [])) ∧ RetS w L (askE n xs) e w' := by
  by_cases hv : validB n xs = true
  · obtain ⟨N, rfl, -⟩ := validB_true hv
    have e0 : askE N xs = if (N : Int) > 4 ∨ expo xs > mostN N then 4 else if unB N xs = true then 0 else 22 := by unfold askE; rw [if_pos hv, Int.toNat_natCast]
    rw [Int.toNat_natCast]
    by_cases h4 : (N : Int) > 4
    · rw [e0, if_pos (.inl h4)]
      exact (prog_big N xs a c hl (Lib.hid hv) h4 w hA).mono fun e w' h => ⟨[], ⟨(fun e => by cases e), fun _ => rfl⟩, h⟩
    · by_cases hk : expo xs > mostN N
      · rw [e0, if_pos (.inr hk)]
        exact (prog_limit N xs a c hl (Lib.hid hv) h4 hk w hA).mono fun e w' h => ⟨[], ⟨(fun e => by cases e), fun _ => rfl⟩, h⟩
      · rw [e0, if_neg (fun h => h.elim h4 hk)]
        by_cases hu : unB N xs = true
        · rw [if_pos hu]
          exact (prog_yes N xs a c hl (Lib.hid hv) h4 hk (Lib.hid hu) w hA).mono fun e w' ⟨L, hP, h⟩ => ⟨L, ⟨fun _ => hP, fun e => absurd rfl e⟩, h⟩
        · rw [if_neg hu]
          exact (prog_non N xs a c hl (Lib.hid hv) h4 hk (Lib.hid (by simpa using hu)) w hA).mono fun e w' h => ⟨[], ⟨(fun e => by cases e), fun _ => rfl⟩, h⟩
  · have e0 : askE n xs = 20 := by unfold askE; rw [if_neg hv]
    rw [e0]
    exact (prog_invalid n xs a c hl (Lib.hid (by simpa using hv)) w hA).mono fun e w' h => ⟨[], ⟨(fun e => by cases e), fun _ => rfl⟩, h⟩
section
variable {R : Option Nat} {ops : Array Oper} {Q : Exit → Act → World → Prop} {B : World} {F : List Nat} {s0 : Option (List Blk × List Blk)}
variable {l : List (Oper × Nat)} {a : Act} {s S : List Blk} {d : Option Tmp} {op : Op} {t : TypeId} {p : String} {af : Array Edge} {v : Value}
theorem rg_retP {T : List It → Prop} {f : Nat} {cargs : Array Operand} {at_ : Array TypeId} {args : Array Value} {cc : Int} {P : Program} {gd : Option (Nat × Bool)} (hg : Region.wanted ⟨d, .call ⟨.value (.func f), cargs, at_⟩, t, p, af, gd⟩ (yielded ops a.tmps) = true) (hgo : isGo P f = true)
    (h : ∀ w, Kn B F s w → Calls P f args w fun e w' => ∃ L, T L ∧ RetS w L cc e w') (hargs : cargs.map a.eval = args)
    (hz : ∀ z ∈ s0, z.1.Sublist s) (k : ∀ (L : List It) (va : Option Addr) (vc : Nat) (u : List Blk), T L → OwnT u (.slice va L.length vc) L → Rg R P ops Q B F s0 l (a.put d (.tuple #[.slice va L.length vc, .int .i64 cc])) (u ++ s)) :
    Rg R P ops Q B F s0 ((⟨d, .call ⟨.value (.func f), cargs, at_⟩, t, p, af, gd⟩, 1) :: l) a s :=
  rg_call hg hgo hargs fun w K => (h w K).mono fun e w' ⟨L, hT, v, u, he, hO, hm⟩ => by
    obtain ⟨a', c', rfl, -⟩ := Own.val hO
    exact ⟨_, u ++ s, he, K.add hm, fun z hz' => (hz z hz').trans (Sr _ _), k L a' c' u hT hO⟩
end
theorem mat_len {N : Nat} {m : List Nm} (hv : validB N m = true) : m.length ≤ 36 := by
 obtain ⟨N', e, h1, h6, hx, h36, -⟩ := validB_true hv
 exact h36
theorem lst_eq {N : Nat} {m : List Nm} (hv : validB N m = true) (hu : unB N m = true) : lstR N m = (expo m, 0) := by unfold lstR; rw [if_pos hv, if_pos hu]
theorem ask_cases {N : Nat} {m : List Nm} (hv : validB N m = true) (hu : unB N m = true) : askE N m = 0 ∨ askE N m = 4 := by
 unfold askE
 rw [if_pos hv, if_pos hu]
 split
 ·exact .inr rfl
 exact .inl rfl
theorem prog_eq {N : Nat} {x y : List Nm} {L : List It} (h1 : 1 ≤ N) (h6 : N ≤ 6) (hv : validB N x = true) (hu : unB N x = true) (hP : ProgL N x L) (hy : matS N L L.length = .ok y) : y = x := by
 obtain ⟨yv, -, ye, -⟩ := mat_facts h1 h6 hP.1 hy
 refine tb_ext yv hv fun i k hi hk => ?_
 rw [ye i k hi hk]
 exact prog_mat (l := []) hP.1 hv hu hP.2.2 i k hi hk
theorem topPrograms_any (n : Int) (xs : List It) (a : Option Addr) (c : Nat) (w : World) (hA : AS w a (its xs)) : Calls Tryz.prog 4 #[.int .i64 n, .slice a xs.length c] w fun e w' => e = .returned (.bool true) ∧ Below w.heap.size w w' := by
 go_enter Tryz.func4, Tryz.ntmps4
 refine wk_start ?_
 refine wk_seq ?_
 refine Wx [0] ?_
 refine Zr ?_
 refine Wx [0, 0, 0, 0, 0, 0, 0, 0, 0, 0, 0, 0, 0, 0, 1, 0, 0] ?_
 refine rfb_lss rfl rfl rfl rfl ?_
 rintro (_ | _) h1 <;> try simp only [qd, ne_eq] at h1
 ·refine Zx ?_
  apply rg_soft_g
  case hg => rfl
  case hy => (intro w hw; exact Gy)
  simp only [qz]; refine rfb_gtr rfl rfl rfl rfl ?_
  rintro (_ | _) h2 <;> try simp only [qd, ne_eq] at h2
  ·refine Zx ?_
   apply rg_soft_g
   case hg => rfl
   case hy => (intro w hw; exact Gy)
   simp only [qz]; refine rf_len rfl rfl rfl UU22 (Nq ?_); refine rfb_gtr rfl rfl rfl rfl ?_
   rintro (_ | _) h3 <;> try simp only [qd, ne_eq] at h3
   ·refine Zx ?_
    apply rg_soft_g
    case hg => rfl
    case hy => (intro w hw; exact Gy)
    simp only [qz]; apply rg_soft_g
    case hg => rfl
    case hy => (intro w hw; exact Gy)
    simp only [qz]; apply rg_pureb Rx Kx
    case hargs => exact Ax
    case h => exact fun w hw => rvalidItems_any xs a c n w (hA.kn0 hw)
    case hz => exact Nz
    rintro (_ | _) h4 <;> try simp only [qd, ne_eq] at h4
    ·refine Zx ?_
     refine Zr ?_; refine Wr [1, 0] ?_; apply rg_pure Rx Kx
     case hargs => exact Ax
     case h => exact fun w hw => sane_any w
     case hz => exact Nz
     refine Zx ?_; refine Zr ?_
     refine Er fun w hw => ?_
     (try simp only [qz])
     first | exact ⟨rfl, hw.below⟩ | exact ⟨trivial, hw.below⟩ | exact hw.below
    simp only [qz]
    obtain ⟨N, rfl, hN1, hN6, hlx, hf, hie⟩ := fits_of h4
    have hie' := Lib.hid hie
    clear hie; refine Zx ?_; refine Zr ?_; refine Wx [0, 0, 1, 0, 0, 0, 1, 1, 0] ?_
    rcases hm1 : matS N xs xs.length with c1 | m1
    ·have hc1 := matS_lim hN1 hN6 hf _ (Nat.le_refl _) hm1
     subst hc1
     apply (rg_retM (n := 0) (zs := []) (c := 4)) Rx Kx
     case hargs => exact Ax
     case h => exact fun w hw => by have := matrixOf_any (N : Int) xs a c w (hA.kn0 hw); rw [matO_S hN1 hN6 hlx hf, hm1, Int.toNat_natCast] at this; exact this
     case hz => exact Nz
     intro va1 vc1 u1 hO1; refine Zx ?_
     refine Rgn fun g2 => ?_
     simp only [qz]; refine rf_storeR (n := 2) rfl rfl Kx rfl rfl (UpdR.here _ _ _ Nl) Nz (Nw ?_); refine Zx ?_; refine Zr ?_; refine Wx [0, 0] ?_; refine rf_neq (b := true) rfl rfl rfl rfl (by decide) (Nq ?_); refine Zr ?_; refine Wx [0, 0, 0, 1, 0, 0] ?_; refine rf_eql (b := true) rfl rfl rfl rfl (by decide) (Zx ?_); apply rg_pure Rx Kx
     case hargs => exact Ax
     case h => exact fun w hw => sane_any w
     case hz => exact Nz
     refine Zx ?_; refine Zr ?_
     refine Er fun w hw => ?_
     (try simp only [qz])
     first | exact ⟨rfl, hw.below⟩ | exact ⟨trivial, hw.below⟩ | exact hw.below
    obtain ⟨hv1, hu1, he1, hx1⟩ := mat_facts hN1 hN6 hf hm1
    have hl1 := mat_len hv1
    apply (rg_retM (n := (N : Int)) (zs := m1) (c := 0)) Rx Kx
    case hargs => exact Ax
    case h => exact fun w hw => by have := matrixOf_any (N : Int) xs a c w (hA.kn0 hw); rw [matO_S hN1 hN6 hlx hf, hm1, Int.toNat_natCast] at this; exact this
    case hz => exact Nz
    intro va3 vc3 u3 hO3; refine Zx ?_
    refine Rgn fun g4 => ?_
    simp only [qz]; refine rf_storeR (n := 2) rfl rfl Kx rfl rfl (UpdR.here _ _ _ Nl) Nz (Nw ?_); refine Zx ?_; refine Zr ?_; refine Wx [0, 0] ?_; refine rf_neq (b := false) rfl rfl rfl rfl (by decide) (Nq ?_); refine Zr ?_; refine Wx [0, 0, 1, 0, 0, 0, 0, 0] ?_
    apply (rg_retP (T := fun L => (∀ x ∈ L, fitB N x = true) ∧ L.length ≤ xs.length ∧ ∀ m, actQ L m = actQ xs m) (cc := 0)) Rx Kx
    case hargs => exact Ax
    case h => exact fun w hw => tidy_any N xs a c hie' Ox (fun j hj => hf _ (it_mem hj)) Ox w (hA.kn0 hw)
    case hz => exact Nz
    intro D vaD vcD uD hPD hOD
    obtain ⟨hfD, hlD, haD⟩ := hPD
    simp only [qz]
    have hvD := Lib.hid (itemE_zero (itemE_fits hN1 hN6 Ox hfD) : validI N D = true)
    have heD : EqT N (tb N m1) (actQ D dl) := fun i k hi hk => by rw [haD]; exact he1 i k hi hk
    have hxD := expo_cpls hfD hv1 heD
    refine Zx ?_; refine Zr ?_; refine Wr [0, 1, 0, 0, 0, 0, 0] ?_; refine rf_loadR (n := 2) rfl rfl rfl UU28 rfl Kx (fun w hw => Kn.hd0 (Kn.tlU hw)) rfl rfl (Nq ?_); apply rg_pure Rx Kx
    case hargs => exact Ax
    case h => exact fun w hw => by have := sleast_any (N : Int) m1 va3 vc3 Ox w (OwnN.asM hO3 (Kn.tl (Kn.tlU hw))); rw [lst_eq hv1 hu1] at this; exact this
    case hz => exact Nz
    refine Zx ?_; refine Zr ?_; refine Wx [0, 0, 0, 0, 0, 0, 0, 0, 0, 1, 0, 0, 0, 0, 0, 0, 0, 0, 0, 0, 0, 1, 0, 0, 0] ?_; refine rf_neq (b := false) rfl rfl rfl rfl (by decide) (Zx ?_); apply rg_soft_g
    case hg => rfl
    case hy => (intro w hw; exact Gy)
    simp only [qz]; refine rf_neq (b := false) rfl rfl rfl rfl (by decide) (Zx ?_); apply rg_soft_g
    case hg => rfl
    case hy => (intro w hw; exact Gy)
    simp only [qz]; apply rg_soft_g
    case hg => rfl
    case hy => (intro w hw; exact Gy)
    simp only [qz]; apply rg_pure Rx Kx
    case hargs => exact Ax
    case h => exact fun w hw => by have := rvalidItems_any D vaD vcD N w (OwnT.asT hOD hw); rw [hvD.out] at this; exact this
    case hz => exact Nz
    refine Zx ?_; apply rg_soft_g
    case hg => rfl
    case hy => (intro w hw; exact Gy)
    simp only [qz]; refine rf_len rfl rfl rfl UU22 (Nq ?_); apply rg_soft_g
    case hg => rfl
    case hy => (intro w hw; exact Gy)
    simp only [qz]; refine rf_len rfl rfl rfl UU22 (Nq ?_); refine rfb_gtr rfl rfl rfl rfl ?_; intro x h5
    obtain rfl : x = false := by (refine h5.symm.trans ?_; exact decide_eq_false Ox)
    clear h5; refine Zx ?_; apply rg_soft_g
    case hg => rfl
    case hy => (intro w hw; exact Gy)
    simp only [qz]; apply rg_pure Rx Kx
    case hargs => exact Ax
    case h => exact fun w hw => rcouplers_any D vaD vcD Ox w (OwnT.asT hOD hw)
    case hz => exact Nz
    simp only [qz]; apply rg_soft_g
    case hg => rfl
    case hy => (intro w hw; exact Gy)
    simp only [qz]; refine rfb_lss rfl rfl rfl rfl ?_; intro x h6
    obtain rfl : x = false := by (refine h6.symm.trans ?_; exact decide_eq_false Ox)
    clear h6; refine Zx ?_; refine Zr ?_; refine Wx [0, 0, 1, 0, 0, 0, 1, 1, 0] ?_
    rcases hm2 : matS N D D.length with c2 | m2
    ·have hc2 := matS_lim hN1 hN6 hfD _ (Nat.le_refl _) hm2
     subst hc2
     apply (rg_retM (n := 0) (zs := []) (c := 4)) Rx Kx
     case hargs => exact Ax
     case h => exact fun w hw => by have := matrixOf_any (N : Int) D vaD vcD w (OwnT.asT hOD hw); rw [matO_S hN1 hN6 Ox hfD, hm2, Int.toNat_natCast] at this; exact this
     case hz => exact Nz
     intro va5 vc5 u5 hO5; refine Zx ?_
     refine Rgn fun g6 => ?_
     simp only [qz]; refine rf_storeR (n := 2) rfl rfl Kx rfl rfl (UpdR.here _ _ _ Nl) Nz (Nw ?_); refine Zx ?_; refine Zr ?_; refine Wx [0, 0, 0, 0, 0, 1, 0, 0, 0, 0, 0, 0, 0, 0, 0, 0] ?_; refine rf_eql (b := false) rfl rfl rfl rfl (by decide) (Zx ?_); refine rg_skip_h Rx Nz ?_; refine Zx ?_; apply rg_soft_g
     case hg => rfl
     case hy => (intro w hw; exact Gy)
     simp only [qz]; refine rf_neq (b := true) rfl rfl rfl rfl (by decide) (Nq ?_); apply rg_soft_g
     case hg => rfl
     case hy => (intro w hw; exact Gy)
     simp only [qz]; apply rg_soft_g
     case hg => rfl
     case hy => (intro w hw; exact Gy)
     simp only [qz]; refine rf_neq (b := false) rfl rfl rfl rfl (by decide) (Zx ?_); refine Zr ?_; refine Wx [0, 0, 1, 0, 0, 0, 0, 0, 0, 0] ?_
     apply (rg_retI (fv := fun v => .tuple #[v, .bool (isP N D), .int .i64 0]) (T := fun zs => zs = permZ N D)) Rx Kx
     case hargs => exact Ax
     case h => exact fun w hw => by have := permOfS D vaD vcD N w (OwnT.asT hOD (Kn.tlU (Kn.tl hw))); rw [itemE_fits hN1 hN6 Ox hfD] at this; exact this
     case hz => exact Nz
     intro v7 u7 z7 hO7 hT7; simp only [qz]
     subst hT7
     obtain ⟨ap, cp, rfl⟩ := hO7.val
     refine Zx ?_; refine Zr ?_; refine Wx [0, 0] ?_; refine rf_neq (b := false) rfl rfl rfl rfl (by decide) (Nq ?_); refine rg_nil (ek_next (wk_cond_f rfl (wk_skip (ek_next ?_)))); refine wk_cutF [4, 13, 14, 15, 16, 17, 18, 120, 121, 122, 123, 124, 125, 126, 127, 128, 129, 130, 131, 132, 133, 134, 135, 136, 137, 138, 139, 140, 141, 142, 143, 144, 145, 146, 147, 148, 149, 150, 151, 152, 153, 154, 155, 156, 157, 158, 159, 160, 161, 162, 163, 164] (fun f s => s = ((g4, .cells #[.int .i64 (N : Int), .slice va3 m1.length vc3] 28) :: (u3 ++ []))) ?_ ?_
     ·refine wk_seq ?_
      refine Wx [0] ?_; refine rg_nil (ek_next ?_); refine wk_cond (t := _) rfl (fun h7 => ?_) (fun h7 => ?_)
      ·obtain ⟨hpm, hpi, -⟩ := permZ_facts h7
       obtain ⟨hpl, -⟩ := perm_mv h7
       have hc0 := crE_yes hpm Ox
       have hP3 := Lib.hid h7
       clear h7; refine wk_seq ?_; refine Wx [0, 1, 0, 0, 0, 0, 0] ?_; apply rg_pure Rx Kx
       case hargs => exact Ax
       case h => exact fun w hw => inversions_yes (permZ N D) ap cp Ox hpm w (hO7.as (hw.perm (List.Perm.refl _)))
       case hz => exact Nz
       refine Zx ?_; refine Zr ?_; refine Wx [0, 1, 0, 0, 0, 0, 0] ?_
       apply (rg_retLi (T := CrL (permZ N D)) (cc := 0)) Rx Kx
       case hargs => exact Ax
       case h => exact fun w hw => by have := mcross_any (permZ N D) ap cp Ox w (hO7.as (hw.perm (List.Perm.refl _))); rw [hc0] at this; exact this
       case hz => exact Nz
       intro C vaC vcC uC0 hTC hOC
       obtain ⟨hmC, hlC⟩ := cr_mat hP3.out hv1 heD hTC hc0
       replace hmC := Lib.hid hmC
       have hlC1 := Nat.le_of_eq hlC
       have hlC2 := Nat.le_of_eq hlC.symm
       clear hlC; refine Zx ?_; refine Zr ?_; refine Wx [0, 0, 1, 0, 0, 0, 1, 1, 0] ?_
       apply (rg_retM (n := (N : Int)) (zs := m1) (c := 0)) Rx Kx
       case hargs => exact Ax
       case h => exact fun w hw => by have := matrixOf_any (N : Int) C vaC vcC w (OwnT.asT hOC hw); rw [hmC.out, Int.toNat_natCast] at this; exact this
       case hz => exact Nz
       intro va8 vc8 u8 hO8; refine Zx ?_
       refine Rgn fun g9 => ?_
       simp only [qz]; refine rf_storeR (n := 2) rfl rfl Kx rfl rfl (UpdR.here _ _ _ Nl) Nz (Nw ?_); refine Zx ?_; refine Zr ?_; refine Wx [0, 0, 0, 0, 0, 0, 0, 0, 0, 0, 0, 0, 0, 0, 0, 0, 0, 0, 0, 0, 0, 0, 0, 0, 0, 1, 0, 0] ?_; refine rf_neq (b := false) rfl rfl rfl rfl (by decide) (Zx ?_); apply rg_soft_g
       case hg => rfl
       case hy => (intro w hw; exact Gy)
       simp only [qz]; refine rf_neq (b := false) rfl rfl rfl rfl (by decide) (Zx ?_); apply rg_soft_g
       case hg => rfl
       case hy => (intro w hw; exact Gy)
       simp only [qz]; refine rf_neq (b := false) rfl rfl rfl rfl (by decide) (Zx ?_); apply rg_soft_g
       case hg => rfl
       case hy => (intro w hw; exact Gy)
       simp only [qz]; apply rg_soft_g
       case hg => rfl
       case hy => (intro w hw; exact Gy)
       simp only [qz]; refine rf_len rfl rfl rfl UU22 (Nq ?_); refine rfb_gtr rfl rfl rfl rfl ?_; intro x h8
       obtain rfl : x = false := by (refine h8.symm.trans ?_; exact decide_eq_false Ox)
       clear h8; refine Zx ?_; apply rg_soft_g
       case hg => rfl
       case hy => (intro w hw; exact Gy)
       simp only [qz]; apply rg_soft_g
       case hg => rfl
       case hy => (intro w hw; exact Gy)
       simp only [qz]; refine rf_len rfl rfl rfl UU22 (Nq ?_); refine rfb_neq rfl rfl rfl rfl ?_; intro x h9
       obtain rfl : x = false := by (refine h9.symm.trans ?_; exact decide_eq_false Ox)
       clear h9; refine Zx ?_; refine rf_loadR (n := 2) rfl rfl rfl UU28 rfl Kx (fun w hw => Kn.hd0 hw) rfl rfl (Nq ?_); refine rf_loadR (n := 2) rfl rfl rfl UU28 rfl Kx (fun w hw => Kn.hd0 (Kn.tlU (Kn.tlU (Kn.tl (Kn.tlU (Kn.tlU (Kn.tlU (Kn.tl hw)))))))) rfl rfl (Nq ?_); apply rg_pure Rx Kx
       case hargs => exact Ax
       case h => exact fun w hw => rSameM_eq (N : Int) _ _ _ _ _ Ox w (OwnN.asM hO8 (Kn.tl hw)) (OwnN.asM hO3 (Kn.tl (Kn.tlU (Kn.tlU (Kn.tl (Kn.tlU (Kn.tlU (Kn.tlU (Kn.tl hw)))))))))
       case hz => exact Nz
       refine Zx ?_; refine Zr ?_; refine ek_sub (sk _ ((((sk _ (((sc _ (Sa sn _)).trans (Sr _ _)).trans (Sr _ _))).trans (Sr _ _)).trans (Sr _ _)).trans (Sr _ _))) ?_; refine ek_midF Kx ?_
       exact Rx
      clear h7; refine wk_skip ?_; refine ek_sub ((sk _ (((sc _ (Sa sn _)).trans (Sr _ _)).trans (Sr _ _))).trans (Sr _ _)) ?_; refine ek_midF Kx ?_
      exact Rx
     rintro f1 s rfl
     simp only [Act.putF, List.foldl_cons, List.foldl_nil, Act.put, Act.eval, qW, Nat.reduceAdd, Bool.not_true, Bool.not_false]; refine wk_seq ?_; refine Wr [0, 1, 0, 0, 0, 0, 0] ?_; refine rf_loadR (n := 2) rfl rfl rfl UU28 rfl Kx (fun w hw => Kn.hd0 hw) rfl rfl (Nq ?_)
     have hask := ask_cases hv1 hu1
     rcases hask with hask | hask
     ·replace hask := Lib.hid hask
      apply (rg_retP (T := fun L => ProgL N m1 L) (cc := 0)) Rx Kx
      case hargs => exact Ax
      case h => exact fun w hw => by have := prog_any (N : Int) m1 va3 vc3 Ox w (OwnN.asM hO3 (Kn.tl hw)); rw [hask.out, Int.toNat_natCast] at this; exact this.mono fun e w' ⟨L, hP, hr⟩ => ⟨L, hP.1 rfl, hr⟩
      case hz => exact Nz
      intro L vaL vcL uL hP hOL; simp only [qz]
      have hLl := hP.2.1
      have hvL := Lib.hid (itemE_zero (itemE_fits hN1 hN6 hP.2.1 hP.1) : validI N L = true)
      have hxL := expo_cpls hP.1 hv1 (fun i k hi hk => (prog_mat (l := []) hP.1 hv1 hu1 hP.2.2 i k hi hk).symm)
      refine Zx ?_; refine Zr ?_; refine Wx [0, 0, 1, 0] ?_; refine rf_loadR (n := 2) rfl rfl rfl UU28 rfl Kx (fun w hw => Kn.hd0 (Kn.tlU hw)) rfl rfl (Nq ?_); apply rg_pure Rx Kx
      case hargs => exact Ax
      case h => exact fun w hw => by have := asked_any (N : Int) m1 va3 vc3 Ox w (OwnN.asM hO3 (Kn.tl (Kn.tlU hw))); rw [hask.out] at this; exact this
      case hz => exact Nz
      simp only [qz]; refine rf_neq (b := false) rfl rfl rfl rfl (by decide) (Nq ?_); refine Zr ?_; refine Wx [0, 0] ?_; refine rf_neq (b := false) rfl rfl rfl rfl (by decide) (Nq ?_); refine Zr ?_; refine Wx [0, 0, 1, 0, 0, 0, 1, 0, 0, 0] ?_; apply rg_pure Rx Kx
      case hargs => exact Ax
      case h => exact fun w hw => by have := rvalidItems_any L vaL vcL N w (OwnT.asT hOL hw); rw [hvL.out] at this; exact this
      case hz => exact Nz
      refine Zx ?_; apply rg_soft_g
      case hg => rfl
      case hy => (intro w hw; exact Gy)
      simp only [qz]; apply rg_pure Rx Kx
      case hargs => exact Ax
      case h => exact fun w hw => rcouplers_any L vaL vcL Ox w (OwnT.asT hOL hw)
      case hz => exact Nz
      simp only [qz]; apply rg_soft_g
      case hg => rfl
      case hy => (intro w hw; exact Gy)
      simp only [qz]; refine rfb_lss rfl rfl rfl rfl ?_; intro x h10
      obtain rfl : x = false := by (refine h10.symm.trans ?_; exact decide_eq_false Ox)
      clear h10; refine Zx ?_; refine Zr ?_; refine Wx [0, 0, 1, 0, 0, 0, 1, 1, 0] ?_
      rcases hm3 : matS N L L.length with c3 | m3
      ·have hc3 := matS_lim hN1 hN6 hP.1 _ (Nat.le_refl _) hm3
       subst hc3
       apply (rg_retM (n := 0) (zs := []) (c := 4)) Rx Kx
       case hargs => exact Ax
       case h => exact fun w hw => by have := matrixOf_any (N : Int) L vaL vcL w (OwnT.asT hOL hw); rw [matO_S hN1 hN6 hP.2.1 hP.1, hm3, Int.toNat_natCast] at this; exact this
       case hz => exact Nz
       intro va10 vc10 u10 hO10; refine Zx ?_
       refine Rgn fun g11 => ?_
       simp only [qz]; refine rf_storeR (n := 2) rfl rfl Kx rfl rfl (UpdR.here _ _ _ Nl) Nz (Nw ?_); refine Zx ?_; refine Zr ?_; refine Wx [0, 0] ?_; refine rf_neq (b := true) rfl rfl rfl rfl (by decide) (Nq ?_); refine Zr ?_; refine Wx [0, 0, 0, 1, 0, 0] ?_; refine rf_eql (b := true) rfl rfl rfl rfl (by decide) (Zx ?_); apply rg_pure Rx Kx
       case hargs => exact Ax
       case h => exact fun w hw => sane_any w
       case hz => exact Nz
       refine Zx ?_; refine Zr ?_
       refine Er fun w hw => ?_
       (try simp only [qz])
       first | exact ⟨rfl, hw.below⟩ | exact ⟨trivial, hw.below⟩ | exact hw.below
      obtain ⟨hv3, hu3, he3, hx3⟩ := mat_facts hN1 hN6 hP.1 hm3
      have hl3 := mat_len hv3
      apply (rg_retM (n := (N : Int)) (zs := m3) (c := 0)) Rx Kx
      case hargs => exact Ax
      case h => exact fun w hw => by have := matrixOf_any (N : Int) L vaL vcL w (OwnT.asT hOL hw); rw [matO_S hN1 hN6 hP.2.1 hP.1, hm3, Int.toNat_natCast] at this; exact this
      case hz => exact Nz
      intro va12 vc12 u12 hO12; refine Zx ?_
      refine Rgn fun g13 => ?_
      simp only [qz]; refine rf_storeR (n := 2) rfl rfl Kx rfl rfl (UpdR.here _ _ _ Nl) Nz (Nw ?_); refine Zx ?_; refine Zr ?_; refine Wx [0, 0] ?_; refine rf_neq (b := false) rfl rfl rfl rfl (by decide) (Nq ?_); refine Zr ?_; refine Wx [0, 0, 0, 1, 0, 0, 0, 0, 0] ?_
      have hyx := (prog_eq hN1 hN6 hv1 hu1 hP hm3).symm
      subst hyx
      have hmo1 := (matO_S hN1 hN6 hlx hf).trans hm1
      have hmo3 := (matO_S hN1 hN6 hP.2.1 hP.1).trans hm3
      apply rg_pure Rx Kx
      case hargs => exact Ax
      case h => exact fun w hw => by have := mequal_any (N : Int) xs L a vaL c vcL w (hA.kn0 hw) (OwnT.asT hOL (Kn.tlU (Kn.tl hw))); rw [eqR_5 hie'.out (itemE_fits hN1 hN6 hP.2.1 hP.1) hmo1 hmo3, decide_eq_true rfl] at this; exact this
      case hz => exact Nz
      refine Zx ?_; refine Zr ?_; refine Wr [0, 0, 1, 0, 0, 0, 0, 0, 0, 0, 0, 1, 0, 0] ?_; refine rf_loadR (n := 2) rfl rfl rfl UU28 rfl Kx (fun w hw => Kn.hd0 hw) rfl rfl (Nq ?_); refine rf_loadR (n := 2) rfl rfl rfl UU28 rfl Kx (fun w hw => Kn.hd0 (Kn.tlU (Kn.tlU (Kn.tl hw)))) rfl rfl (Nq ?_); apply rg_pure Rx Kx
      case hargs => exact Ax
      case h => exact fun w hw => rSameM_eq (N : Int) _ _ _ _ _ Ox w (OwnN.asM hO12 (Kn.tl hw)) (OwnN.asM hO3 (Kn.tl (Kn.tlU (Kn.tlU (Kn.tl hw)))))
      case hz => exact Nz
      refine Zx ?_; apply rg_soft_g
      case hg => rfl
      case hy => (intro w hw; exact Gy)
      simp only [qz]; refine rf_eql (b := true) rfl rfl rfl rfl (by decide) (Zx ?_); apply rg_soft_g
      case hg => rfl
      case hy => (intro w hw; exact Gy)
      refine Zx ?_; apply rg_pure Rx Kx
      case hargs => exact Ax
      case h => exact fun w hw => sane_any w
      case hz => exact Nz
      refine Zx ?_; refine Zr ?_
      refine Er fun w hw => ?_
      (try simp only [qz])
      first | exact ⟨rfl, hw.below⟩ | exact ⟨trivial, hw.below⟩ | exact hw.below
     replace hask := Lib.hid hask
     apply (rg_retP (T := fun L => L = []) (cc := 4)) Rx Kx
     case hargs => exact Ax
     case h => exact fun w hw => by have := prog_any (N : Int) m1 va3 vc3 Ox w (OwnN.asM hO3 (Kn.tl hw)); rw [hask.out, Int.toNat_natCast] at this; exact this.mono fun e w' ⟨L, hP, hr⟩ => ⟨L, hP.2 (by decide), hr⟩
     case hz => exact Nz
     intro L vaL vcL uL hP hOL; refine Zx ?_; refine Zr ?_; refine Wx [0, 0, 1, 0] ?_; refine rf_loadR (n := 2) rfl rfl rfl UU28 rfl Kx (fun w hw => Kn.hd0 (Kn.tlU hw)) rfl rfl (Nq ?_); apply rg_pure Rx Kx
     case hargs => exact Ax
     case h => exact fun w hw => by have := asked_any (N : Int) m1 va3 vc3 Ox w (OwnN.asM hO3 (Kn.tl (Kn.tlU hw))); rw [hask.out] at this; exact this
     case hz => exact Nz
     simp only [qz]; refine rf_neq (b := false) rfl rfl rfl rfl (by decide) (Nq ?_); refine Zr ?_; refine Wx [0, 0] ?_; refine rf_neq (b := true) rfl rfl rfl rfl (by decide) (Nq ?_); refine Zr ?_; refine Wr [1, 0] ?_; apply rg_pure Rx Kx
     case hargs => exact Ax
     case h => exact fun w hw => sane_any w
     case hz => exact Nz
     refine Zx ?_; refine Zr ?_
     refine Er fun w hw => ?_
     (try simp only [qz])
     first | exact ⟨rfl, hw.below⟩ | exact ⟨trivial, hw.below⟩ | exact hw.below
    obtain ⟨hv2, hu2, he2, hx2⟩ := mat_facts hN1 hN6 hfD hm2
    have hl2 := mat_len hv2
    apply (rg_retM (n := (N : Int)) (zs := m2) (c := 0)) Rx Kx
    case hargs => exact Ax
    case h => exact fun w hw => by have := matrixOf_any (N : Int) D vaD vcD w (OwnT.asT hOD hw); rw [matO_S hN1 hN6 Ox hfD, hm2, Int.toNat_natCast] at this; exact this
    case hz => exact Nz
    intro va14 vc14 u14 hO14; refine Zx ?_
    refine Rgn fun g15 => ?_
    simp only [qz]; refine rf_storeR (n := 2) rfl rfl Kx rfl rfl (UpdR.here _ _ _ Nl) Nz (Nw ?_); refine Zx ?_; refine Zr ?_; refine Wx [0, 0, 0, 0, 0, 1, 0, 0, 0, 0, 0, 0, 0, 0, 0, 0] ?_; refine rf_eql (b := true) rfl rfl rfl rfl (by decide) (Zx ?_); refine rf_loadR (n := 2) rfl rfl rfl UU28 rfl Kx (fun w hw => Kn.hd0 hw) rfl rfl (Nq ?_); refine rf_loadR (n := 2) rfl rfl rfl UU28 rfl Kx (fun w hw => Kn.hd0 (Kn.tlU (Kn.tlU (Kn.tl hw)))) rfl rfl (Nq ?_)
    have hyx : m1 = m2 := (tb_ext hv2 hv1 fun i k hi hk => by rw [he2 i k hi hk, heD i k hi hk]).symm
    subst hyx
    apply rg_pure Rx Kx
    case hargs => exact Ax
    case h => exact fun w hw => rSameM_eq (N : Int) _ _ _ _ _ Ox w (OwnN.asM hO14 (Kn.tl hw)) (OwnN.asM hO3 (Kn.tl (Kn.tlU (Kn.tlU (Kn.tl hw)))))
    case hz => exact Nz
    refine Zx ?_; apply rg_soft_g
    case hg => rfl
    case hy => (intro w hw; exact Gy)
    simp only [qz]; refine rf_neq (b := false) rfl rfl rfl rfl (by decide) (Nq ?_); apply rg_soft_g
    case hg => rfl
    case hy => (intro w hw; exact Gy)
    refine Zx ?_; refine Zr ?_; refine Wx [0, 0, 1, 0, 0, 0, 0, 0, 0, 0] ?_
    apply (rg_retI (fv := fun v => .tuple #[v, .bool (isP N D), .int .i64 0]) (T := fun zs => zs = permZ N D)) Rx Kx
    case hargs => exact Ax
    case h => exact fun w hw => by have := permOfS D vaD vcD N w (OwnT.asT hOD (Kn.tlU (Kn.tl hw))); rw [itemE_fits hN1 hN6 Ox hfD] at this; exact this
    case hz => exact Nz
    intro v16 u16 z16 hO16 hT16; simp only [qz]
    subst hT16
    obtain ⟨ap, cp, rfl⟩ := hO16.val
    refine Zx ?_; refine Zr ?_; refine Wx [0, 0] ?_; refine rf_neq (b := false) rfl rfl rfl rfl (by decide) (Nq ?_); refine rg_nil (ek_next (wk_cond_f rfl (wk_skip (ek_next ?_)))); refine wk_cutF [4, 13, 14, 15, 16, 17, 18, 120, 121, 122, 123, 124, 125, 126, 127, 128, 129, 130, 131, 132, 133, 134, 135, 136, 137, 138, 139, 140, 141, 142, 143, 144, 145, 146, 147, 148, 149, 150, 151, 152, 153, 154, 155, 156, 157, 158, 159, 160, 161, 162, 163, 164] (fun f s => s = ((g4, .cells #[.int .i64 (N : Int), .slice va3 m1.length vc3] 28) :: (u3 ++ []))) ?_ ?_
    ·refine wk_seq ?_
     refine Wx [0] ?_; refine rg_nil (ek_next ?_); refine wk_cond (t := _) rfl (fun h11 => ?_) (fun h11 => ?_)
     ·obtain ⟨hpm, hpi, -⟩ := permZ_facts h11
      obtain ⟨hpl, -⟩ := perm_mv h11
      have hc0 := crE_yes hpm Ox
      have hP3 := Lib.hid h11
      clear h11; refine wk_seq ?_; refine Wx [0, 1, 0, 0, 0, 0, 0] ?_; apply rg_pure Rx Kx
      case hargs => exact Ax
      case h => exact fun w hw => inversions_yes (permZ N D) ap cp Ox hpm w (hO16.as (hw.perm (List.Perm.refl _)))
      case hz => exact Nz
      refine Zx ?_; refine Zr ?_; refine Wx [0, 1, 0, 0, 0, 0, 0] ?_
      apply (rg_retLi (T := CrL (permZ N D)) (cc := 0)) Rx Kx
      case hargs => exact Ax
      case h => exact fun w hw => by have := mcross_any (permZ N D) ap cp Ox w (hO16.as (hw.perm (List.Perm.refl _))); rw [hc0] at this; exact this
      case hz => exact Nz
      intro C vaC vcC uC0 hTC hOC
      obtain ⟨hmC, hlC⟩ := cr_mat hP3.out hv1 heD hTC hc0
      replace hmC := Lib.hid hmC
      have hlC1 := Nat.le_of_eq hlC
      have hlC2 := Nat.le_of_eq hlC.symm
      clear hlC; refine Zx ?_; refine Zr ?_; refine Wx [0, 0, 1, 0, 0, 0, 1, 1, 0] ?_
      apply (rg_retM (n := (N : Int)) (zs := m1) (c := 0)) Rx Kx
      case hargs => exact Ax
      case h => exact fun w hw => by have := matrixOf_any (N : Int) C vaC vcC w (OwnT.asT hOC hw); rw [hmC.out, Int.toNat_natCast] at this; exact this
      case hz => exact Nz
      intro va17 vc17 u17 hO17; refine Zx ?_
      refine Rgn fun g18 => ?_
      simp only [qz]; refine rf_storeR (n := 2) rfl rfl Kx rfl rfl (UpdR.here _ _ _ Nl) Nz (Nw ?_); refine Zx ?_; refine Zr ?_; refine Wx [0, 0, 0, 0, 0, 0, 0, 0, 0, 0, 0, 0, 0, 0, 0, 0, 0, 0, 0, 0, 0, 0, 0, 0, 0, 1, 0, 0] ?_; refine rf_neq (b := false) rfl rfl rfl rfl (by decide) (Zx ?_); apply rg_soft_g
      case hg => rfl
      case hy => (intro w hw; exact Gy)
      simp only [qz]; refine rf_neq (b := false) rfl rfl rfl rfl (by decide) (Zx ?_); apply rg_soft_g
      case hg => rfl
      case hy => (intro w hw; exact Gy)
      simp only [qz]; refine rf_neq (b := false) rfl rfl rfl rfl (by decide) (Zx ?_); apply rg_soft_g
      case hg => rfl
      case hy => (intro w hw; exact Gy)
      simp only [qz]; apply rg_soft_g
      case hg => rfl
      case hy => (intro w hw; exact Gy)
      simp only [qz]; refine rf_len rfl rfl rfl UU22 (Nq ?_); refine rfb_gtr rfl rfl rfl rfl ?_; intro x h12
      obtain rfl : x = false := by (refine h12.symm.trans ?_; exact decide_eq_false Ox)
      clear h12; refine Zx ?_; apply rg_soft_g
      case hg => rfl
      case hy => (intro w hw; exact Gy)
      simp only [qz]; apply rg_soft_g
      case hg => rfl
      case hy => (intro w hw; exact Gy)
      simp only [qz]; refine rf_len rfl rfl rfl UU22 (Nq ?_); refine rfb_neq rfl rfl rfl rfl ?_; intro x h13
      obtain rfl : x = false := by (refine h13.symm.trans ?_; exact decide_eq_false Ox)
      clear h13; refine Zx ?_; refine rf_loadR (n := 2) rfl rfl rfl UU28 rfl Kx (fun w hw => Kn.hd0 hw) rfl rfl (Nq ?_); refine rf_loadR (n := 2) rfl rfl rfl UU28 rfl Kx (fun w hw => Kn.hd0 (Kn.tlU (Kn.tlU (Kn.tl (Kn.tlU (Kn.tlU (Kn.tlU (Kn.tl hw)))))))) rfl rfl (Nq ?_); apply rg_pure Rx Kx
      case hargs => exact Ax
      case h => exact fun w hw => rSameM_eq (N : Int) _ _ _ _ _ Ox w (OwnN.asM hO17 (Kn.tl hw)) (OwnN.asM hO3 (Kn.tl (Kn.tlU (Kn.tlU (Kn.tl (Kn.tlU (Kn.tlU (Kn.tlU (Kn.tl hw)))))))))
      case hz => exact Nz
      refine Zx ?_; refine Zr ?_; refine ek_sub (sk _ ((((sk _ (((sc _ (Sa sn _)).trans (Sr _ _)).trans (Sr _ _))).trans (Sr _ _)).trans (Sr _ _)).trans (Sr _ _))) ?_; refine ek_midF Kx ?_
      exact Rx
     clear h11; refine wk_skip ?_; refine ek_sub ((sk _ (((sc _ (Sa sn _)).trans (Sr _ _)).trans (Sr _ _))).trans (Sr _ _)) ?_; refine ek_midF Kx ?_
     exact Rx
    rintro f1 s rfl
    simp only [Act.putF, List.foldl_cons, List.foldl_nil, Act.put, Act.eval, qW, Nat.reduceAdd, Bool.not_true, Bool.not_false]; refine wk_seq ?_; refine Wr [0, 1, 0, 0, 0, 0, 0] ?_; refine rf_loadR (n := 2) rfl rfl rfl UU28 rfl Kx (fun w hw => Kn.hd0 hw) rfl rfl (Nq ?_)
    have hask := ask_cases hv1 hu1
    rcases hask with hask | hask
    ·replace hask := Lib.hid hask
     apply (rg_retP (T := fun L => ProgL N m1 L) (cc := 0)) Rx Kx
     case hargs => exact Ax
     case h => exact fun w hw => by have := prog_any (N : Int) m1 va3 vc3 Ox w (OwnN.asM hO3 (Kn.tl hw)); rw [hask.out, Int.toNat_natCast] at this; exact this.mono fun e w' ⟨L, hP, hr⟩ => ⟨L, hP.1 rfl, hr⟩
     case hz => exact Nz
     intro L vaL vcL uL hP hOL; simp only [qz]
     have hLl := hP.2.1
     have hvL := Lib.hid (itemE_zero (itemE_fits hN1 hN6 hP.2.1 hP.1) : validI N L = true)
     have hxL := expo_cpls hP.1 hv1 (fun i k hi hk => (prog_mat (l := []) hP.1 hv1 hu1 hP.2.2 i k hi hk).symm)
     refine Zx ?_; refine Zr ?_; refine Wx [0, 0, 1, 0] ?_; refine rf_loadR (n := 2) rfl rfl rfl UU28 rfl Kx (fun w hw => Kn.hd0 (Kn.tlU hw)) rfl rfl (Nq ?_); apply rg_pure Rx Kx
     case hargs => exact Ax
     case h => exact fun w hw => by have := asked_any (N : Int) m1 va3 vc3 Ox w (OwnN.asM hO3 (Kn.tl (Kn.tlU hw))); rw [hask.out] at this; exact this
     case hz => exact Nz
     simp only [qz]; refine rf_neq (b := false) rfl rfl rfl rfl (by decide) (Nq ?_); refine Zr ?_; refine Wx [0, 0] ?_; refine rf_neq (b := false) rfl rfl rfl rfl (by decide) (Nq ?_); refine Zr ?_; refine Wx [0, 0, 1, 0, 0, 0, 1, 0, 0, 0] ?_; apply rg_pure Rx Kx
     case hargs => exact Ax
     case h => exact fun w hw => by have := rvalidItems_any L vaL vcL N w (OwnT.asT hOL hw); rw [hvL.out] at this; exact this
     case hz => exact Nz
     refine Zx ?_; apply rg_soft_g
     case hg => rfl
     case hy => (intro w hw; exact Gy)
     simp only [qz]; apply rg_pure Rx Kx
     case hargs => exact Ax
     case h => exact fun w hw => rcouplers_any L vaL vcL Ox w (OwnT.asT hOL hw)
     case hz => exact Nz
     simp only [qz]; apply rg_soft_g
     case hg => rfl
     case hy => (intro w hw; exact Gy)
     simp only [qz]; refine rfb_lss rfl rfl rfl rfl ?_; intro x h14
     obtain rfl : x = false := by (refine h14.symm.trans ?_; exact decide_eq_false Ox)
     clear h14; refine Zx ?_; refine Zr ?_; refine Wx [0, 0, 1, 0, 0, 0, 1, 1, 0] ?_
     rcases hm3 : matS N L L.length with c3 | m3
     ·have hc3 := matS_lim hN1 hN6 hP.1 _ (Nat.le_refl _) hm3
      subst hc3
      apply (rg_retM (n := 0) (zs := []) (c := 4)) Rx Kx
      case hargs => exact Ax
      case h => exact fun w hw => by have := matrixOf_any (N : Int) L vaL vcL w (OwnT.asT hOL hw); rw [matO_S hN1 hN6 hP.2.1 hP.1, hm3, Int.toNat_natCast] at this; exact this
      case hz => exact Nz
      intro va19 vc19 u19 hO19; refine Zx ?_
      refine Rgn fun g20 => ?_
      simp only [qz]; refine rf_storeR (n := 2) rfl rfl Kx rfl rfl (UpdR.here _ _ _ Nl) Nz (Nw ?_); refine Zx ?_; refine Zr ?_; refine Wx [0, 0] ?_; refine rf_neq (b := true) rfl rfl rfl rfl (by decide) (Nq ?_); refine Zr ?_; refine Wx [0, 0, 0, 1, 0, 0] ?_; refine rf_eql (b := true) rfl rfl rfl rfl (by decide) (Zx ?_); apply rg_pure Rx Kx
      case hargs => exact Ax
      case h => exact fun w hw => sane_any w
      case hz => exact Nz
      refine Zx ?_; refine Zr ?_
      refine Er fun w hw => ?_
      (try simp only [qz])
      first | exact ⟨rfl, hw.below⟩ | exact ⟨trivial, hw.below⟩ | exact hw.below
     obtain ⟨hv3, hu3, he3, hx3⟩ := mat_facts hN1 hN6 hP.1 hm3
     have hl3 := mat_len hv3
     apply (rg_retM (n := (N : Int)) (zs := m3) (c := 0)) Rx Kx
     case hargs => exact Ax
     case h => exact fun w hw => by have := matrixOf_any (N : Int) L vaL vcL w (OwnT.asT hOL hw); rw [matO_S hN1 hN6 hP.2.1 hP.1, hm3, Int.toNat_natCast] at this; exact this
     case hz => exact Nz
     intro va21 vc21 u21 hO21; refine Zx ?_
     refine Rgn fun g22 => ?_
     simp only [qz]; refine rf_storeR (n := 2) rfl rfl Kx rfl rfl (UpdR.here _ _ _ Nl) Nz (Nw ?_); refine Zx ?_; refine Zr ?_; refine Wx [0, 0] ?_; refine rf_neq (b := false) rfl rfl rfl rfl (by decide) (Nq ?_); refine Zr ?_; refine Wx [0, 0, 0, 1, 0, 0, 0, 0, 0] ?_
     have hyx := (prog_eq hN1 hN6 hv1 hu1 hP hm3).symm
     subst hyx
     have hmo1 := (matO_S hN1 hN6 hlx hf).trans hm1
     have hmo3 := (matO_S hN1 hN6 hP.2.1 hP.1).trans hm3
     apply rg_pure Rx Kx
     case hargs => exact Ax
     case h => exact fun w hw => by have := mequal_any (N : Int) xs L a vaL c vcL w (hA.kn0 hw) (OwnT.asT hOL (Kn.tlU (Kn.tl hw))); rw [eqR_5 hie'.out (itemE_fits hN1 hN6 hP.2.1 hP.1) hmo1 hmo3, decide_eq_true rfl] at this; exact this
     case hz => exact Nz
     refine Zx ?_; refine Zr ?_; refine Wr [0, 0, 1, 0, 0, 0, 0, 0, 0, 0, 0, 1, 0, 0] ?_; refine rf_loadR (n := 2) rfl rfl rfl UU28 rfl Kx (fun w hw => Kn.hd0 hw) rfl rfl (Nq ?_); refine rf_loadR (n := 2) rfl rfl rfl UU28 rfl Kx (fun w hw => Kn.hd0 (Kn.tlU (Kn.tlU (Kn.tl hw)))) rfl rfl (Nq ?_); apply rg_pure Rx Kx
     case hargs => exact Ax
     case h => exact fun w hw => rSameM_eq (N : Int) _ _ _ _ _ Ox w (OwnN.asM hO21 (Kn.tl hw)) (OwnN.asM hO3 (Kn.tl (Kn.tlU (Kn.tlU (Kn.tl hw)))))
     case hz => exact Nz
     refine Zx ?_; apply rg_soft_g
     case hg => rfl
     case hy => (intro w hw; exact Gy)
     simp only [qz]; refine rf_eql (b := true) rfl rfl rfl rfl (by decide) (Zx ?_); apply rg_soft_g
     case hg => rfl
     case hy => (intro w hw; exact Gy)
     refine Zx ?_; apply rg_pure Rx Kx
     case hargs => exact Ax
     case h => exact fun w hw => sane_any w
     case hz => exact Nz
     refine Zx ?_; refine Zr ?_
     refine Er fun w hw => ?_
     (try simp only [qz])
     first | exact ⟨rfl, hw.below⟩ | exact ⟨trivial, hw.below⟩ | exact hw.below
    replace hask := Lib.hid hask
    apply (rg_retP (T := fun L => L = []) (cc := 4)) Rx Kx
    case hargs => exact Ax
    case h => exact fun w hw => by have := prog_any (N : Int) m1 va3 vc3 Ox w (OwnN.asM hO3 (Kn.tl hw)); rw [hask.out, Int.toNat_natCast] at this; exact this.mono fun e w' ⟨L, hP, hr⟩ => ⟨L, hP.2 (by decide), hr⟩
    case hz => exact Nz
    intro L vaL vcL uL hP hOL; refine Zx ?_; refine Zr ?_; refine Wx [0, 0, 1, 0] ?_; refine rf_loadR (n := 2) rfl rfl rfl UU28 rfl Kx (fun w hw => Kn.hd0 (Kn.tlU hw)) rfl rfl (Nq ?_); apply rg_pure Rx Kx
    case hargs => exact Ax
    case h => exact fun w hw => by have := asked_any (N : Int) m1 va3 vc3 Ox w (OwnN.asM hO3 (Kn.tl (Kn.tlU hw))); rw [hask.out] at this; exact this
    case hz => exact Nz
    simp only [qz]; refine rf_neq (b := false) rfl rfl rfl rfl (by decide) (Nq ?_); refine Zr ?_; refine Wx [0, 0] ?_; refine rf_neq (b := true) rfl rfl rfl rfl (by decide) (Nq ?_); refine Zr ?_; refine Wr [1, 0] ?_; apply rg_pure Rx Kx
    case hargs => exact Ax
    case h => exact fun w hw => sane_any w
    case hz => exact Nz
    refine Zx ?_; refine Zr ?_
    refine Er fun w hw => ?_
    (try simp only [qz])
    first | exact ⟨rfl, hw.below⟩ | exact ⟨trivial, hw.below⟩ | exact hw.below
   refine Zx ?_; refine rg_skip_h Rx Nz ?_; refine Zx ?_; refine Zr ?_; refine Wr [1, 0] ?_; apply rg_pure Rx Kx
   case hargs => exact Ax
   case h => exact fun w hw => sane_any w
   case hz => exact Nz
   refine Zx ?_; refine Zr ?_
   refine Er fun w hw => ?_
   (try simp only [qz])
   first | exact ⟨rfl, hw.below⟩ | exact ⟨trivial, hw.below⟩ | exact hw.below
  refine Zx ?_; refine rg_skip_h Rx Nz ?_; refine Zx ?_; refine Zr ?_; refine Wr [1, 0] ?_; apply rg_pure Rx Kx
  case hargs => exact Ax
  case h => exact fun w hw => sane_any w
  case hz => exact Nz
  refine Zx ?_; refine Zr ?_
  refine Er fun w hw => ?_
  (try simp only [qz])
  first | exact ⟨rfl, hw.below⟩ | exact ⟨trivial, hw.below⟩ | exact hw.below
 refine Zx ?_
 refine rg_skip_h Rx Nz ?_
 refine Zx ?_
 refine Zr ?_
 refine Wr [1, 0] ?_
 apply rg_pure Rx Kx
 case hargs => exact Ax
 case h => exact fun w hw => sane_any w
 case hz => exact Nz
 refine Zx ?_
 refine Zr ?_
 refine Er fun w hw => ?_
 (try simp only [qz])
 first | exact ⟨rfl, hw.below⟩ | exact ⟨trivial, hw.below⟩ | exact hw.below
end Go.Proofs.YthjjkajjpejcdaaGreat
