/- Texts in one: PgB, Ort, Dc0, PgK, Pg7, Pt1, Pt2, FrmT, Mul64, Ws1, Sm, Ws2, Ws3. -/
import Derived.Test.YthjjkajjpejcdaaGreatLPhF
import Derived.Deep.Slices
import Derived.Lib.SmallJoins
import Derived.Lib.Mul64
import Derived.Laws.Bits64b
import Derived.Lib.Strings
import Derived.Lib.Slices
import Derived.Lib.Small
import Derived.Lib.Walk
import Derived.Lib.BitFns
import Derived.Lib.ItoaNum
import Derived.Deep.Light
namespace Go.Proofs.YthjjkajjpejcdaaGreat
set_option linter.all false
set_option maxRecDepth 100000
set_option maxHeartbeats 1000000
open Go.RowKit
structure RW where
  b : Nat
  c : Nat
  l : List Nm
  r : List Value
def RW.blk (x : RW) : Blk := (x.b, .cells (NmE.flat x.l ++ x.r).toArray 44)
def RW.val (N : Nat) (x : RW) : Value := .slice (some ⟨x.b, 0, none⟩) N x.c
abbrev rwB (rs : List RW) : List Blk := rs.map RW.blk
theorem Kn.to {B w : World} {F : List Nat} {s s' : List Blk} (e : s = s') (h : Kn B F s w) : Kn B F s' w := e ▸ h
theorem Kn.same {w w' : World} {s : List Blk} (h : Kn w (s.map (·.1)) s w) (h' : Kn w (s.map (·.1)) s w') : Below w.heap.size w w' :=
  ⟨h'.os, h'.tape, h'.output, h'.size, fun k hk => by
    by_cases hF : k ∈ s.map (·.1)
    · obtain ⟨b, hb, rfl⟩ := List.mem_map.1 hF
      exact (h'.own b hb).trans (h.own b hb).symm
    · exact h'.old k hk hF⟩
section
variable {B w w' : World} {F : List Nat} {s : List Blk} {N : Nat}
theorem nm_hd {b : Nat} {l : List Nm} {r : List Value} {k : Nat} (h : Hd w b 44 (NmE.flat l ++ r).toArray) (hk : k < l.length) : NmAt w b (0 + k * 5) (nm l k) := by
 have hc := fun j => h.cell (0 + k * 5 + j)
 have hg := fun j (hj : j < 5) => NmE.get l k j hk hj
 have hl := NmE.flat_len l
 have hlt : ∀ j, j < 5 → 0 + k * 5 + j < (NmE.flat l).length := fun j hj => by rw [hl]; show 0 + k * 5 + j < l.length * 5; omega
 have go : ∀ j v, j < 5 → (nmC (nm l k))[j]? = some v → w.cell? ⟨b, 0 + k * 5 + j, none⟩ = some v := fun j v hj hv => by
  rw [hc j, List.getElem?_toArray, List.getElem?_append_left (hlt j hj), ← hv, ← hg j hj, Nat.zero_add]
 exact ⟨go 0 _ Ox rfl, go 1 _ Ox rfl, go 2 _ Ox rfl, go 3 _ Ox rfl, go 4 _ Ox rfl⟩
theorem Kn.row {rs : List RW} {i k : Nat} {x : RW} (K : Kn B F (rwB rs ++ s) w) (h : rs[i]? = some x) (hk : k < x.l.length) : NmAt w x.b (0 + k * 5) (nm x.l k) := by
 have hm : x.blk ∈ rwB rs ++ s := List.mem_append_left _ (List.mem_map.2 ⟨x, List.mem_of_getElem? h, rfl⟩)
 exact nm_hd (K.own _ hm) hk
end
section
variable {R : Option Nat} {ops : Array Oper} {Q : Exit → Act → World → Prop} {B : World} {F : List Nat} {s0 : Option (List Blk × List Blk)}
variable {l : List (Oper × Nat)} {a : Act} {s S : List Blk} {d : Option Tmp} {op : Op} {t : TypeId} {p : String} {af : Array Edge} {v : Value}
end
section
variable {P : Program} {ops : Array Oper} {Q : Exit → Act → World → Prop} {md : Region.Mode}
def Cl (md : Region.Mode) (ops : Array Oper) (listed : Array Bool) : Prop := ∀ k ok, ops[k]? = some ok → listed.getD k false = true → ∀ e ∈ ok.after, Region.binds md e = true → listed.getD e.on false = true
theorem Cl.step {listed : Array Bool} {j : Nat} (h : Cl md ops listed) (hj : j ∈ Region.ready md ops listed) : Cl md ops (listed.setIfInBounds j true) := fun k ok hk hl e he hb => by
  by_cases e1 : j = k
  · subst e1
    obtain ⟨-, o, ho, hall⟩ := mem_ready.1 hj
    rw [hk] at ho
    cases ho
    exact getD_set_true (hall e he hb)
  · rw [getD_set_ne false e1] at hl
    exact getD_set_true (h k ok hk hl e he hb)
end
section
variable {R : Option Nat} {P : Program} {ops : Array Oper} {Q : Exit → Act → World → Prop} {B : World} {F : List Nat} {s0 : Option (List Blk × List Blk)}
end
theorem nm_fl (xs : List Nm) (k : Nat) (y : Nm) (hk : k < xs.length) : setMany (NmE.flat xs ++ []).toArray (0 + k * 5) (nmC y) = (NmE.flat (xs.set k y) ++ []).toArray := fl_set (E := NmE) (rest := []) hk
theorem nm_sz (xs : List Nm) (k : Nat) (y : Nm) (hk : k < xs.length) : 0 + k * 5 + (nmC y).length ≤ (NmE.flat xs ++ []).toArray.size := fl_size (E := NmE) (rest := []) (y := y) hk
theorem fill_set (l : List Nm) (m k : Nat) (z : Nm) (h : l.length = k) : (l ++ List.replicate (m + 1) Nm.zero).set k z = (l ++ [z]) ++ List.replicate m Nm.zero := by
 subst h
 rw [List.set_append_right _ _ (Nat.le_refl _), Nat.sub_self, List.replicate_succ, List.set_cons_zero, List.append_assoc]
 rfl
theorem ownN_fl {g n : Nat} {l : List Nm} (h : l.length = n) (hn : n ≤ 100000) : OwnN [(g, .cells (NmE.flat l ++ []).toArray 44)] (.slice (some ⟨g, 0, none⟩) n n) l := by
 subst h
 have e : (NmE.flat l ++ []).toArray.toList = NmE.flat l := by simp
 have := Own.whole (e := 44) (size := 5) (g := g) (n := l.length) (cur := (NmE.flat l ++ []).toArray) (by simp [El.flat_len]) (by simp only [maxLen]; omega)
 rwa [e] at this
theorem madeN (n : Nat) : madeCells #[.int .i64 0, .int .i64 0, .int .i64 0, .int .i64 0, .int .i64 0] (n * 5) = (NmE.flat (List.replicate n Nm.zero) ++ []).toArray := by
 rw [List.append_nil, ← made_fl (E := NmE) Nm.zero n]
 rfl
section
variable {R : Option Nat} {ops : Array Oper} {Q : Exit → Act → World → Prop} {B : World} {F : List Nat} {s0 : Option (List Blk × List Blk)} {P : Program}
variable {l : List (Oper × Nat)} {a : Act} {s : List Blk} {d : Option Tmp} {t : TypeId} {p : String} {af : Array Edge} {gd : Option (Nat × Bool)} {m : Nat}
end
section
variable {R : Option Nat} {ops : Array Oper} {Q : Exit → Act → World → Prop} {B : World} {F : List Nat} {s0 : Option (List Blk × List Blk)}
variable {l : List (Oper × Nat)} {a : Act} {s S : List Blk} {d : Option Tmp} {op : Op} {t : TypeId} {p : String} {af : Array Edge} {v : Value}
theorem rg_appNums {so xo : Operand} {u : List Blk} {xs ys : List Nm} {m c r : Nat} {ad : Addr} {gd : Option (Nat × Bool)} (hg : Region.wanted ⟨d, .call ⟨.builtin .append, #[so, xo], #[26, 26]⟩, t, p, af, gd⟩ (yielded ops a.tmps) = true)
    (hs : a.eval so = v) (hown : OwnN u v xs) (hx : a.eval xo = .slice (some ad) m c) (hm : ys.length = m) (hr : xs.length + ys.length = r) (hb : r ≤ 10000000) (hp : S.Perm (u ++ s))
    (hA : ∀ w, Kn B F S w → AS w (some ad) (nms ys))
    (hzz : ∀ z ∈ s0, z.1.Sublist s) (h : ∀ u' a' c', OwnN u' (.slice a' r c') (xs ++ ys) → Rg R Tryz.prog ops Q B F s0 l (a.put d (.slice a' r c')) (u' ++ s)) :
    Rg R Tryz.prog ops Q B F s0 ((⟨d, .call ⟨.builtin .append, #[so, xo], #[26, 26]⟩, t, p, af, gd⟩, 1) :: l) a S := by
  obtain ⟨i, hi, hz, hsz, hby⟩ := info_partsN numInfo
  subst hm hr
  refine rg_appendG (E := NmE) (u := u) (s := s) (i := i) (xs := xs) (ys := ys) (ad := ad) hg UU26 hi hz hsz rfl Ox hs hown hx rfl Ox hp (fun w K j y hj => ?_) hzz fun u' v' hO => ?_
  · have hne : nms ys ≠ [] := fun e => by (have e' : NmE.flat ys = [] := e; rw [e'] at hj; simp at hj)
    obtain ⟨b, off, e, _, hc⟩ := hA w K hne
    cases e
    have hj' : j < (nms ys).length := by
      rcases Nat.lt_or_ge j (nms ys).length with h | h
      · exact h
      · rw [List.getElem?_eq_none h] at hj; cases hj
    have e1 : (⟨b, off, none⟩ : Addr).add j = ⟨b, off + j, none⟩ := Addr.add_mid ..
    rw [e1, hc j hj', hj]
  · obtain ⟨a', c', rfl, -⟩ := Own.val hO
    have e : (xs ++ ys).length = xs.length + ys.length := by simp
    rw [e] at hO ⊢
    exact h u' a' c' hO
end
section
variable {R : Option Nat} {ops : Array Oper} {Q : Exit → Act → World → Prop} {B : World} {F : List Nat}
end
def RetNm (w : World) (xs : List Nm) (e : Ending) (w' : World) : Prop := ∃ v u, e = .returned v ∧ OwnN u v xs ∧ Made w u w'
theorem OwnN.emptyK {g : Nat} : OwnN [(g, .cells #[] 44)] (.slice (some ⟨g, 0, none⟩) 0 0) [] := ⟨rfl, .inr ⟨g, 0, #[], rfl, rfl, Nat.le_refl _, by simp only [maxLen]; omega, rfl, rfl⟩⟩
theorem clonek_any (N b off c : Nat) (xs : List Nm) (hl : Hid (xs.length = N)) (hN : N ≤ 1000) (w : World) (hA : AS w (some ⟨b, off, none⟩) (nms xs)) : Calls Tryz.prog 55 #[.slice (some ⟨b, off, none⟩) N c] w fun e w' => RetNm w xs e w' := by
 go_enter Tryz.func55, Tryz.ntmps55
 refine wk_start ?_
 refine wk_seq ?_
 refine Wm [0] ?_
 refine Zr ?_
 refine Wm [0, 0] ?_
 apply rg_softb
 case hy => (intro w hw; exact Gy)
 intro x h1
 obtain rfl : x = false := by (refine h1.symm.trans ?_; first | rfl | exact decide_eq_false Ox | exact beq_eq_false_iff_ne.2 Ox | exact bne_eq_false_iff_eq.2 Ox | (simp; omega) | (simp; done))
 clear h1
 simp only [qz]
 refine Zr ?_
 refine Wr [1, 0, 1, 0] ?_
 refine rg_newS (cs := ?_) (ty := ?_) (n := 0) (c := 0) Rx (fun w => ?_) Nz (fun g1 => ?_); rotate_left 2
 focus (go_simp; rfl)
 refine Zm ?_
 refine rg_appNums (u := [(g1, .cells #[] 44)]) (s := []) (xs := []) (ys := xs) (r := N) Rx rfl OwnN.emptyK rfl hl.out (by simp only [List.length_nil, hl.out]; omega) Ox (List.Perm.refl _) (fun w hw => hA.kn0 hw) Nz (fun u1 a1 c1 hO1 => ?_)
 refine Zm ?_
 refine Zr ?_
 refine Er fun w hw => ?_
 (try simp only [qz])
 exact ⟨_, _, rfl, hO1, hw.made (by simp)⟩
theorem fold_zip1 {γ : Type} (f : γ → Nat × Value → γ) (t : γ) (p : Nat) (v : Value) : Array.foldl f t (#[p].zip #[v]) = f t (p, v) := by
 have e : (#[p].zip #[v]) = #[(p, v)] := by rw [List.zip_toArray]; rfl
 rw [e]; simp
theorem ex_loop {B w : World} {F : List Nat} {s : List Blk} {l : Nat} {r : Loop} (K : Kn B F ((l, .loop r) :: s) w) : ∃ r', r' = r := ⟨_, rfl⟩
def PatC (m : Nat) : Prop := ∀ (p lp gm gp L : Nat) (r : Loop) (C : List (List Int) → List Blk → Prop) (ys : List (List Int)) (s0 : List Blk) (w : World) (F : List Nat), p ≤ 5 → ys.length + (pats m p).length ≤ L → RoundsP L m lp r C → C ys s0 →
  Kn w F (s0 ++ [(gm, .cells #[.int .i64 m] 3), (gp, .cells #[.int .i64 p] 3)]) w →
  Calls Tryz.prog 83 #[.func (.yield lp) #[] #[], .pointer (some ⟨gm, 0, none⟩), .pointer (some ⟨gp, 0, none⟩)] w fun e w' => e = .returned (.tuple #[]) ∧ ∃ s u, C (ys ++ pats m p) s ∧ Kn w F (s ++ u) w'
theorem patterns_any (m p : Int) (w : World) : Calls Tryz.prog 39 #[.int .i64 m, .int .i64 p] w fun e w' => ∃ gm gp, e = .returned (.func (.func 83) #[] #[.pointer (some ⟨gm, 0, none⟩), .pointer (some ⟨gp, 0, none⟩)]) ∧ Made w [(gm, .cells #[.int .i64 m] 3), (gp, .cells #[.int .i64 p] 3)] w' := by
 go_enter Tryz.func39, Tryz.ntmps39
 refine wk_start ?_
 refine wk_seq ?_
 refine wk_region [1, 1, 0] rfl Kx ?_
 simp only [qy]
 refine Rgn fun g1 => ?_
 simp only [qz]
 refine Rgn fun g2 => ?_
 simp only [qz]
 refine rg_assign ?_
 simp only [qz]
 refine rg_nil (ek_next (wk_seq ?_))
 refine wk_region [0, 0] rfl Kx ?_
 simp only [qy]
 apply rg_soft
 case hy => (intro w hw; go_simp; (try go_bits); exact Yld.mk _ _)
 simp only [qz]
 refine rg_assign ?_
 simp only [qz]
 refine rg_nil (ek_next (wk_ret ?_))
 refine ek_ret (fun w hw => ⟨rfl, _, res_t _ rfl, ?_⟩)
 (try simp only [qz])
 exact ⟨g1, g2, rfl, (hw.perm (List.Perm.swap _ _ _)).made (List.Sublist.refl _)⟩
theorem pat_one : PatC 1 := by
 intro p lp gm gp L r C ys s0 w F hp hlim hR hC K
 have hlim' : ys.length < L := by (simp [pats] at hlim; omega)
 revert hC K
 generalize s0 = uC
 intro hC K
 refine calls_marksF K Tryz.func83 rfl ?_
 simp only [Tryz.ntmps83, List.size_toArray, List.length_cons, List.length_nil, Nat.reduceAdd, Nat.reduceSub, Array.replicate_succ, Array.replicate_zero, List.push_toArray, List.append_toArray, List.nil_append, List.cons_append]
 refine wk_seq ?_
 refine wk_region [1] rfl Kx ?_
 simp only [qy]
 refine Rgn fun g1 => ?_
 simp only [qz]
 refine rg_nil (ek_next (wk_seq (wk_seq ?_)))
 refine wk_region [0, 0] rfl Kx ?_
 simp only [qy]
 refine rf_load rfl rfl rfl UU3 rfl (fun w hw => (Kn.hd0 (Kn.tlU (Kn.tl hw))).at rfl) ?_
 simp only [qz]
 refine rfb_eql rfl rfl rfl rfl ?_
 intro x h1
 obtain rfl : x = true := by (refine h1.symm.trans ?_; exact decide_eq_true Ox)
 clear h1
 simp only [qz]
 refine rg_nil (ek_next (wk_cond_t rfl (wk_seq ?_)))
 refine wk_region [0, 0, 1, 1] rfl Kx ?_
 simp only [qy]
 refine rf_load rfl rfl rfl UU111 rfl (fun w hw => (Kn.hd0 hw).at rfl) ?_
 simp only [qz]
 refine rf_load rfl rfl rfl UU3 rfl (fun w hw => (Kn.hd0 (Kn.tl (Kn.tlU (Kn.tl hw)))).at rfl) ?_
 simp only [qz]
 refine rg_newS (cs := ?_) (ty := ?_) (n := 1) (c := 1) Rx (fun w => ?_) Nz (fun g2 => ?_); rotate_left 2
 focus (go_simp; rfl)
 simp only [qz]
 refine rg_yieldP (u := [_]) (row := [(p : Int)]) hR hC (by simp) (by simp) Ox (OwnZ.one _) (by exact ((perm_atU (l := [_]) (u := uC) (List.Perm.refl _)).cons _)) Rx rfl (by simp only [qm, qs, Act.eval] <;> rfl) (fun sD hCD => ?_)
 simp only [qz]
 refine rg_nil (ek_next (wk_ret (ek_then_ret ?_)))
 refine ek_retM0 (fun w hw => ⟨_, res_0 rfl, ?_⟩)
 exact ⟨rfl, sD, _, hCD, hw⟩
theorem as6 {α : Type} {x y z a b : α} {u r : List α} : x :: y :: z :: (u ++ (a :: b :: r)) = ((x :: y :: z :: u) ++ [a, b]) ++ r := by simp
theorem wrap_eq' {n r : Int} (h : n = r) (h0 : -9223372036854775808 ≤ r) (h1 : r < 9223372036854775808) : IntKind.i64.wrap n = r := by
 rw [h]; exact wrap_ok Ox Ox
theorem pat_step {m : Nat} (hm : m + 2 ≤ 6) (IH : PatC (m + 1)) : PatC (m + 2) := by
 intro p lp gm gp L r C ys s0 w F hp hlim hR hC K
 revert hC K
 generalize s0 = uC
 intro hC K
 refine calls_marksF K Tryz.func83 rfl ?_
 simp only [Tryz.ntmps83, List.size_toArray, List.length_cons, List.length_nil, Nat.reduceAdd, Nat.reduceSub, Array.replicate_succ, Array.replicate_zero, List.push_toArray, List.append_toArray, List.nil_append, List.cons_append]
 refine wk_seq ?_
 refine wk_region [1] rfl Kx ?_
 simp only [qy]
 refine Rgn fun g1 => ?_
 simp only [qz]
 refine rg_nil (ek_next (wk_seq (wk_seq ?_)))
 refine wk_region [0, 0] rfl Kx ?_
 simp only [qy]
 refine rf_load rfl rfl rfl UU3 rfl (fun w hw => (Kn.hd0 (Kn.tlU (Kn.tl hw))).at rfl) ?_
 simp only [qz]
 refine rfb_eql rfl rfl rfl rfl ?_
 intro x h1
 obtain rfl : x = false := by (refine h1.symm.trans ?_; exact decide_eq_false Ox)
 clear h1
 simp only [qz]
 refine rg_nil (ek_next (wk_cond_f rfl (wk_skip (ek_next (wk_seq ?_)))))
 refine wk_region [0, 1, 1] rfl Kx ?_
 simp only [qy]
 refine rf_load rfl rfl rfl UU3 rfl (fun w hw => (Kn.hd0 (Kn.tl (Kn.tlU (Kn.tl hw)))).at rfl) ?_
 simp only [qz]
 refine Rgn fun g2 => ?_
 simp only [qz]
 refine rf_store rfl rfl Kx rfl rfl (UpdR.here _ _ _ Nl) Nz ?_
 simp only [qz]
 refine rg_nil (ek_next (wk_block ?_))
 refine wk_loopD [4, 5, 13, 14, 15, 16, 17, 18, 19, 20, 21, 22, 23, 24, 25, 26, 27, 28, 29, 30, 31] (fun mz f ds s => ∃ (t : Nat) (dl : List Nat) (uC : List Blk) (gF : Nat), f 4 = .pointer (some ⟨gF, 0, none⟩) ∧ ds = collD dl ∧ s = (gF, .cells #[.int .i64 ((p : Int) - ((t : Nat) : Int))] 3) :: (g1, .cells #[.func (.yield lp) #[] #[]] 111) :: (uC ++ ((gm, .cells #[.int .i64 (((m + 2 : Nat) : Int))] 3) :: (gp, .cells #[.int .i64 (p)] 3) :: (marksD dl ++ []))) ∧ mz = p + 1 - t ∧ t ≤ p + 1 ∧ C (ys ++ patsT (m + 1) p t) uC) (p + 1 - 0) ?_ Kx ?_
 ·exact ⟨0, [], uC, g2, rfl, rfl, (by rw [show ((p : Int) - ((0 : Nat) : Int)) = p by omega]; rfl), rfl, by omega, (by have h := hC; rwa [show ys = ys ++ patsT (m + 1) p 0 by simp [patsT]] at h)⟩
 clear hC
 rintro mz f1 ds s ⟨t, dl, uC, gF, hs4, rfl, rfl, hn, ht, hC⟩
 simp only [Act.putF, List.foldl_cons, List.foldl_nil, hs4, Act.put, Act.eval, q1, q2, q3, q4, q5, q6, q7, q8, q9, q10, q11, q12, q13, q14, q15, q16, q17, q18, Nat.reduceAdd, Bool.not_true, Bool.not_false]
 clear hs4
 refine wk_seq (wk_seq ?_)
 refine wk_region [0, 0] rfl Kx ?_
 simp only [qy]
 refine rf_load rfl rfl rfl UU3 rfl (fun w hw => (Kn.hd0 hw).at rfl) ?_
 simp only [qz]
 refine rfb_geq rfl rfl rfl rfl ?_
 intro x h2
 cases x
 ·(try simp only [qd, ne_eq] at h2)
  simp only [qz]
  refine rg_nil (ek_next (wk_cond_f rfl (wk_exit (ek_then_exit (ek_then_exit (ek_block_exit ?_))))))
  refine ek_perm ((((((((((((List.Perm.refl _).cons _).trans (List.perm_middle (l₁ := (marksD dl))).symm).cons _).trans (List.perm_middle (l₁ := (marksD dl))).symm).append_left _).trans (List.perm_append_comm_assoc uC (marksD dl) _)).cons _).trans (List.perm_middle (l₁ := (marksD dl))).symm).cons _).trans (List.perm_middle (l₁ := (marksD dl))).symm).trans ((perm_atU (l := [_, _]) (u := uC) (List.Perm.refl _)).append_left _)) ?_
  obtain rfl : t = p + 1 := by omega
  refine ek_normMn dl (fun w hw => ⟨_, res_0 rfl, ?_⟩)
  exact ⟨rfl, uC, _, by rw [pats_T]; exact hC, hw⟩
 (try simp only [qd, ne_eq] at h2)
 simp only [qz]
 refine rg_nil (ek_next (wk_cond_t rfl (wk_skip (ek_next (wk_seq (wk_block (wk_seq ?_)))))))
 refine wk_region [0, 0, 0, 0, 0, 1] rfl Kx ?_
 simp only [qy]
 refine rf_load rfl rfl rfl UU3 rfl (fun w hw => (Kn.hd0 (Kn.tlU (Kn.tl (Kn.tl hw)))).at rfl) ?_
 simp only [qz]
 refine rf_sub (r := ((m + 1 : Nat) : Int)) rfl rfl rfl rfl (wrap_eq' Ox Ox Ox) ?_
 simp only [qz]
 refine rf_load rfl rfl rfl UU3 rfl (fun w hw => (Kn.hd0 (Kn.tl (Kn.tlU (Kn.tl (Kn.tl hw))))).at rfl) ?_
 simp only [qz]
 refine rf_load rfl rfl rfl UU3 rfl (fun w hw => (Kn.hd0 hw).at rfl) ?_
 simp only [qz]
 refine rf_sub (r := (t : Int)) rfl rfl rfl rfl (wrap_eq' Ox Ox Ox) ?_
 simp only [qz]
 apply rg_made (T := fun v u => ∃ gm2 gp2, v = .func (.func 83) #[] #[.pointer (some ⟨gm2, 0, none⟩), .pointer (some ⟨gp2, 0, none⟩)] ∧ u = [(gm2, .cells #[.int .i64 (((m + 1 : Nat) : Int))] 3), (gp2, .cells #[.int .i64 (t)] 3)]) Rx Kx
 case hargs => exact Ax
 case h => exact fun w hw => (patterns_any ((m + 1 : Nat) : Int) t w).mono (fun e w' ⟨gm2, gp2, he, hm⟩ => ⟨_, _, he, ⟨gm2, gp2, rfl, rfl⟩, hm⟩)
 case hz => exact Nz
 rintro _ _ ⟨gm2, gp2, rfl, rfl⟩
 simp only [List.cons_append, List.nil_append]
 simp only [qz]
 refine rg_nil (ek_next (wk_block ?_))
 refine wk_rangeFunc (f := 83) (caps := #[.pointer (some ⟨gm2, 0, none⟩), .pointer (some ⟨gp2, 0, none⟩)]) rfl Kx ?_
 intro fn dd lq w1 K1
 obtain ⟨r2, hr2⟩ := ex_loop K1
 rw [← hr2] at K1
 have K2 := K1.perm ((perm_at (l := [_, _, _, _]) (perm_at (l := [_, _, _]) (perm_atU (l := [_, _, _]) (u := uC) (perm_at (l := [_]) (perm_at (l := [_]) (List.Perm.refl _)))))).cons _)
 rw [as6] at K2
 have K3 := Kn.self (v := (_ :: _ :: _ :: uC) ++ [_, _]) (rest := _) K2
 have hlt := patsT_le (m := m) (p := p) (t := t) Ox
 have hR2 : RoundsP (pats (m + 1) t).length (m + 1) lq r2 (fun zs S => ∃ sC, S = (lq, .loop r2) :: (g1, .cells #[.func (.yield lp) #[] #[]] 111) :: (gF, .cells #[.int .i64 ((p : Int) - ((t : Nat) : Int))] 3) :: sC ∧ C ((ys ++ patsT (m + 1) p t) ++ zs.map (((p - t : Nat) : Int) :: ·)) sC) := by
  subst hr2
  refine ⟨rfl, fun zs S ⟨sC, e, _⟩ => by subst e; simp, ?_⟩
  intro R B F zs row uN v S uR w hl0 hl1 hzl ⟨uD, hS, hCz⟩ hO K
  subst hS
  simp only [List.cons_append] at K
  obtain ⟨av, cv, rfl, hcv⟩ := Own.val hO
  obtain ⟨ad, rfl, hAd⟩ := hO.addr hl0
  refine roundIn_kn (Rep.app _ (Rep.here _)) rfl ?_ K
  simp only [fold_zip1]
  simp only [qz]
  refine wk_region [0] rfl Kx ?_
  simp only [qy]
  refine rg_assign ?_
  simp only [qz]
  refine rg_nil ?_
  refine ek_asg ?_
  refine wk_block (wk_seq ?_)
  refine wk_rr Kx ?_
  refine rr_hard3 (i := 0) (j := 1) (k := 3) (f := 0) (g := 0) (e := 0) Kx rfl rfl rfl rfl rfl rfl ?_ ?_ ?_
  ·refine rf_load rfl rfl rfl UU111 rfl (fun w hw => (Kn.hd0 (Kn.tl (Kn.tlU hw))).at rfl) ?_
   simp only [qz]
   refine rg_nil ?_
   refine ek_rr ?_
   refine rr_hard2 (i := 1) (j := 3) (f := 0) (g := 0) Kx rfl rfl rfl rfl ?_ ?_
   ·refine rf_load rfl rfl rfl UU3 rfl (fun w hw => (Kn.hd0 (Kn.tl (Kn.tl (Kn.tlU hw)))).at rfl) ?_
    simp only [qz]
    refine rg_nil ?_
    refine ek_rr ?_
    refine rr_hard2 (i := 2) (j := 3) (f := 1) (g := 0) Kx rfl rfl rfl rfl ?_ ?_
    ·refine rg_newS (cs := ?_) (ty := ?_) (n := 1) (c := 1) Rx (fun w => ?_) Nz (fun g3 => ?_); rotate_left 2
     focus (go_simp; rfl)
     simp only [qz]
     refine rg_nil ?_
     refine ek_rr ?_
     refine rr_hard1 (i := 3) (f := 0) Kx rfl rfl ?_
     refine rg_move ?_
     simp only [qz]
     refine rg_nil ?_
     refine ek_rr ?_
     refine rr_hard1 (i := 4) (f := 1) Kx rfl rfl ?_
     refine rg_consZ (x := (p : Int) - ((t : Nat) : Int)) Rx rfl rfl (fun w hw => hAd hw (List.Sublist.cons _ (List.sublist_append_left _ _))) Ox hl0 (List.Perm.refl _) Nz (fun uP aP cP hOP => ?_)
     simp only [qz]
     refine rg_nil ?_
     refine ek_rr ?_
     refine rr_hard1 (i := 5) (f := 1) Kx rfl rfl ?_
     refine rg_yieldP hR hCz (by simp) (by simp; omega) (by simp only [List.length_append, List.length_map]; omega) hOP (((((((((((List.Perm.refl _).cons _).trans (List.perm_middle (l₁ := uD)).symm).cons _).trans (List.perm_middle (l₁ := uD)).symm).cons _).trans (List.perm_middle (l₁ := uD)).symm).append_left _).trans (List.perm_append_comm_assoc uN uD _)).trans ((List.Perm.refl _).append_left _)).append_left _) Rx rfl (by simp only [qm, qs, Act.eval, List.length_cons] <;> rfl) (fun uE hCE => ?_)
     simp only [qz]
     refine rg_nil ?_
     refine ek_rr ?_
     refine rr_hard1 (i := 6) (f := 0) Kx rfl rfl ?_
     refine rf_not rfl rfl rfl ?_
     simp only [qz]
     refine rg_nil ?_
     refine ek_rr ?_
     refine rr_nil Kx ?_
     refine ek_next (wk_cond_f rfl (wk_skip (ek_block ?_)))
     refine ek_sub (List.Sublist.append_left ((sc _ (sc _ (sc _ (List.Sublist.refl _)))).trans (List.sublist_append_right _ _)) _) ?_
     refine ek_perm ((((List.Perm.refl _).append_left _).trans (List.perm_middle (l₁ := uE))).trans (((((List.Perm.refl _).append_left _).trans (List.perm_middle (l₁ := uE))).trans (((((List.Perm.refl _).append_left _).trans (List.perm_middle (l₁ := uE))).trans ((List.Perm.refl _).cons _)).cons _)).cons _)) ?_
     refine ek_roundEnd (Rep.here _) (fun w hw => ⟨_, rfl, ⟨uE, rfl, ?_⟩, hw⟩)
     have h := hCE
     rw [show (p : Int) - ((t : Nat) : Int) = ((p - t : Nat) : Int) by omega] at h
     simpa [List.append_assoc] using h
    ·refine rg_move ?_
     simp only [qz]
     refine rg_nil ?_
     refine ek_rr ?_
     refine rr_hard1 (i := 2) (f := 1) Kx rfl rfl ?_
     refine rg_newS (cs := ?_) (ty := ?_) (n := 1) (c := 1) Rx (fun w => ?_) Nz (fun g4 => ?_); rotate_left 2
     focus (go_simp; rfl)
     simp only [qz]
     refine rg_nil ?_
     refine ek_rr ?_
     refine rr_hard1 (i := 4) (f := 1) Kx rfl rfl ?_
     refine rg_consZ (x := (p : Int) - ((t : Nat) : Int)) Rx rfl rfl (fun w hw => hAd hw (List.Sublist.cons _ (List.sublist_append_left _ _))) Ox hl0 (List.Perm.refl _) Nz (fun uP aP cP hOP => ?_)
     simp only [qz]
     refine rg_nil ?_
     refine ek_rr ?_
     refine rr_hard1 (i := 5) (f := 1) Kx rfl rfl ?_
     refine rg_yieldP hR hCz (by simp) (by simp; omega) (by simp only [List.length_append, List.length_map]; omega) hOP (((((((((((List.Perm.refl _).cons _).trans (List.perm_middle (l₁ := uD)).symm).cons _).trans (List.perm_middle (l₁ := uD)).symm).cons _).trans (List.perm_middle (l₁ := uD)).symm).append_left _).trans (List.perm_append_comm_assoc uN uD _)).trans ((List.Perm.refl _).append_left _)).append_left _) Rx rfl (by simp only [qm, qs, Act.eval, List.length_cons] <;> rfl) (fun uE hCE => ?_)
     simp only [qz]
     refine rg_nil ?_
     refine ek_rr ?_
     refine rr_hard1 (i := 6) (f := 0) Kx rfl rfl ?_
     refine rf_not rfl rfl rfl ?_
     simp only [qz]
     refine rg_nil ?_
     refine ek_rr ?_
     refine rr_nil Kx ?_
     refine ek_next (wk_cond_f rfl (wk_skip (ek_block ?_)))
     refine ek_sub (List.Sublist.append_left ((sc _ (sc _ (sc _ (List.Sublist.refl _)))).trans (List.sublist_append_right _ _)) _) ?_
     refine ek_perm ((((List.Perm.refl _).append_left _).trans (List.perm_middle (l₁ := uE))).trans (((((List.Perm.refl _).append_left _).trans (List.perm_middle (l₁ := uE))).trans (((((List.Perm.refl _).append_left _).trans (List.perm_middle (l₁ := uE))).trans ((List.Perm.refl _).cons _)).cons _)).cons _)) ?_
     refine ek_roundEnd (Rep.here _) (fun w hw => ⟨_, rfl, ⟨uE, rfl, ?_⟩, hw⟩)
     have h := hCE
     rw [show (p : Int) - ((t : Nat) : Int) = ((p - t : Nat) : Int) by omega] at h
     simpa [List.append_assoc] using h
   ·refine rg_move ?_
    simp only [qz]
    refine rg_nil ?_
    refine ek_rr ?_
    refine rr_hard1 (i := 1) (f := 0) Kx rfl rfl ?_
    refine rf_load rfl rfl rfl UU3 rfl (fun w hw => (Kn.hd0 (Kn.tl (Kn.tl (Kn.tlU hw)))).at rfl) ?_
    simp only [qz]
    refine rg_nil ?_
    refine ek_rr ?_
    refine rr_hard1 (i := 2) (f := 1) Kx rfl rfl ?_
    refine rg_newS (cs := ?_) (ty := ?_) (n := 1) (c := 1) Rx (fun w => ?_) Nz (fun g5 => ?_); rotate_left 2
    focus (go_simp; rfl)
    simp only [qz]
    refine rg_nil ?_
    refine ek_rr ?_
    refine rr_hard1 (i := 4) (f := 1) Kx rfl rfl ?_
    refine rg_consZ (x := (p : Int) - ((t : Nat) : Int)) Rx rfl rfl (fun w hw => hAd hw (List.Sublist.cons _ (List.sublist_append_left _ _))) Ox hl0 (List.Perm.refl _) Nz (fun uP aP cP hOP => ?_)
    simp only [qz]
    refine rg_nil ?_
    refine ek_rr ?_
    refine rr_hard1 (i := 5) (f := 1) Kx rfl rfl ?_
    refine rg_yieldP hR hCz (by simp) (by simp; omega) (by simp only [List.length_append, List.length_map]; omega) hOP (((((((((((List.Perm.refl _).cons _).trans (List.perm_middle (l₁ := uD)).symm).cons _).trans (List.perm_middle (l₁ := uD)).symm).cons _).trans (List.perm_middle (l₁ := uD)).symm).append_left _).trans (List.perm_append_comm_assoc uN uD _)).trans ((List.Perm.refl _).append_left _)).append_left _) Rx rfl (by simp only [qm, qs, Act.eval, List.length_cons] <;> rfl) (fun uE hCE => ?_)
    simp only [qz]
    refine rg_nil ?_
    refine ek_rr ?_
    refine rr_hard1 (i := 6) (f := 0) Kx rfl rfl ?_
    refine rf_not rfl rfl rfl ?_
    simp only [qz]
    refine rg_nil ?_
    refine ek_rr ?_
    refine rr_nil Kx ?_
    refine ek_next (wk_cond_f rfl (wk_skip (ek_block ?_)))
    refine ek_sub (List.Sublist.append_left ((sc _ (sc _ (sc _ (List.Sublist.refl _)))).trans (List.sublist_append_right _ _)) _) ?_
    refine ek_perm ((((List.Perm.refl _).append_left _).trans (List.perm_middle (l₁ := uE))).trans (((((List.Perm.refl _).append_left _).trans (List.perm_middle (l₁ := uE))).trans (((((List.Perm.refl _).append_left _).trans (List.perm_middle (l₁ := uE))).trans ((List.Perm.refl _).cons _)).cons _)).cons _)) ?_
    refine ek_roundEnd (Rep.here _) (fun w hw => ⟨_, rfl, ⟨uE, rfl, ?_⟩, hw⟩)
    have h := hCE
    rw [show (p : Int) - ((t : Nat) : Int) = ((p - t : Nat) : Int) by omega] at h
    simpa [List.append_assoc] using h
  ·refine rf_load rfl rfl rfl UU3 rfl (fun w hw => (Kn.hd0 (Kn.tl (Kn.tl (Kn.tlU hw)))).at rfl) ?_
   simp only [qz]
   refine rg_nil ?_
   refine ek_rr ?_
   refine rr_hard3 (i := 0) (j := 2) (k := 3) (f := 0) (g := 1) (e := 0) Kx rfl rfl rfl rfl rfl rfl ?_ ?_ ?_
   ·refine rf_load rfl rfl rfl UU111 rfl (fun w hw => (Kn.hd0 (Kn.tl (Kn.tlU hw))).at rfl) ?_
    simp only [qz]
    refine rg_nil ?_
    refine ek_rr ?_
    refine rr_hard2 (i := 2) (j := 3) (f := 1) (g := 0) Kx rfl rfl rfl rfl ?_ ?_
    ·refine rg_newS (cs := ?_) (ty := ?_) (n := 1) (c := 1) Rx (fun w => ?_) Nz (fun g6 => ?_); rotate_left 2
     focus (go_simp; rfl)
     simp only [qz]
     refine rg_nil ?_
     refine ek_rr ?_
     refine rr_hard1 (i := 3) (f := 0) Kx rfl rfl ?_
     refine rg_move ?_
     simp only [qz]
     refine rg_nil ?_
     refine ek_rr ?_
     refine rr_hard1 (i := 4) (f := 1) Kx rfl rfl ?_
     refine rg_consZ (x := (p : Int) - ((t : Nat) : Int)) Rx rfl rfl (fun w hw => hAd hw (List.Sublist.cons _ (List.sublist_append_left _ _))) Ox hl0 (List.Perm.refl _) Nz (fun uP aP cP hOP => ?_)
     simp only [qz]
     refine rg_nil ?_
     refine ek_rr ?_
     refine rr_hard1 (i := 5) (f := 1) Kx rfl rfl ?_
     refine rg_yieldP hR hCz (by simp) (by simp; omega) (by simp only [List.length_append, List.length_map]; omega) hOP (((((((((((List.Perm.refl _).cons _).trans (List.perm_middle (l₁ := uD)).symm).cons _).trans (List.perm_middle (l₁ := uD)).symm).cons _).trans (List.perm_middle (l₁ := uD)).symm).append_left _).trans (List.perm_append_comm_assoc uN uD _)).trans ((List.Perm.refl _).append_left _)).append_left _) Rx rfl (by simp only [qm, qs, Act.eval, List.length_cons] <;> rfl) (fun uE hCE => ?_)
     simp only [qz]
     refine rg_nil ?_
     refine ek_rr ?_
     refine rr_hard1 (i := 6) (f := 0) Kx rfl rfl ?_
     refine rf_not rfl rfl rfl ?_
     simp only [qz]
     refine rg_nil ?_
     refine ek_rr ?_
     refine rr_nil Kx ?_
     refine ek_next (wk_cond_f rfl (wk_skip (ek_block ?_)))
     refine ek_sub (List.Sublist.append_left ((sc _ (sc _ (sc _ (List.Sublist.refl _)))).trans (List.sublist_append_right _ _)) _) ?_
     refine ek_perm ((((List.Perm.refl _).append_left _).trans (List.perm_middle (l₁ := uE))).trans (((((List.Perm.refl _).append_left _).trans (List.perm_middle (l₁ := uE))).trans (((((List.Perm.refl _).append_left _).trans (List.perm_middle (l₁ := uE))).trans ((List.Perm.refl _).cons _)).cons _)).cons _)) ?_
     refine ek_roundEnd (Rep.here _) (fun w hw => ⟨_, rfl, ⟨uE, rfl, ?_⟩, hw⟩)
     have h := hCE
     rw [show (p : Int) - ((t : Nat) : Int) = ((p - t : Nat) : Int) by omega] at h
     simpa [List.append_assoc] using h
    ·refine rg_move ?_
     simp only [qz]
     refine rg_nil ?_
     refine ek_rr ?_
     refine rr_hard1 (i := 2) (f := 1) Kx rfl rfl ?_
     refine rg_newS (cs := ?_) (ty := ?_) (n := 1) (c := 1) Rx (fun w => ?_) Nz (fun g7 => ?_); rotate_left 2
     focus (go_simp; rfl)
     simp only [qz]
     refine rg_nil ?_
     refine ek_rr ?_
     refine rr_hard1 (i := 4) (f := 1) Kx rfl rfl ?_
     refine rg_consZ (x := (p : Int) - ((t : Nat) : Int)) Rx rfl rfl (fun w hw => hAd hw (List.Sublist.cons _ (List.sublist_append_left _ _))) Ox hl0 (List.Perm.refl _) Nz (fun uP aP cP hOP => ?_)
     simp only [qz]
     refine rg_nil ?_
     refine ek_rr ?_
     refine rr_hard1 (i := 5) (f := 1) Kx rfl rfl ?_
     refine rg_yieldP hR hCz (by simp) (by simp; omega) (by simp only [List.length_append, List.length_map]; omega) hOP (((((((((((List.Perm.refl _).cons _).trans (List.perm_middle (l₁ := uD)).symm).cons _).trans (List.perm_middle (l₁ := uD)).symm).cons _).trans (List.perm_middle (l₁ := uD)).symm).append_left _).trans (List.perm_append_comm_assoc uN uD _)).trans ((List.Perm.refl _).append_left _)).append_left _) Rx rfl (by simp only [qm, qs, Act.eval, List.length_cons] <;> rfl) (fun uE hCE => ?_)
     simp only [qz]
     refine rg_nil ?_
     refine ek_rr ?_
     refine rr_hard1 (i := 6) (f := 0) Kx rfl rfl ?_
     refine rf_not rfl rfl rfl ?_
     simp only [qz]
     refine rg_nil ?_
     refine ek_rr ?_
     refine rr_nil Kx ?_
     refine ek_next (wk_cond_f rfl (wk_skip (ek_block ?_)))
     refine ek_sub (List.Sublist.append_left ((sc _ (sc _ (sc _ (List.Sublist.refl _)))).trans (List.sublist_append_right _ _)) _) ?_
     refine ek_perm ((((List.Perm.refl _).append_left _).trans (List.perm_middle (l₁ := uE))).trans (((((List.Perm.refl _).append_left _).trans (List.perm_middle (l₁ := uE))).trans (((((List.Perm.refl _).append_left _).trans (List.perm_middle (l₁ := uE))).trans ((List.Perm.refl _).cons _)).cons _)).cons _)) ?_
     refine ek_roundEnd (Rep.here _) (fun w hw => ⟨_, rfl, ⟨uE, rfl, ?_⟩, hw⟩)
     have h := hCE
     rw [show (p : Int) - ((t : Nat) : Int) = ((p - t : Nat) : Int) by omega] at h
     simpa [List.append_assoc] using h
   ·refine rg_newS (cs := ?_) (ty := ?_) (n := 1) (c := 1) Rx (fun w => ?_) Nz (fun g8 => ?_); rotate_left 2
    focus (go_simp; rfl)
    simp only [qz]
    refine rg_nil ?_
    refine ek_rr ?_
    refine rr_hard2 (i := 0) (j := 3) (f := 0) (g := 0) Kx rfl rfl rfl rfl ?_ ?_
    ·refine rf_load rfl rfl rfl UU111 rfl (fun w hw => (Kn.hd0 (Kn.tl (Kn.tlU (Kn.tl hw)))).at rfl) ?_
     simp only [qz]
     refine rg_nil ?_
     refine ek_rr ?_
     refine rr_hard1 (i := 3) (f := 0) Kx rfl rfl ?_
     refine rg_move ?_
     simp only [qz]
     refine rg_nil ?_
     refine ek_rr ?_
     refine rr_hard1 (i := 4) (f := 1) Kx rfl rfl ?_
     refine rg_consZ (x := (p : Int) - ((t : Nat) : Int)) Rx rfl rfl (fun w hw => hAd hw (List.Sublist.cons _ (List.sublist_append_left _ _))) Ox hl0 (List.Perm.refl _) Nz (fun uP aP cP hOP => ?_)
     simp only [qz]
     refine rg_nil ?_
     refine ek_rr ?_
     refine rr_hard1 (i := 5) (f := 1) Kx rfl rfl ?_
     refine rg_yieldP hR hCz (by simp) (by simp; omega) (by simp only [List.length_append, List.length_map]; omega) hOP (((((((((((List.Perm.refl _).cons _).trans (List.perm_middle (l₁ := uD)).symm).cons _).trans (List.perm_middle (l₁ := uD)).symm).cons _).trans (List.perm_middle (l₁ := uD)).symm).append_left _).trans (List.perm_append_comm_assoc uN uD _)).trans ((List.Perm.refl _).append_left _)).append_left _) Rx rfl (by simp only [qm, qs, Act.eval, List.length_cons] <;> rfl) (fun uE hCE => ?_)
     simp only [qz]
     refine rg_nil ?_
     refine ek_rr ?_
     refine rr_hard1 (i := 6) (f := 0) Kx rfl rfl ?_
     refine rf_not rfl rfl rfl ?_
     simp only [qz]
     refine rg_nil ?_
     refine ek_rr ?_
     refine rr_nil Kx ?_
     refine ek_next (wk_cond_f rfl (wk_skip (ek_block ?_)))
     refine ek_sub (List.Sublist.append_left ((sc _ (sc _ (sc _ (List.Sublist.refl _)))).trans (List.sublist_append_right _ _)) _) ?_
     refine ek_perm ((((List.Perm.refl _).append_left _).trans (List.perm_middle (l₁ := uE))).trans (((((List.Perm.refl _).append_left _).trans (List.perm_middle (l₁ := uE))).trans (((((List.Perm.refl _).append_left _).trans (List.perm_middle (l₁ := uE))).trans ((List.Perm.refl _).cons _)).cons _)).cons _)) ?_
     refine ek_roundEnd (Rep.here _) (fun w hw => ⟨_, rfl, ⟨uE, rfl, ?_⟩, hw⟩)
     have h := hCE
     rw [show (p : Int) - ((t : Nat) : Int) = ((p - t : Nat) : Int) by omega] at h
     simpa [List.append_assoc] using h
    ·refine rg_move ?_
     simp only [qz]
     refine rg_nil ?_
     refine ek_rr ?_
     refine rr_hard2 (i := 0) (j := 4) (f := 0) (g := 1) Kx rfl rfl rfl rfl ?_ ?_
     ·refine rf_load rfl rfl rfl UU111 rfl (fun w hw => (Kn.hd0 (Kn.tl (Kn.tlU (Kn.tl hw)))).at rfl) ?_
      simp only [qz]
      refine rg_nil ?_
      refine ek_rr ?_
      refine rr_hard1 (i := 4) (f := 1) Kx rfl rfl ?_
      refine rg_consZ (x := (p : Int) - ((t : Nat) : Int)) Rx rfl rfl (fun w hw => hAd hw (List.Sublist.cons _ (List.sublist_append_left _ _))) Ox hl0 (List.Perm.refl _) Nz (fun uP aP cP hOP => ?_)
      simp only [qz]
      refine rg_nil ?_
      refine ek_rr ?_
      refine rr_hard1 (i := 5) (f := 1) Kx rfl rfl ?_
      refine rg_yieldP hR hCz (by simp) (by simp; omega) (by simp only [List.length_append, List.length_map]; omega) hOP (((((((((((List.Perm.refl _).cons _).trans (List.perm_middle (l₁ := uD)).symm).cons _).trans (List.perm_middle (l₁ := uD)).symm).cons _).trans (List.perm_middle (l₁ := uD)).symm).append_left _).trans (List.perm_append_comm_assoc uN uD _)).trans ((List.Perm.refl _).append_left _)).append_left _) Rx rfl (by simp only [qm, qs, Act.eval, List.length_cons] <;> rfl) (fun uE hCE => ?_)
      simp only [qz]
      refine rg_nil ?_
      refine ek_rr ?_
      refine rr_hard1 (i := 6) (f := 0) Kx rfl rfl ?_
      refine rf_not rfl rfl rfl ?_
      simp only [qz]
      refine rg_nil ?_
      refine ek_rr ?_
      refine rr_nil Kx ?_
      refine ek_next (wk_cond_f rfl (wk_skip (ek_block ?_)))
      refine ek_sub (List.Sublist.append_left ((sc _ (sc _ (sc _ (List.Sublist.refl _)))).trans (List.sublist_append_right _ _)) _) ?_
      refine ek_perm ((((List.Perm.refl _).append_left _).trans (List.perm_middle (l₁ := uE))).trans (((((List.Perm.refl _).append_left _).trans (List.perm_middle (l₁ := uE))).trans (((((List.Perm.refl _).append_left _).trans (List.perm_middle (l₁ := uE))).trans ((List.Perm.refl _).cons _)).cons _)).cons _)) ?_
      refine ek_roundEnd (Rep.here _) (fun w hw => ⟨_, rfl, ⟨uE, rfl, ?_⟩, hw⟩)
      have h := hCE
      rw [show (p : Int) - ((t : Nat) : Int) = ((p - t : Nat) : Int) by omega] at h
      simpa [List.append_assoc] using h
     ·refine rg_consZ (x := (p : Int) - ((t : Nat) : Int)) Rx rfl rfl (fun w hw => hAd hw (List.Sublist.cons _ (List.sublist_append_left _ _))) Ox hl0 (List.Perm.refl _) Nz (fun uP aP cP hOP => ?_)
      simp only [qz]
      refine rg_nil ?_
      refine ek_rr ?_
      refine rr_hard1 (i := 0) (f := 0) Kx rfl rfl ?_
      refine rf_load rfl rfl rfl UU111 rfl (fun w hw => (Kn.hd0 (Kn.tl (Kn.tlU (Kn.tlU hw)))).at rfl) ?_
      simp only [qz]
      refine rg_nil ?_
      refine ek_rr ?_
      refine rr_hard1 (i := 5) (f := 1) Kx rfl rfl ?_
      refine rg_yieldP hR hCz (by simp) (by simp; omega) (by simp only [List.length_append, List.length_map]; omega) hOP (((((((((((List.Perm.refl _).cons _).trans (List.perm_middle (l₁ := uD)).symm).cons _).trans (List.perm_middle (l₁ := uD)).symm).cons _).trans (List.perm_middle (l₁ := uD)).symm).append_left _).trans (List.perm_append_comm_assoc uN uD _)).trans ((List.Perm.refl _).append_left _)).append_left _) Rx rfl (by simp only [qm, qs, Act.eval, List.length_cons] <;> rfl) (fun uE hCE => ?_)
      simp only [qz]
      refine rg_nil ?_
      refine ek_rr ?_
      refine rr_hard1 (i := 6) (f := 0) Kx rfl rfl ?_
      refine rf_not rfl rfl rfl ?_
      simp only [qz]
      refine rg_nil ?_
      refine ek_rr ?_
      refine rr_nil Kx ?_
      refine ek_next (wk_cond_f rfl (wk_skip (ek_block ?_)))
      refine ek_sub (List.Sublist.append_left ((sc _ (sc _ (sc _ (List.Sublist.refl _)))).trans (List.sublist_append_right _ _)) _) ?_
      refine ek_perm ((((List.Perm.refl _).append_left _).trans (List.perm_middle (l₁ := uE))).trans (((((List.Perm.refl _).append_left _).trans (List.perm_middle (l₁ := uE))).trans (((((List.Perm.refl _).append_left _).trans (List.perm_middle (l₁ := uE))).trans ((List.Perm.refl _).cons _)).cons _)).cons _)) ?_
      refine ek_roundEnd (Rep.here _) (fun w hw => ⟨_, rfl, ⟨uE, rfl, ?_⟩, hw⟩)
      have h := hCE
      rw [show (p : Int) - ((t : Nat) : Int) = ((p - t : Nat) : Int) by omega] at h
      simpa [List.append_assoc] using h
   ·refine rg_move ?_
    simp only [qz]
    refine rg_nil ?_
    refine ek_rr ?_
    refine rr_hard2 (i := 0) (j := 2) (f := 0) (g := 1) Kx rfl rfl rfl rfl ?_ ?_
    ·refine rf_load rfl rfl rfl UU111 rfl (fun w hw => (Kn.hd0 (Kn.tl (Kn.tlU hw))).at rfl) ?_
     simp only [qz]
     refine rg_nil ?_
     refine ek_rr ?_
     refine rr_hard1 (i := 2) (f := 1) Kx rfl rfl ?_
     refine rg_newS (cs := ?_) (ty := ?_) (n := 1) (c := 1) Rx (fun w => ?_) Nz (fun g9 => ?_); rotate_left 2
     focus (go_simp; rfl)
     simp only [qz]
     refine rg_nil ?_
     refine ek_rr ?_
     refine rr_hard1 (i := 4) (f := 1) Kx rfl rfl ?_
     refine rg_consZ (x := (p : Int) - ((t : Nat) : Int)) Rx rfl rfl (fun w hw => hAd hw (List.Sublist.cons _ (List.sublist_append_left _ _))) Ox hl0 (List.Perm.refl _) Nz (fun uP aP cP hOP => ?_)
     simp only [qz]
     refine rg_nil ?_
     refine ek_rr ?_
     refine rr_hard1 (i := 5) (f := 1) Kx rfl rfl ?_
     refine rg_yieldP hR hCz (by simp) (by simp; omega) (by simp only [List.length_append, List.length_map]; omega) hOP (((((((((((List.Perm.refl _).cons _).trans (List.perm_middle (l₁ := uD)).symm).cons _).trans (List.perm_middle (l₁ := uD)).symm).cons _).trans (List.perm_middle (l₁ := uD)).symm).append_left _).trans (List.perm_append_comm_assoc uN uD _)).trans ((List.Perm.refl _).append_left _)).append_left _) Rx rfl (by simp only [qm, qs, Act.eval, List.length_cons] <;> rfl) (fun uE hCE => ?_)
     simp only [qz]
     refine rg_nil ?_
     refine ek_rr ?_
     refine rr_hard1 (i := 6) (f := 0) Kx rfl rfl ?_
     refine rf_not rfl rfl rfl ?_
     simp only [qz]
     refine rg_nil ?_
     refine ek_rr ?_
     refine rr_nil Kx ?_
     refine ek_next (wk_cond_f rfl (wk_skip (ek_block ?_)))
     refine ek_sub (List.Sublist.append_left ((sc _ (sc _ (sc _ (List.Sublist.refl _)))).trans (List.sublist_append_right _ _)) _) ?_
     refine ek_perm ((((List.Perm.refl _).append_left _).trans (List.perm_middle (l₁ := uE))).trans (((((List.Perm.refl _).append_left _).trans (List.perm_middle (l₁ := uE))).trans (((((List.Perm.refl _).append_left _).trans (List.perm_middle (l₁ := uE))).trans ((List.Perm.refl _).cons _)).cons _)).cons _)) ?_
     refine ek_roundEnd (Rep.here _) (fun w hw => ⟨_, rfl, ⟨uE, rfl, ?_⟩, hw⟩)
     have h := hCE
     rw [show (p : Int) - ((t : Nat) : Int) = ((p - t : Nat) : Int) by omega] at h
     simpa [List.append_assoc] using h
    ·refine rg_newS (cs := ?_) (ty := ?_) (n := 1) (c := 1) Rx (fun w => ?_) Nz (fun g10 => ?_); rotate_left 2
     focus (go_simp; rfl)
     simp only [qz]
     refine rg_nil ?_
     refine ek_rr ?_
     refine rr_hard2 (i := 0) (j := 4) (f := 0) (g := 1) Kx rfl rfl rfl rfl ?_ ?_
     ·refine rf_load rfl rfl rfl UU111 rfl (fun w hw => (Kn.hd0 (Kn.tl (Kn.tlU (Kn.tl hw)))).at rfl) ?_
      simp only [qz]
      refine rg_nil ?_
      refine ek_rr ?_
      refine rr_hard1 (i := 4) (f := 1) Kx rfl rfl ?_
      refine rg_consZ (x := (p : Int) - ((t : Nat) : Int)) Rx rfl rfl (fun w hw => hAd hw (List.Sublist.cons _ (List.sublist_append_left _ _))) Ox hl0 (List.Perm.refl _) Nz (fun uP aP cP hOP => ?_)
      simp only [qz]
      refine rg_nil ?_
      refine ek_rr ?_
      refine rr_hard1 (i := 5) (f := 1) Kx rfl rfl ?_
      refine rg_yieldP hR hCz (by simp) (by simp; omega) (by simp only [List.length_append, List.length_map]; omega) hOP (((((((((((List.Perm.refl _).cons _).trans (List.perm_middle (l₁ := uD)).symm).cons _).trans (List.perm_middle (l₁ := uD)).symm).cons _).trans (List.perm_middle (l₁ := uD)).symm).append_left _).trans (List.perm_append_comm_assoc uN uD _)).trans ((List.Perm.refl _).append_left _)).append_left _) Rx rfl (by simp only [qm, qs, Act.eval, List.length_cons] <;> rfl) (fun uE hCE => ?_)
      simp only [qz]
      refine rg_nil ?_
      refine ek_rr ?_
      refine rr_hard1 (i := 6) (f := 0) Kx rfl rfl ?_
      refine rf_not rfl rfl rfl ?_
      simp only [qz]
      refine rg_nil ?_
      refine ek_rr ?_
      refine rr_nil Kx ?_
      refine ek_next (wk_cond_f rfl (wk_skip (ek_block ?_)))
      refine ek_sub (List.Sublist.append_left ((sc _ (sc _ (sc _ (List.Sublist.refl _)))).trans (List.sublist_append_right _ _)) _) ?_
      refine ek_perm ((((List.Perm.refl _).append_left _).trans (List.perm_middle (l₁ := uE))).trans (((((List.Perm.refl _).append_left _).trans (List.perm_middle (l₁ := uE))).trans (((((List.Perm.refl _).append_left _).trans (List.perm_middle (l₁ := uE))).trans ((List.Perm.refl _).cons _)).cons _)).cons _)) ?_
      refine ek_roundEnd (Rep.here _) (fun w hw => ⟨_, rfl, ⟨uE, rfl, ?_⟩, hw⟩)
      have h := hCE
      rw [show (p : Int) - ((t : Nat) : Int) = ((p - t : Nat) : Int) by omega] at h
      simpa [List.append_assoc] using h
     ·refine rg_consZ (x := (p : Int) - ((t : Nat) : Int)) Rx rfl rfl (fun w hw => hAd hw (List.Sublist.cons _ (List.sublist_append_left _ _))) Ox hl0 (List.Perm.refl _) Nz (fun uP aP cP hOP => ?_)
      simp only [qz]
      refine rg_nil ?_
      refine ek_rr ?_
      refine rr_hard1 (i := 0) (f := 0) Kx rfl rfl ?_
      refine rf_load rfl rfl rfl UU111 rfl (fun w hw => (Kn.hd0 (Kn.tl (Kn.tlU (Kn.tlU hw)))).at rfl) ?_
      simp only [qz]
      refine rg_nil ?_
      refine ek_rr ?_
      refine rr_hard1 (i := 5) (f := 1) Kx rfl rfl ?_
      refine rg_yieldP hR hCz (by simp) (by simp; omega) (by simp only [List.length_append, List.length_map]; omega) hOP (((((((((((List.Perm.refl _).cons _).trans (List.perm_middle (l₁ := uD)).symm).cons _).trans (List.perm_middle (l₁ := uD)).symm).cons _).trans (List.perm_middle (l₁ := uD)).symm).append_left _).trans (List.perm_append_comm_assoc uN uD _)).trans ((List.Perm.refl _).append_left _)).append_left _) Rx rfl (by simp only [qm, qs, Act.eval, List.length_cons] <;> rfl) (fun uE hCE => ?_)
      simp only [qz]
      refine rg_nil ?_
      refine ek_rr ?_
      refine rr_hard1 (i := 6) (f := 0) Kx rfl rfl ?_
      refine rf_not rfl rfl rfl ?_
      simp only [qz]
      refine rg_nil ?_
      refine ek_rr ?_
      refine rr_nil Kx ?_
      refine ek_next (wk_cond_f rfl (wk_skip (ek_block ?_)))
      refine ek_sub (List.Sublist.append_left ((sc _ (sc _ (sc _ (List.Sublist.refl _)))).trans (List.sublist_append_right _ _)) _) ?_
      refine ek_perm ((((List.Perm.refl _).append_left _).trans (List.perm_middle (l₁ := uE))).trans (((((List.Perm.refl _).append_left _).trans (List.perm_middle (l₁ := uE))).trans (((((List.Perm.refl _).append_left _).trans (List.perm_middle (l₁ := uE))).trans ((List.Perm.refl _).cons _)).cons _)).cons _)) ?_
      refine ek_roundEnd (Rep.here _) (fun w hw => ⟨_, rfl, ⟨uE, rfl, ?_⟩, hw⟩)
      have h := hCE
      rw [show (p : Int) - ((t : Nat) : Int) = ((p - t : Nat) : Int) by omega] at h
      simpa [List.append_assoc] using h
  ·refine rg_move ?_
   simp only [qz]
   refine rg_nil ?_
   refine ek_rr ?_
   refine rr_hard2 (i := 0) (j := 1) (f := 0) (g := 0) Kx rfl rfl rfl rfl ?_ ?_
   ·refine rf_load rfl rfl rfl UU111 rfl (fun w hw => (Kn.hd0 (Kn.tl (Kn.tlU hw))).at rfl) ?_
    simp only [qz]
    refine rg_nil ?_
    refine ek_rr ?_
    refine rr_hard1 (i := 1) (f := 0) Kx rfl rfl ?_
    refine rf_load rfl rfl rfl UU3 rfl (fun w hw => (Kn.hd0 (Kn.tl (Kn.tl (Kn.tlU hw)))).at rfl) ?_
    simp only [qz]
    refine rg_nil ?_
    refine ek_rr ?_
    refine rr_hard1 (i := 2) (f := 1) Kx rfl rfl ?_
    refine rg_newS (cs := ?_) (ty := ?_) (n := 1) (c := 1) Rx (fun w => ?_) Nz (fun g11 => ?_); rotate_left 2
    focus (go_simp; rfl)
    simp only [qz]
    refine rg_nil ?_
    refine ek_rr ?_
    refine rr_hard1 (i := 4) (f := 1) Kx rfl rfl ?_
    refine rg_consZ (x := (p : Int) - ((t : Nat) : Int)) Rx rfl rfl (fun w hw => hAd hw (List.Sublist.cons _ (List.sublist_append_left _ _))) Ox hl0 (List.Perm.refl _) Nz (fun uP aP cP hOP => ?_)
    simp only [qz]
    refine rg_nil ?_
    refine ek_rr ?_
    refine rr_hard1 (i := 5) (f := 1) Kx rfl rfl ?_
    refine rg_yieldP hR hCz (by simp) (by simp; omega) (by simp only [List.length_append, List.length_map]; omega) hOP (((((((((((List.Perm.refl _).cons _).trans (List.perm_middle (l₁ := uD)).symm).cons _).trans (List.perm_middle (l₁ := uD)).symm).cons _).trans (List.perm_middle (l₁ := uD)).symm).append_left _).trans (List.perm_append_comm_assoc uN uD _)).trans ((List.Perm.refl _).append_left _)).append_left _) Rx rfl (by simp only [qm, qs, Act.eval, List.length_cons] <;> rfl) (fun uE hCE => ?_)
    simp only [qz]
    refine rg_nil ?_
    refine ek_rr ?_
    refine rr_hard1 (i := 6) (f := 0) Kx rfl rfl ?_
    refine rf_not rfl rfl rfl ?_
    simp only [qz]
    refine rg_nil ?_
    refine ek_rr ?_
    refine rr_nil Kx ?_
    refine ek_next (wk_cond_f rfl (wk_skip (ek_block ?_)))
    refine ek_sub (List.Sublist.append_left ((sc _ (sc _ (sc _ (List.Sublist.refl _)))).trans (List.sublist_append_right _ _)) _) ?_
    refine ek_perm ((((List.Perm.refl _).append_left _).trans (List.perm_middle (l₁ := uE))).trans (((((List.Perm.refl _).append_left _).trans (List.perm_middle (l₁ := uE))).trans (((((List.Perm.refl _).append_left _).trans (List.perm_middle (l₁ := uE))).trans ((List.Perm.refl _).cons _)).cons _)).cons _)) ?_
    refine ek_roundEnd (Rep.here _) (fun w hw => ⟨_, rfl, ⟨uE, rfl, ?_⟩, hw⟩)
    have h := hCE
    rw [show (p : Int) - ((t : Nat) : Int) = ((p - t : Nat) : Int) by omega] at h
    simpa [List.append_assoc] using h
   ·refine rf_load rfl rfl rfl UU3 rfl (fun w hw => (Kn.hd0 (Kn.tl (Kn.tl (Kn.tlU hw)))).at rfl) ?_
    simp only [qz]
    refine rg_nil ?_
    refine ek_rr ?_
    refine rr_hard2 (i := 0) (j := 2) (f := 0) (g := 1) Kx rfl rfl rfl rfl ?_ ?_
    ·refine rf_load rfl rfl rfl UU111 rfl (fun w hw => (Kn.hd0 (Kn.tl (Kn.tlU hw))).at rfl) ?_
     simp only [qz]
     refine rg_nil ?_
     refine ek_rr ?_
     refine rr_hard1 (i := 2) (f := 1) Kx rfl rfl ?_
     refine rg_newS (cs := ?_) (ty := ?_) (n := 1) (c := 1) Rx (fun w => ?_) Nz (fun g12 => ?_); rotate_left 2
     focus (go_simp; rfl)
     simp only [qz]
     refine rg_nil ?_
     refine ek_rr ?_
     refine rr_hard1 (i := 4) (f := 1) Kx rfl rfl ?_
     refine rg_consZ (x := (p : Int) - ((t : Nat) : Int)) Rx rfl rfl (fun w hw => hAd hw (List.Sublist.cons _ (List.sublist_append_left _ _))) Ox hl0 (List.Perm.refl _) Nz (fun uP aP cP hOP => ?_)
     simp only [qz]
     refine rg_nil ?_
     refine ek_rr ?_
     refine rr_hard1 (i := 5) (f := 1) Kx rfl rfl ?_
     refine rg_yieldP hR hCz (by simp) (by simp; omega) (by simp only [List.length_append, List.length_map]; omega) hOP (((((((((((List.Perm.refl _).cons _).trans (List.perm_middle (l₁ := uD)).symm).cons _).trans (List.perm_middle (l₁ := uD)).symm).cons _).trans (List.perm_middle (l₁ := uD)).symm).append_left _).trans (List.perm_append_comm_assoc uN uD _)).trans ((List.Perm.refl _).append_left _)).append_left _) Rx rfl (by simp only [qm, qs, Act.eval, List.length_cons] <;> rfl) (fun uE hCE => ?_)
     simp only [qz]
     refine rg_nil ?_
     refine ek_rr ?_
     refine rr_hard1 (i := 6) (f := 0) Kx rfl rfl ?_
     refine rf_not rfl rfl rfl ?_
     simp only [qz]
     refine rg_nil ?_
     refine ek_rr ?_
     refine rr_nil Kx ?_
     refine ek_next (wk_cond_f rfl (wk_skip (ek_block ?_)))
     refine ek_sub (List.Sublist.append_left ((sc _ (sc _ (sc _ (List.Sublist.refl _)))).trans (List.sublist_append_right _ _)) _) ?_
     refine ek_perm ((((List.Perm.refl _).append_left _).trans (List.perm_middle (l₁ := uE))).trans (((((List.Perm.refl _).append_left _).trans (List.perm_middle (l₁ := uE))).trans (((((List.Perm.refl _).append_left _).trans (List.perm_middle (l₁ := uE))).trans ((List.Perm.refl _).cons _)).cons _)).cons _)) ?_
     refine ek_roundEnd (Rep.here _) (fun w hw => ⟨_, rfl, ⟨uE, rfl, ?_⟩, hw⟩)
     have h := hCE
     rw [show (p : Int) - ((t : Nat) : Int) = ((p - t : Nat) : Int) by omega] at h
     simpa [List.append_assoc] using h
    ·refine rg_newS (cs := ?_) (ty := ?_) (n := 1) (c := 1) Rx (fun w => ?_) Nz (fun g13 => ?_); rotate_left 2
     focus (go_simp; rfl)
     simp only [qz]
     refine rg_nil ?_
     refine ek_rr ?_
     refine rr_hard2 (i := 0) (j := 4) (f := 0) (g := 1) Kx rfl rfl rfl rfl ?_ ?_
     ·refine rf_load rfl rfl rfl UU111 rfl (fun w hw => (Kn.hd0 (Kn.tl (Kn.tlU (Kn.tl hw)))).at rfl) ?_
      simp only [qz]
      refine rg_nil ?_
      refine ek_rr ?_
      refine rr_hard1 (i := 4) (f := 1) Kx rfl rfl ?_
      refine rg_consZ (x := (p : Int) - ((t : Nat) : Int)) Rx rfl rfl (fun w hw => hAd hw (List.Sublist.cons _ (List.sublist_append_left _ _))) Ox hl0 (List.Perm.refl _) Nz (fun uP aP cP hOP => ?_)
      simp only [qz]
      refine rg_nil ?_
      refine ek_rr ?_
      refine rr_hard1 (i := 5) (f := 1) Kx rfl rfl ?_
      refine rg_yieldP hR hCz (by simp) (by simp; omega) (by simp only [List.length_append, List.length_map]; omega) hOP (((((((((((List.Perm.refl _).cons _).trans (List.perm_middle (l₁ := uD)).symm).cons _).trans (List.perm_middle (l₁ := uD)).symm).cons _).trans (List.perm_middle (l₁ := uD)).symm).append_left _).trans (List.perm_append_comm_assoc uN uD _)).trans ((List.Perm.refl _).append_left _)).append_left _) Rx rfl (by simp only [qm, qs, Act.eval, List.length_cons] <;> rfl) (fun uE hCE => ?_)
      simp only [qz]
      refine rg_nil ?_
      refine ek_rr ?_
      refine rr_hard1 (i := 6) (f := 0) Kx rfl rfl ?_
      refine rf_not rfl rfl rfl ?_
      simp only [qz]
      refine rg_nil ?_
      refine ek_rr ?_
      refine rr_nil Kx ?_
      refine ek_next (wk_cond_f rfl (wk_skip (ek_block ?_)))
      refine ek_sub (List.Sublist.append_left ((sc _ (sc _ (sc _ (List.Sublist.refl _)))).trans (List.sublist_append_right _ _)) _) ?_
      refine ek_perm ((((List.Perm.refl _).append_left _).trans (List.perm_middle (l₁ := uE))).trans (((((List.Perm.refl _).append_left _).trans (List.perm_middle (l₁ := uE))).trans (((((List.Perm.refl _).append_left _).trans (List.perm_middle (l₁ := uE))).trans ((List.Perm.refl _).cons _)).cons _)).cons _)) ?_
      refine ek_roundEnd (Rep.here _) (fun w hw => ⟨_, rfl, ⟨uE, rfl, ?_⟩, hw⟩)
      have h := hCE
      rw [show (p : Int) - ((t : Nat) : Int) = ((p - t : Nat) : Int) by omega] at h
      simpa [List.append_assoc] using h
     ·refine rg_consZ (x := (p : Int) - ((t : Nat) : Int)) Rx rfl rfl (fun w hw => hAd hw (List.Sublist.cons _ (List.sublist_append_left _ _))) Ox hl0 (List.Perm.refl _) Nz (fun uP aP cP hOP => ?_)
      simp only [qz]
      refine rg_nil ?_
      refine ek_rr ?_
      refine rr_hard1 (i := 0) (f := 0) Kx rfl rfl ?_
      refine rf_load rfl rfl rfl UU111 rfl (fun w hw => (Kn.hd0 (Kn.tl (Kn.tlU (Kn.tlU hw)))).at rfl) ?_
      simp only [qz]
      refine rg_nil ?_
      refine ek_rr ?_
      refine rr_hard1 (i := 5) (f := 1) Kx rfl rfl ?_
      refine rg_yieldP hR hCz (by simp) (by simp; omega) (by simp only [List.length_append, List.length_map]; omega) hOP (((((((((((List.Perm.refl _).cons _).trans (List.perm_middle (l₁ := uD)).symm).cons _).trans (List.perm_middle (l₁ := uD)).symm).cons _).trans (List.perm_middle (l₁ := uD)).symm).append_left _).trans (List.perm_append_comm_assoc uN uD _)).trans ((List.Perm.refl _).append_left _)).append_left _) Rx rfl (by simp only [qm, qs, Act.eval, List.length_cons] <;> rfl) (fun uE hCE => ?_)
      simp only [qz]
      refine rg_nil ?_
      refine ek_rr ?_
      refine rr_hard1 (i := 6) (f := 0) Kx rfl rfl ?_
      refine rf_not rfl rfl rfl ?_
      simp only [qz]
      refine rg_nil ?_
      refine ek_rr ?_
      refine rr_nil Kx ?_
      refine ek_next (wk_cond_f rfl (wk_skip (ek_block ?_)))
      refine ek_sub (List.Sublist.append_left ((sc _ (sc _ (sc _ (List.Sublist.refl _)))).trans (List.sublist_append_right _ _)) _) ?_
      refine ek_perm ((((List.Perm.refl _).append_left _).trans (List.perm_middle (l₁ := uE))).trans (((((List.Perm.refl _).append_left _).trans (List.perm_middle (l₁ := uE))).trans (((((List.Perm.refl _).append_left _).trans (List.perm_middle (l₁ := uE))).trans ((List.Perm.refl _).cons _)).cons _)).cons _)) ?_
      refine ek_roundEnd (Rep.here _) (fun w hw => ⟨_, rfl, ⟨uE, rfl, ?_⟩, hw⟩)
      have h := hCE
      rw [show (p : Int) - ((t : Nat) : Int) = ((p - t : Nat) : Int) by omega] at h
      simpa [List.append_assoc] using h
 have hpend : r2.pending = none := by subst hr2; rfl
 have hst : r2.state ≠ .busy := by (subst hr2; simp)
 clear hr2
 refine (IH t lq gm2 gp2 _ r2 _ [] _ w1 _ Ox (by simp) hR2 ⟨uC, rfl, by simpa using hC⟩ K3).mono ?_
 rintro e w2 ⟨rfl, sS, u2, ⟨uD, rfl, hCD⟩, hK⟩
 have K4 := Kn.effApp (v := (_ :: _ :: _ :: uC) ++ [_, _]) (rest := _) K2 hK
 simp only [List.cons_append, List.append_assoc, List.nil_append] at K4
 refine ⟨_, _, r2, _, rfl, K4, Rep.here _, hst, ?_⟩
 rw [hpend]
 simp only [List.nil_append] at hCD
 refine ek_block (ek_block (ek_next (wk_seq (wk_seq ?_))))
 refine wk_region [0] rfl Kx ?_
 simp only [qy]
 refine rf_load rfl rfl rfl UU3 rfl (fun w hw => (Kn.hd0 (Kn.tl (Kn.tl hw))).at rfl) ?_
 simp only [qz]
 refine rg_nil (ek_next ?_)
 refine wk_region [1, 1] rfl Kx ?_
 simp only [qy]
 refine Rgn fun g3 => ?_
 simp only [qz]
 refine rf_store rfl rfl Kx rfl rfl (UpdR.here _ _ _ Nl) Nz ?_
 simp only [qz]
 refine rg_nil (ek_next ?_)
 refine wk_region [0, 0, 1] rfl Kx ?_
 simp only [qy]
 refine rf_load rfl rfl rfl UU3 rfl (fun w hw => (Kn.hd0 hw).at rfl) ?_
 simp only [qz]
 refine rf_sub (r := (p : Int) - ((t + 1 : Nat) : Int)) rfl rfl rfl rfl (wrap_eq' Ox Ox Ox) ?_
 simp only [qz]
 refine rf_store rfl rfl Kx rfl rfl (UpdR.here _ _ _ Nl) Nz ?_
 simp only [qz]
 refine rg_nil ?_
 refine ek_sub (sc _ (sk _ (sc _ (sk _ (List.Sublist.append_left ((sc _ (sc _ (sc _ (List.Sublist.append_left sn _)))).trans (List.sublist_append_right _ _)) _))))) ?_
 refine ek_perm ((((perm_at (l := [_]) (perm_at (l := [_]) (List.Perm.refl _))).append_left _).cons _).cons _) ?_
 refine ek_roundD (p + 1 - (t + 1)) Ox Kx ?_
 exact ⟨t + 1, dd :: dl, uD, g3, rfl, rfl, rfl, rfl, by omega, (by have h := hCD; simpa [patsT, List.append_assoc] using h)⟩
theorem pat_all : ∀ m, m + 1 ≤ 6 → PatC (m + 1)
  | 0, _ => pat_one
  | m + 1, h => pat_step Ox (pat_all m Ox)
theorem pats_tab : ((List.range 7).all fun m => (List.range 6).all fun p => decide ((pats m p).length ≤ 1000)) = true := by kernel_rfl
theorem pats_small {m p : Nat} (hm : m ≤ 6) (hp : p ≤ 5) : (pats m p).length ≤ 1000 :=
  of_decide_eq_true (List.all_eq_true.1 (List.all_eq_true.1 pats_tab m (List.mem_range.2 Ox)) p (List.mem_range.2 Ox))
theorem appendSeq_any (m p : Nat) (hm : m + 1 ≤ 6) (hp : p ≤ 5) (gm gp : Nat) (w : World) (F : List Nat) (K : Kn w F [(gm, .cells #[.int .i64 ((m + 1 : Nat) : Int)] 3), (gp, .cells #[.int .i64 p] 3)] w) : Calls Tryz.prog 82 #[.slice none 0 0, .func (.func 83) #[] #[.pointer (some ⟨gm, 0, none⟩), .pointer (some ⟨gp, 0, none⟩)]] w fun e w' => ∃ v U, e = .returned v ∧ OwnL U v (pats (m + 1) p) ∧ Kn w F U w' := by
 have hsm := pats_small (m := m + 1) (p := p) Ox hp
 refine calls_marksF K Tryz.func82 rfl ?_
 simp only [Tryz.ntmps82, List.size_toArray, List.length_cons, List.length_nil, Nat.reduceAdd, Nat.reduceSub, Array.replicate_succ, Array.replicate_zero, List.push_toArray, List.append_toArray, List.nil_append, List.cons_append]
 refine wk_seq ?_
 refine wk_region [1, 0] rfl Kx ?_
 simp only [qy]
 refine Rgn fun g1 => ?_
 simp only [qz]
 refine rg_assign ?_
 simp only [qz]
 refine rg_nil (ek_next (wk_seq (wk_seq ?_)))
 refine wk_region [0] rfl Kx ?_
 simp only [qy]
 refine rg_move ?_
 simp only [qz]
 refine rg_nil (ek_next (wk_block ?_))
 refine wk_rangeFunc (f := 83) (caps := #[.pointer (some ⟨gm, 0, none⟩), .pointer (some ⟨gp, 0, none⟩)]) rfl Kx ?_
 intro fn dd lq w1 K1
 obtain ⟨r2, hr2⟩ := ex_loop K1
 rw [← hr2] at K1
 have K2 := K1.perm ((perm_at (l := [_]) (perm_at (l := [_]) (perm_at (l := [_]) (List.Perm.refl _)))).cons _)
 have K3 := Kn.self (v := (_ :: _ :: ([] : List Blk)) ++ [_, _]) (rest := [_]) K2
 have hR2 : RoundsP (pats (m + 1) p).length (m + 1) lq r2 (fun ys S => ∃ uT uS hs v, S = (lq, .loop r2) :: (g1, .cells #[v] 33) :: (uT ++ uS) ∧ Own 23 1 uT v ys.length hs ∧ RowsZ uS hs ys) := by
  subst hr2
  refine ⟨rfl, fun ys S ⟨_, _, _, _, e, _⟩ => by subst e; simp, ?_⟩
  intro R B F ys row uN v S uR w hl0 hl1 hyl ⟨uT, uS, hs, vT, hS, hOT, hRS⟩ hO K
  clear hl1
  subst hS
  simp only [List.cons_append, List.append_assoc] at K
  obtain ⟨av, cv, rfl, hcv⟩ := Own.val hO
  obtain ⟨aT, cT, rfl, hcT⟩ := Own.val hOT
  refine roundIn_kn (Rep.app _ (Rep.here _)) rfl ?_ K
  simp only [fold_zip1]
  simp only [qz]
  refine wk_region [0] rfl Kx ?_
  simp only [qy]
  refine rg_assign ?_
  simp only [qz]
  refine rg_nil ?_
  refine ek_asg ?_
  refine wk_block ?_
  refine wk_region [0, 0, 1, 1, 1] rfl Kx ?_
  simp only [qy]
  refine rf_load rfl rfl rfl UU33 rfl (fun w hw => (Kn.hd0 (Kn.tl (Kn.tlU hw))).at rfl) ?_
  simp only [qz]
  refine rg_move ?_
  simp only [qz]
  refine rg_newS (cs := ?_) (ty := ?_) (n := 1) (c := 1) Rx (fun w => ?_) Nz (fun g2 => ?_); rotate_left 2
  focus (go_simp; rfl)
  simp only [qz]
  refine rg_appL (h := .slice av row.length cv) Rx rfl hOT rfl Ox rfl ((((((((((List.Perm.refl _).cons _).trans (List.perm_middle (l₁ := uT)).symm).cons _).trans (List.perm_middle (l₁ := uT)).symm).append_left _).trans (List.perm_append_comm_assoc uN uT _)).cons _).trans (List.perm_middle (l₁ := uT)).symm).trans ((List.Perm.refl _).append_left _)) (fun w hw => Kn.hd0 hw) Nz (fun uP aP cP hOP => ?_)
  simp only [qz]
  refine rf_store rfl rfl Kx rfl rfl (UpdR.app _ (UpdR.there _ (UpdR.app _ (UpdR.there _ (UpdR.here _ _ _ Nl))))) Nz ?_
  simp only [qz]
  refine rg_nil (ek_block ?_)
  refine ek_sub (List.Sublist.append_left (sk _ (List.Sublist.append_left (sc _ (sc _ (List.Sublist.append_left (List.Sublist.refl _) _))) _)) _) ?_
  refine ek_perm ((((((List.Perm.refl _).append_left _).trans (List.perm_middle (l₁ := uN))).append_left _).trans (List.perm_middle (l₁ := uP))).trans (((((((List.Perm.refl _).append_left _).trans (List.perm_middle (l₁ := uN))).append_left _).trans (List.perm_middle (l₁ := uP))).trans ((List.Perm.refl _).cons _)).cons _)) ?_
  refine ek_roundEnd (Rep.here _) (fun w hw => ⟨_, rfl, ⟨uP, uN ++ uS, _, _, rfl, (by rw [List.length_append]; exact hOP), hRS.snoc hO⟩, ?_⟩)
  simpa [List.append_assoc] using hw
 have hpend : r2.pending = none := by subst hr2; rfl
 have hst : r2.state ≠ .busy := by (subst hr2; simp)
 clear hr2
 refine (pat_all m Ox p lq gm gp _ r2 _ [] _ w1 _ hp (by simp) hR2 ⟨[], [], [], _, rfl, Own.nil _ _, .nil⟩ K3).mono ?_
 rintro e w2 ⟨rfl, sS, u2, ⟨uT, uS, hs, vT, rfl, hOT, hRS⟩, hK⟩
 have K4 := Kn.effApp (v := (_ :: _ :: ([] : List Blk)) ++ [_, _]) (rest := [_]) K2 hK
 simp only [List.cons_append, List.append_assoc, List.nil_append] at K4
 refine ⟨_, _, r2, _, rfl, K4, Rep.here _, hst, ?_⟩
 rw [hpend]
 simp only [List.nil_append] at hOT hRS
 refine ek_block (ek_next (wk_seq ?_))
 refine wk_region [0, 0] rfl Kx ?_
 simp only [qy]
 refine rf_load rfl rfl rfl UU33 rfl (fun w hw => (Kn.hd0 (Kn.tl hw)).at rfl) ?_
 simp only [qz]
 refine rg_assign ?_
 simp only [qz]
 refine rg_nil (ek_next (wk_ret ?_))
 refine ek_sub (sk _ (sk _ (List.Sublist.append_left (List.Sublist.append_left ((sc _ sn).trans (List.sublist_append_right _ _)) _) _))) ?_
 refine ek_perm ((((((List.Perm.refl _).append_left _).trans (List.perm_middle (l₁ := uS))).append_left _).trans (List.perm_middle (l₁ := uT))).trans ((List.Perm.refl _).cons _)) ?_
 refine ek_retMn [dd] (fun w hw => ⟨_, res_t 4 rfl, ?_⟩)
 (try simp only [qz])
 exact ⟨vT, uT ++ uS, rfl, ⟨uT, uS, hs, rfl, hOT, hRS⟩, by simpa using hw⟩
theorem collect_any (m p : Nat) (hm : m + 1 ≤ 6) (hp : p ≤ 5) (gm gp : Nat) (w : World) (F : List Nat) (K : Kn w F [(gm, .cells #[.int .i64 ((m + 1 : Nat) : Int)] 3), (gp, .cells #[.int .i64 p] 3)] w) : Calls Tryz.prog 38 #[.func (.func 83) #[] #[.pointer (some ⟨gm, 0, none⟩), .pointer (some ⟨gp, 0, none⟩)]] w fun e w' => ∃ v U, e = .returned v ∧ OwnL U v (pats (m + 1) p) ∧ Kn w F U w' := by
 go_enter Tryz.func38, Tryz.ntmps38
 refine wk_startF K ?_
 refine wk_seq ?_
 refine wk_region [0] rfl Kx ?_
 simp only [qy]
 refine rg_assign ?_
 simp only [qz]
 refine rg_nil (ek_next (wk_seq ?_))
 refine wk_region [0, 1, 0] rfl Kx ?_
 simp only [qy]
 refine rg_move ?_
 simp only [qz]
 apply rg_call Rx Kx
 case hargs => exact Ax
 refine fun w2 hw => (appendSeq_any m p hm hp gm gp w2 [gm, gp] (Kn.self (v := [_, _]) (rest := []) (by simpa using hw))).mono ?_
 rintro e w3 ⟨v, U, rfl, hO, hK⟩
 have K2 := Kn.effApp (v := [_, _]) (rest := []) (by simpa using hw) hK
 refine ⟨v, U, rfl, by simpa using K2, Nz, ?_⟩
 simp only [qz]
 refine rg_assign ?_
 simp only [qz]
 refine rg_nil (ek_next (wk_ret ?_))
 refine ek_ret (fun w hw => ⟨rfl, _, res_t _ rfl, ?_⟩)
 (try simp only [qz])
 exact ⟨v, U, rfl, hO, hw⟩
def patR (m p : Int) : List (List Int) := if 1 ≤ m ∧ m ≤ 6 ∧ 0 ≤ p ∧ p ≤ 5 then pats m.toNat p.toNat else []
def patE (m p : Int) : Int := if 1 ≤ m ∧ m ≤ 6 ∧ 0 ≤ p ∧ p ≤ 5 then 0 else 2
theorem mpatterns_any (mi pi : Int) (w : World) : Calls Tryz.prog 9 #[.int .i64 mi, .int .i64 pi] w fun e w' => RetL w (patR mi pi) (patE mi pi) e w' := by
 go_enter Tryz.func9, Tryz.ntmps9
 refine wk_start ?_
 refine wk_seq ?_
 refine wk_region [0, 0] rfl Kx ?_
 simp only [qy]
 refine rg_assign ?_
 simp only [qz]
 refine rg_assign ?_
 simp only [qz]
 refine rg_nil (ek_next (wk_seq (wk_seq ?_)))
 refine wk_region [0, 0, 0, 0, 0, 0, 0, 0, 0, 0, 0, 0, 0, 0] rfl Kx ?_
 simp only [qy]
 refine rg_move ?_
 simp only [qz]
 refine rfb_lss rfl rfl rfl rfl ?_
 intro x h1
 cases x
 ·(try simp only [qd, ne_eq] at h1)
  simp only [qz]
  refine rg_move ?_
  simp only [qz]
  apply rg_soft_g
  case hg => rfl
  case hy => (intro w hw; go_simp; (try go_bits); exact Yld.mk _ _)
  simp only [qz]
  refine rfb_gtr rfl rfl rfl rfl ?_
  intro x h2
  cases x
  ·(try simp only [qd, ne_eq] at h2)
   simp only [qz]
   refine rf_pick rfl rfl rfl ?_
   simp only [qz]
   refine rg_move ?_
   simp only [qz]
   apply rg_soft_g
   case hg => rfl
   case hy => (intro w hw; go_simp; (try go_bits); exact Yld.mk _ _)
   simp only [qz]
   refine rfb_lss rfl rfl rfl rfl ?_
   intro x h3
   cases x
   ·(try simp only [qd, ne_eq] at h3)
    simp only [qz]
    refine rf_pick rfl rfl rfl ?_
    simp only [qz]
    refine rg_move ?_
    simp only [qz]
    apply rg_soft_g
    case hg => rfl
    case hy => (intro w hw; go_simp; (try go_bits); exact Yld.mk _ _)
    simp only [qz]
    refine rfb_gtr rfl rfl rfl rfl ?_
    intro x h4
    cases x
    ·(try simp only [qd, ne_eq] at h4)
     simp only [qz]
     refine rf_pick rfl rfl rfl ?_
     simp only [qz]
     refine rg_nil (ek_next (wk_cond_f rfl (wk_skip (ek_next (wk_seq ?_)))))
     refine wk_region [0, 0, 1, 1, 0, 0] rfl Kx ?_
     simp only [qy]
     refine rg_move ?_
     simp only [qz]
     refine rg_move ?_
     simp only [qz]
     obtain ⟨m, rfl⟩ : ∃ m : Nat, mi = ((m + 1 : Nat) : Int) := ⟨(mi - 1).toNat, by omega⟩
     obtain ⟨p, rfl⟩ : ∃ p : Nat, pi = p := ⟨pi.toNat, by omega⟩
     apply rg_made (T := fun v u => ∃ gm gp, v = .func (.func 83) #[] #[.pointer (some ⟨gm, 0, none⟩), .pointer (some ⟨gp, 0, none⟩)] ∧ u = [(gm, .cells #[.int .i64 ((m + 1 : Nat) : Int)] 3), (gp, .cells #[.int .i64 p] 3)]) Rx Kx
     case hargs => exact Ax
     case h => exact fun w hw => (patterns_any ((m + 1 : Nat) : Int) p w).mono (fun e w' ⟨gm, gp, he, hm⟩ => ⟨_, _, he, ⟨gm, gp, rfl, rfl⟩, hm⟩)
     case hz => exact Nz
     rintro _ _ ⟨gm, gp, rfl, rfl⟩
     simp only [List.cons_append, List.nil_append]
     simp only [qz]
     apply rg_call Rx Kx
     case hargs => exact Ax
     refine fun w2 hw => (collect_any m p Ox Ox gm gp w2 [gm, gp] (Kn.self (v := [_, _]) (rest := []) (by simpa using hw))).mono ?_
     rintro e w3 ⟨v, U, rfl, hO, hK⟩
     have K2 := Kn.effApp (v := [_, _]) (rest := []) (by simpa using hw) hK
     refine ⟨v, U, rfl, by simpa using K2, Nz, ?_⟩
     simp only [qz]
     refine rg_assign ?_
     simp only [qz]
     refine rg_assign ?_
     simp only [qz]
     refine rg_nil (ek_next (wk_ret ?_))
     refine ek_ret (fun w hw => ⟨rfl, _, res_tt _ _ rfl, ?_⟩)
     (try simp only [qz])
     exact ⟨v, U, by unfold patE; rw [if_pos Ox], (by unfold patR; rw [if_pos Ox]; exact hO), hw.made (List.Sublist.refl _)⟩
    (try simp only [qd, ne_eq] at h4)
    simp only [qz]
    refine rf_pick rfl rfl rfl ?_
    simp only [qz]
    refine rg_nil (ek_next (wk_cond_t rfl (wk_seq ?_)))
    refine wk_region [0, 0] rfl Kx ?_
    simp only [qy]
    refine rg_assign ?_
    simp only [qz]
    refine rg_assign ?_
    simp only [qz]
    refine rg_nil (ek_next (wk_ret (ek_then_ret ?_)))
    refine ek_ret (fun w hw => ⟨rfl, _, res_tt _ _ rfl, ?_⟩)
    (try simp only [qz])
    exact ⟨_, [], by unfold patE; rw [if_neg Ox], (by unfold patR; rw [if_neg Ox]; exact OwnL.nil), .nil hw.below⟩
   (try simp only [qd, ne_eq] at h3)
   simp only [qz]
   refine rf_pick rfl rfl rfl ?_
   simp only [qz]
   refine rg_move ?_
   simp only [qz]
   refine rg_skip Rx ?_
   simp only [qz]
   refine rg_skip Rx ?_
   simp only [qz]
   refine rf_pick rfl rfl rfl ?_
   simp only [qz]
   refine rg_nil (ek_next (wk_cond_t rfl (wk_seq ?_)))
   refine wk_region [0, 0] rfl Kx ?_
   simp only [qy]
   refine rg_assign ?_
   simp only [qz]
   refine rg_assign ?_
   simp only [qz]
   refine rg_nil (ek_next (wk_ret (ek_then_ret ?_)))
   refine ek_ret (fun w hw => ⟨rfl, _, res_tt _ _ rfl, ?_⟩)
   (try simp only [qz])
   exact ⟨_, [], by unfold patE; rw [if_neg Ox], (by unfold patR; rw [if_neg Ox]; exact OwnL.nil), .nil hw.below⟩
  (try simp only [qd, ne_eq] at h2)
  simp only [qz]
  refine rf_pick rfl rfl rfl ?_
  simp only [qz]
  refine rg_move ?_
  simp only [qz]
  refine rg_skip Rx ?_
  simp only [qz]
  refine rg_skip Rx ?_
  simp only [qz]
  refine rf_pick rfl rfl rfl ?_
  simp only [qz]
  refine rg_move ?_
  simp only [qz]
  refine rg_skip Rx ?_
  simp only [qz]
  refine rg_skip Rx ?_
  simp only [qz]
  refine rf_pick rfl rfl rfl ?_
  simp only [qz]
  refine rg_nil (ek_next (wk_cond_t rfl (wk_seq ?_)))
  refine wk_region [0, 0] rfl Kx ?_
  simp only [qy]
  refine rg_assign ?_
  simp only [qz]
  refine rg_assign ?_
  simp only [qz]
  refine rg_nil (ek_next (wk_ret (ek_then_ret ?_)))
  refine ek_ret (fun w hw => ⟨rfl, _, res_tt _ _ rfl, ?_⟩)
  (try simp only [qz])
  exact ⟨_, [], by unfold patE; rw [if_neg Ox], (by unfold patR; rw [if_neg Ox]; exact OwnL.nil), .nil hw.below⟩
 (try simp only [qd, ne_eq] at h1)
 simp only [qz]
 refine rg_move ?_
 simp only [qz]
 refine rg_skip Rx ?_
 simp only [qz]
 refine rg_skip Rx ?_
 simp only [qz]
 refine rf_pick rfl rfl rfl ?_
 simp only [qz]
 refine rg_move ?_
 simp only [qz]
 refine rg_skip Rx ?_
 simp only [qz]
 refine rg_skip Rx ?_
 simp only [qz]
 refine rf_pick rfl rfl rfl ?_
 simp only [qz]
 refine rg_move ?_
 simp only [qz]
 refine rg_skip Rx ?_
 simp only [qz]
 refine rg_skip Rx ?_
 simp only [qz]
 refine rf_pick rfl rfl rfl ?_
 simp only [qz]
 refine rg_nil (ek_next (wk_cond_t rfl (wk_seq ?_)))
 refine wk_region [0, 0] rfl Kx ?_
 simp only [qy]
 refine rg_assign ?_
 simp only [qz]
 refine rg_assign ?_
 simp only [qz]
 refine rg_nil (ek_next (wk_ret (ek_then_ret ?_)))
 refine ek_ret (fun w hw => ⟨rfl, _, res_tt _ _ rfl, ?_⟩)
 (try simp only [qz])
 exact ⟨_, [], by unfold patE; rw [if_neg Ox], (by unfold patR; rw [if_neg Ox]; exact OwnL.nil), .nil hw.below⟩
open Go.ChangeShapes Go.WideShapes Go.ChangeAt Go.RowKit
theorem its_of_each {Q : Nat → It → Prop} : ∀ n : Nat, (∀ i, i < n → ∃ x, Q i x) → ∃ xs : List It, xs.length = n ∧ ∀ i, i < n → Q i (it xs i)
  | 0, _ => ⟨[], rfl, fun i hi => by omega⟩
  | n + 1, h => by
    obtain ⟨xs, hl, hx⟩ := its_of_each n fun i hi => h i Ox
    obtain ⟨x, hq⟩ := h n Ox
    refine ⟨xs ++ [x], by simp [hl], fun i hi => ?_⟩
    by_cases e : i = n
    · subst e
      have : it (xs ++ [x]) i = x := by unfold it; rw [List.getD_eq_getElem?_getD, ← hl]; simp
      rw [this]; exact hq
    · have : it (xs ++ [x]) i = it xs i := by unfold it; rw [List.getD_eq_getElem?_getD, List.getD_eq_getElem?_getD, List.getElem?_append_left Ox]
      rw [this]; exact hx i Ox
theorem cellsIT : Tryz.prog.cellsOf 72 = 4 := by kernel_rfl
theorem cellsInt : Tryz.prog.cellsOf 3 = 1 := by kernel_rfl
theorem cellsStr : Tryz.prog.cellsOf 9 = 1 := by kernel_rfl
def ItWf (i : It) : Prop := (Lit.int .i64 i.kind).wf = true ∧ (Lit.int .i64 i.at_).wf = true ∧ (Lit.int .i64 i.n).wf = true ∧ i.name.size ≤ maxLen
theorem open_asT {H : Type} {enc : TypeId × Value → H} {W : World} {base : Nat} {v : Value} {d : DataW H} {p : List MemPlace}
    (hval : Value.okWide Tryz.prog W .any base 22 v) (h : DataW.Trod enc Tryz.prog W 0 (fun _ => true) true 22 v d p) (hlt : ∀ x ∈ p, x.block < W.heap.size) :
    ∃ (xs : List It) (a : Option Addr) (c : Nat), v = .slice a xs.length c ∧ AS W a (its xs) ∧ (∀ x ∈ xs, ItWf x) ∧ xs.length ≤ maxLen := by
  obtain ⟨a0, len, cap, rfl⟩ := okWide_slice UU22 hval
  obtain ⟨fuel, hf⟩ := h
  rcases Go.Deep.open_slice UU22 hf with ⟨hcs, hx⟩ | ⟨a, len', cap', m, n, D, Pl, hcs, _, hl, hm, hmm, hx, hel⟩
  · simp [Value.cells] at hcs
    obtain ⟨rfl, rfl, rfl⟩ := hcs
    exact ⟨[], none, 0, rfl, AS.nil, by simp, by simp⟩
  · simp [Value.cells] at hcs
    obtain ⟨rfl, rfl, rfl⟩ := hcs
    simp only [Prod.mk.injEq] at hx
    obtain ⟨rfl, rfl⟩ := hx
    simp only [if_true] at hmm
    subst hmm
    have each : ∀ i, i < len → ∃ x : It, (∀ r, r < 4 → W.cell? ((a.add (i * 4)).add r) = (itC x)[r]?) ∧ ItWf x := by
      intro i hi
      obtain ⟨cs', h1, h2⟩ := hel i Ox
      rw [cellsIT] at h1
      obtain ⟨_, hlen, hcell⟩ := World.cells?_some h1
      obtain ⟨y0, y1, y2, y3, k, _, hl4, t0, t1, t2, t3⟩ := Go.Joins.trod_struct4 UU72 h2
      match cs', hlen with
      | [v0, v1, v2, v3], _ =>
        simp only [cellsInt, cellsStr, List.drop_succ_cons, List.drop_zero, List.take_succ_cons, List.take_zero] at t0 t1 t2 t3
        obtain ⟨n0, e0, -, w0⟩ := DataW.trod_int UU3 t0
        obtain ⟨n1, e1, -, w1⟩ := DataW.trod_int UU3 t1
        obtain ⟨n2, e2, -, w2⟩ := DataW.trod_int UU3 t2
        obtain ⟨s3, e3, -, w3⟩ := DataW.trod_string Tryz.underlying9 t3
        simp only [List.cons.injEq, and_true] at e0 e1 e2 e3
        subst e0 e1 e2 e3
        exact ⟨⟨n0, n1, n2, s3⟩, fun r hr => hcell r hr, w0, w1, w2, w3⟩
    obtain ⟨xs, hxl, hxx⟩ := its_of_each len each
    subst hxl
    refine ⟨xs, some a, _, rfl, fun hne => ?_, fun x hx => ?_, by omega⟩
    · have h0 : 0 < xs.length := by
        rcases Nat.eq_zero_or_pos xs.length with h0 | h0
        · have := List.eq_nil_of_length_eq_zero h0; subst this; exact absurd rfl hne
        · exact h0
      obtain ⟨b, off, spot⟩ := a
      have hspot : spot = none := by
        have h1 := (hxx 0 h0).1 0 Ox
        have h2 : W.cell? (((⟨b, off, spot⟩ : Addr).add (0 * 4)).add 0) = some (.int .i64 (it xs 0).kind) := h1
        simpa [Addr.add] using World.cell?_spot h2
      subst hspot
      refine ⟨b, off, rfl, hlt (.cell b off) (List.mem_append_left _ (MemPlace.mem_row.2 ⟨0, by rw [cellsIT]; omega, by simp⟩)), fun j hj => ?_⟩; rw [its_len] at hj
      have h1 := (hxx (j / 4) Ox).1 (j % 4) (Nat.mod_lt _ Ox)
      have h2 := its_get xs (j / 4) (j % 4) Ox (Nat.mod_lt _ Ox)
      have e : j / 4 * 4 + j % 4 = j := by omega
      rw [e] at h2; rw [h2, ← h1]
      have e2 : ((⟨b, off, none⟩ : Addr).add (j / 4 * 4)).add (j % 4) = ⟨b, off + j, none⟩ := by
        have ap : ∀ o i : Nat, (⟨b, o, none⟩ : Addr).add i = ⟨b, o + i, none⟩ := fun o i => by simp [Addr.add]
        rw [ap, ap, show off + j / 4 * 4 + j % 4 = off + j by omega]
      rw [e2]
    · obtain ⟨j, hj, e⟩ := List.getElem_of_mem hx
      have : it xs j = x := by unfold it; rw [List.getD_eq_getElem?_getD, List.getElem?_eq_getElem hj]; exact e
      rw [← this]; exact (hxx j hj).2
namespace Mul64
theorem maskN (a : Nat) (ha : a < 18446744073709551616) : bits .and .u64 (a : Int) 4294967295 = ((a % 4294967296 : Nat) : Int) := by
 have h := bits_and_u64_nat a 4294967295 ha Ox
 have e : a &&& 4294967295 = a % 4294967296 := Nat.and_two_pow_sub_one_eq_mod a 32
 rw [e] at h
 exact h
theorem divN (a : Nat) : (a : Int) / 4294967296 = ((a / 4294967296 : Nat) : Int) := by omega
theorem mulN (a b : Nat) : (a : Int) * (b : Int) = ((a * b : Nat) : Int) := (Int.natCast_mul a b).symm
theorem addN (a b : Nat) : (a : Int) + (b : Int) = ((a + b : Nat) : Int) := (Int.natCast_add a b).symm
theorem wrapN (a : Nat) (ha : a < 18446744073709551616) : IntKind.u64.wrap (a : Int) = (a : Int) := by rw [IntKind.wrap_u64]; omega
theorem wrapM (a : Nat) : IntKind.u64.wrap (a : Int) = ((a % 18446744073709551616 : Nat) : Int) := by rw [IntKind.wrap_u64]; omega
end Mul64
theorem mul64_nat (x y : Nat) (hx : x < 18446744073709551616) (hy : y < 18446744073709551616) (w : World) :
    Calls Tryz.prog 155 #[.int .u64 x, .int .u64 y] w fun e w' => e = .returned (.tuple #[.int .u64 ((x * y / 18446744073709551616 : Nat) : Int), .int .u64 ((x * y % 18446744073709551616 : Nat) : Int)]) ∧ w = w' := by
  obtain ⟨bd, bt, bw, hhi⟩ := Lib.mul64_hi x y hx hy
  have ba := Lib.half_mul_le (a := x / 4294967296) (b := y / 4294967296) Ox Ox
  have bb := Lib.half_mul_le (a := x / 4294967296) (b := y % 4294967296) Ox Ox
  have bc := Lib.half_mul_le (a := x % 4294967296) (b := y / 4294967296) Ox Ox
  have ba' : x / 4294967296 * (y / 4294967296) < 18446744073709551616 := by omega
  have bb' : x / 4294967296 * (y % 4294967296) < 18446744073709551616 := by omega
  have bc' : x % 4294967296 * (y / 4294967296) < 18446744073709551616 := by omega
  have bh1 : x / 4294967296 * (y / 4294967296) + (x / 4294967296 * (y % 4294967296) + x % 4294967296 * (y % 4294967296) / 4294967296) / 4294967296 < 18446744073709551616 := by omega
  have bh : x / 4294967296 * (y / 4294967296) + (x / 4294967296 * (y % 4294967296) + x % 4294967296 * (y % 4294967296) / 4294967296) / 4294967296 + ((x / 4294967296 * (y % 4294967296) + x % 4294967296 * (y % 4294967296) / 4294967296) % 4294967296 + x % 4294967296 * (y / 4294967296)) / 4294967296 < 18446744073709551616 := by omega
  go_enter Tryz.func155, Tryz.ntmps155
  go_wp2
  simp only [Mul64.maskN x hx, Mul64.maskN y hy, Mul64.divN, Mul64.mulN, Mul64.addN, Mul64.wrapN _ bd, Mul64.wrapN _ bb', Mul64.wrapN _ bt, Mul64.maskN _ bt, Mul64.wrapN _ bc', Mul64.wrapN _ bw, Mul64.wrapN _ ba', Mul64.wrapN _ bh1, Mul64.wrapN _ bh, Mul64.wrapM (x * y)]; rw [hhi]
  go_ret2
  exact ⟨rfl, rfl⟩
theorem mul64_any (x y : Int) (hx0 : 0 ≤ x) (hx : x ≤ 18446744073709551615) (hy0 : 0 ≤ y) (hy : y ≤ 18446744073709551615) (w : World) :
    Calls Tryz.prog 155 #[.int .u64 x, .int .u64 y] w fun e w' => e = .returned (.tuple #[.int .u64 (x * y / 18446744073709551616), .int .u64 (x * y % 18446744073709551616)]) ∧ w = w' := by
  obtain ⟨a, rfl⟩ := Int.eq_ofNat_of_zero_le hx0
  obtain ⟨b, rfl⟩ := Int.eq_ofNat_of_zero_le hy0
  refine (mul64_nat a b Ox Ox w).mono fun e w' ⟨he, hw⟩ => ⟨?_, hw⟩
  rw [he]
  simp
abbrev w6V (x : W6) : Value := .agg #[.int .u64 x.w0, .int .u64 x.w1, .int .u64 x.w2, .int .u64 x.w3, .int .u64 x.w4, .int .u64 x.w5]
theorem same_pure {P : Program} {f : Nat} {args : Array Value} {w : World} {v : Value} (h : Calls P f args w (fun e w' => e = .returned v ∧ w = w')) : Calls P f args w (fun e w' => e = .returned v ∧ Below w.heap.size w w') :=
  h.mono (by rintro e w' ⟨rfl, rfl⟩; exact ⟨rfl, Below.refl _ _⟩)
theorem w6add_any (m n : Int) (w : World) : Calls Tryz.prog 144 #[w6V (W6.of m), w6V (W6.of n)] w fun e w' => e = .returned (w6V (W6.of (m + n))) ∧ Below w.heap.size w w' := by
 obtain ⟨⟨x0, x1, x2, x3, x4, x5⟩, hx⟩ : ∃ r, W6.of m = r := ⟨_, rfl⟩
 have wx := W6.of_wf m
 rw [hx] at wx
 obtain ⟨xa0, xb0, xa1, xb1, xa2, xb2, xa3, xb3, xa4, xb4, xa5, xb5⟩ := wx
 dsimp only at xa0 xb0 xa1 xb1 xa2 xb2 xa3 xb3 xa4 xb4 xa5 xb5
 obtain ⟨⟨y0, y1, y2, y3, y4, y5⟩, hy⟩ : ∃ r, W6.of n = r := ⟨_, rfl⟩
 have wy := W6.of_wf n
 rw [hy] at wy
 obtain ⟨ya0, yb0, ya1, yb1, ya2, yb2, ya3, yb3, ya4, yb4, ya5, yb5⟩ := wy
 dsimp only at ya0 yb0 ya1 yb1 ya2 yb2 ya3 yb3 ya4 yb4 ya5 yb5
 obtain ⟨s0, hs0⟩ : ∃ s, (x0 + y0 + 0) % 18446744073709551616 = s := ⟨_, rfl⟩
 obtain ⟨c0, hc0⟩ : ∃ s, (x0 + y0 + 0) / 18446744073709551616 = s := ⟨_, rfl⟩
 have hcc0 : 0 ≤ c0 ∧ c0 ≤ 1 := by omega
 have hss0 : 0 ≤ s0 ∧ s0 < 18446744073709551616 := by omega
 obtain ⟨s1, hs1⟩ : ∃ s, (x1 + y1 + c0) % 18446744073709551616 = s := ⟨_, rfl⟩
 obtain ⟨c1, hc1⟩ : ∃ s, (x1 + y1 + c0) / 18446744073709551616 = s := ⟨_, rfl⟩
 have hcc1 : 0 ≤ c1 ∧ c1 ≤ 1 := by omega
 have hss1 : 0 ≤ s1 ∧ s1 < 18446744073709551616 := by omega
 obtain ⟨s2, hs2⟩ : ∃ s, (x2 + y2 + c1) % 18446744073709551616 = s := ⟨_, rfl⟩
 obtain ⟨c2, hc2⟩ : ∃ s, (x2 + y2 + c1) / 18446744073709551616 = s := ⟨_, rfl⟩
 have hcc2 : 0 ≤ c2 ∧ c2 ≤ 1 := by omega
 have hss2 : 0 ≤ s2 ∧ s2 < 18446744073709551616 := by omega
 obtain ⟨s3, hs3⟩ : ∃ s, (x3 + y3 + c2) % 18446744073709551616 = s := ⟨_, rfl⟩
 obtain ⟨c3, hc3⟩ : ∃ s, (x3 + y3 + c2) / 18446744073709551616 = s := ⟨_, rfl⟩
 have hcc3 : 0 ≤ c3 ∧ c3 ≤ 1 := by omega
 have hss3 : 0 ≤ s3 ∧ s3 < 18446744073709551616 := by omega
 obtain ⟨s4, hs4⟩ : ∃ s, (x4 + y4 + c3) % 18446744073709551616 = s := ⟨_, rfl⟩
 obtain ⟨c4, hc4⟩ : ∃ s, (x4 + y4 + c3) / 18446744073709551616 = s := ⟨_, rfl⟩
 have hcc4 : 0 ≤ c4 ∧ c4 ≤ 1 := by omega
 have hss4 : 0 ≤ s4 ∧ s4 < 18446744073709551616 := by omega
 obtain ⟨s5, hs5⟩ : ∃ s, (x5 + y5 + c4) % 18446744073709551616 = s := ⟨_, rfl⟩
 obtain ⟨c5, hc5⟩ : ∃ s, (x5 + y5 + c4) / 18446744073709551616 = s := ⟨_, rfl⟩
 have hcc5 : 0 ≤ c5 ∧ c5 ≤ 1 := by omega
 have hss5 : 0 ≤ s5 ∧ s5 < 18446744073709551616 := by omega
 have heq : (⟨s0, s1, s2, s3, s4, s5⟩ : W6) = W6.of (m + n) := W6.add_eq (c0 := c0) (c1 := c1) (c2 := c2) (c3 := c3) (c4 := c4) (c5 := c5) ⟨by dsimp only; omega, by dsimp only; omega, by dsimp only; omega, by dsimp only; omega, by dsimp only; omega, by dsimp only; omega, by dsimp only; omega, by dsimp only; omega, by dsimp only; omega, by dsimp only; omega, by dsimp only; omega, by dsimp only; omega⟩ (by rw [hx, hy]; dsimp only; omega) (by rw [hx, hy]; dsimp only; omega) (by rw [hx, hy]; dsimp only; omega) (by rw [hx, hy]; dsimp only; omega) (by rw [hx, hy]; dsimp only; omega) (by rw [hx, hy]; dsimp only; omega)
 rw [hx, hy]
 replace heq := Lib.hid heq
 clear hx hy
 go_enter Tryz.func144, Tryz.ntmps144
 refine wk_start ?_
 refine wk_seq ?_
 refine Wr [1, 1, 1] ?_
 refine Rgn fun g1 => ?_
 simp only [qz]
 refine Rgn fun g2 => ?_
 simp only [qz]
 refine Rgn fun g3 => ?_
 simp only [qz]
 refine Zr ?_
 refine Wx [0] ?_
 refine Zr ?_
 refine Wx [0] ?_
 refine rg_nil (ek_next (wk_block ?_))
 refine wk_unroll 6 ?_
 refine wk_seq ?_
 refine Wr [0] ?_
 refine rf_lss (b := true) rfl rfl rfl rfl (by decide) (Nq ?_)
 refine Zr ?_
 refine Wx [0, 0] ?_
 refine rg_nil (ek_next ?_)
 refine wk_draws_m (hz1 := (sc _ (sc _ (sk _ sn)))) [(0, 0), (1, 0), (2, 0), (3, 0), (4, 0), (5, 0), (6, 0), (7, 0), (8, 1), (9, 0), (10, 0), (11, 3), (12, 0), (13, 2), (14, 0)] 13 Kx Kx (fun c d v a w h => by cases d <;> exact h) ?_
 simp only [List.map_cons, List.map_nil, List.getD_cons_zero, List.getD_cons_succ]
 refine Zx ?_
 refine Ia 0 1 0 UU166 ?_
 refine rf_load rfl rfl rfl UU140 rfl (fun w hw => (Kn.hd0 (Kn.tl (Kn.tl hw))).at rfl) (Zx ?_)
 refine Ia 0 1 0 UU166 ?_
 refine rf_load rfl rfl rfl UU140 rfl (fun w hw => (Kn.hd0 (Kn.tl hw)).at rfl) (Zx ?_)
 apply rg_ext Rx
 case hargs => exact Ax
 case h => exact fun w => run_Add64 x0 y0 0 s0 c0 Ox Ox Ox Ox hs0 hc0 w
 case hz => exact (fun _ h => by cases h; exact (sc _ (sc _ (sc _ sn))))
 refine Zx ?_
 refine Ia 0 1 0 UU166 ?_
 refine rf_storeM rfl rfl Kx rfl rfl (UpdR.there _ (UpdR.there _ (UpdR.here _ _ _ Nl))) (sc _ (sc _ (sk _ sn))) (Zx ?_)
 refine Zr ?_
 refine Wr [0, 0] ?_
 refine rf_add (r := 1) rfl rfl rfl rfl (by decide) (Zx ?_)
 refine Zr ?_
 refine Wr [0] ?_
 refine rf_lss (b := true) rfl rfl rfl rfl (by decide) (Nq ?_)
 refine Zr ?_
 refine Wx [0, 0] ?_
 refine rg_nil (ek_next ?_)
 refine wk_draws_m (hz1 := (sc _ (sc _ (sk _ sn)))) [(0, 0), (1, 0), (2, 0), (3, 0), (4, 0), (5, 0), (6, 0), (7, 0), (8, 1), (9, 0), (10, 0), (11, 3), (12, 0), (13, 2), (14, 0)] 13 Kx Kx (fun c d v a w h => by cases d <;> exact h) ?_
 simp only [List.map_cons, List.map_nil, List.getD_cons_zero, List.getD_cons_succ]
 refine Zx ?_
 refine Ia 1 1 1 UU166 ?_
 refine rf_load rfl rfl rfl UU140 rfl (fun w hw => (Kn.hd0 (Kn.tl (Kn.tl hw))).at rfl) (Zx ?_)
 refine Ia 1 1 1 UU166 ?_
 refine rf_load rfl rfl rfl UU140 rfl (fun w hw => (Kn.hd0 (Kn.tl hw)).at rfl) (Zx ?_)
 apply rg_ext Rx
 case hargs => exact Ax
 case h => exact fun w => run_Add64 x1 y1 c0 s1 c1 Ox Ox Ox Ox hs1 hc1 w
 case hz => exact (fun _ h => by cases h; exact (sc _ (sc _ (sc _ sn))))
 refine Zx ?_
 refine Ia 1 1 1 UU166 ?_
 refine rf_storeM rfl rfl Kx rfl rfl (UpdR.there _ (UpdR.there _ (UpdR.here _ _ _ Nl))) (sc _ (sc _ (sk _ sn))) (Zx ?_)
 refine Zr ?_
 refine Wr [0, 0] ?_
 refine rf_add (r := 2) rfl rfl rfl rfl (by decide) (Zx ?_)
 refine Zr ?_
 refine Wr [0] ?_
 refine rf_lss (b := true) rfl rfl rfl rfl (by decide) (Nq ?_)
 refine Zr ?_
 refine Wx [0, 0] ?_
 refine rg_nil (ek_next ?_)
 refine wk_draws_m (hz1 := (sc _ (sc _ (sk _ sn)))) [(0, 0), (1, 0), (2, 0), (3, 0), (4, 0), (5, 0), (6, 0), (7, 0), (8, 1), (9, 0), (10, 0), (11, 3), (12, 0), (13, 2), (14, 0)] 13 Kx Kx (fun c d v a w h => by cases d <;> exact h) ?_
 simp only [List.map_cons, List.map_nil, List.getD_cons_zero, List.getD_cons_succ]
 refine Zx ?_
 refine Ia 2 1 2 UU166 ?_
 refine rf_load rfl rfl rfl UU140 rfl (fun w hw => (Kn.hd0 (Kn.tl (Kn.tl hw))).at rfl) (Zx ?_)
 refine Ia 2 1 2 UU166 ?_
 refine rf_load rfl rfl rfl UU140 rfl (fun w hw => (Kn.hd0 (Kn.tl hw)).at rfl) (Zx ?_)
 apply rg_ext Rx
 case hargs => exact Ax
 case h => exact fun w => run_Add64 x2 y2 c1 s2 c2 Ox Ox Ox Ox hs2 hc2 w
 case hz => exact (fun _ h => by cases h; exact (sc _ (sc _ (sc _ sn))))
 refine Zx ?_
 refine Ia 2 1 2 UU166 ?_
 refine rf_storeM rfl rfl Kx rfl rfl (UpdR.there _ (UpdR.there _ (UpdR.here _ _ _ Nl))) (sc _ (sc _ (sk _ sn))) (Zx ?_)
 refine Zr ?_
 refine Wr [0, 0] ?_
 refine rf_add (r := 3) rfl rfl rfl rfl (by decide) (Zx ?_)
 refine Zr ?_
 refine Wr [0] ?_
 refine rf_lss (b := true) rfl rfl rfl rfl (by decide) (Nq ?_)
 refine Zr ?_
 refine Wx [0, 0] ?_
 refine rg_nil (ek_next ?_)
 refine wk_draws_m (hz1 := (sc _ (sc _ (sk _ sn)))) [(0, 0), (1, 0), (2, 0), (3, 0), (4, 0), (5, 0), (6, 0), (7, 0), (8, 1), (9, 0), (10, 0), (11, 3), (12, 0), (13, 2), (14, 0)] 13 Kx Kx (fun c d v a w h => by cases d <;> exact h) ?_
 simp only [List.map_cons, List.map_nil, List.getD_cons_zero, List.getD_cons_succ]
 refine Zx ?_
 refine Ia 3 1 3 UU166 ?_
 refine rf_load rfl rfl rfl UU140 rfl (fun w hw => (Kn.hd0 (Kn.tl (Kn.tl hw))).at rfl) (Zx ?_)
 refine Ia 3 1 3 UU166 ?_
 refine rf_load rfl rfl rfl UU140 rfl (fun w hw => (Kn.hd0 (Kn.tl hw)).at rfl) (Zx ?_)
 apply rg_ext Rx
 case hargs => exact Ax
 case h => exact fun w => run_Add64 x3 y3 c2 s3 c3 Ox Ox Ox Ox hs3 hc3 w
 case hz => exact (fun _ h => by cases h; exact (sc _ (sc _ (sc _ sn))))
 refine Zx ?_
 refine Ia 3 1 3 UU166 ?_
 refine rf_storeM rfl rfl Kx rfl rfl (UpdR.there _ (UpdR.there _ (UpdR.here _ _ _ Nl))) (sc _ (sc _ (sk _ sn))) (Zx ?_)
 refine Zr ?_
 refine Wr [0, 0] ?_
 refine rf_add (r := 4) rfl rfl rfl rfl (by decide) (Zx ?_)
 refine Zr ?_
 refine Wr [0] ?_
 refine rf_lss (b := true) rfl rfl rfl rfl (by decide) (Nq ?_)
 refine Zr ?_
 refine Wx [0, 0] ?_
 refine rg_nil (ek_next ?_)
 refine wk_draws_m (hz1 := (sc _ (sc _ (sk _ sn)))) [(0, 0), (1, 0), (2, 0), (3, 0), (4, 0), (5, 0), (6, 0), (7, 0), (8, 1), (9, 0), (10, 0), (11, 3), (12, 0), (13, 2), (14, 0)] 13 Kx Kx (fun c d v a w h => by cases d <;> exact h) ?_
 simp only [List.map_cons, List.map_nil, List.getD_cons_zero, List.getD_cons_succ]
 refine Zx ?_
 refine Ia 4 1 4 UU166 ?_
 refine rf_load rfl rfl rfl UU140 rfl (fun w hw => (Kn.hd0 (Kn.tl (Kn.tl hw))).at rfl) (Zx ?_)
 refine Ia 4 1 4 UU166 ?_
 refine rf_load rfl rfl rfl UU140 rfl (fun w hw => (Kn.hd0 (Kn.tl hw)).at rfl) (Zx ?_)
 apply rg_ext Rx
 case hargs => exact Ax
 case h => exact fun w => run_Add64 x4 y4 c3 s4 c4 Ox Ox Ox Ox hs4 hc4 w
 case hz => exact (fun _ h => by cases h; exact (sc _ (sc _ (sc _ sn))))
 refine Zx ?_
 refine Ia 4 1 4 UU166 ?_
 refine rf_storeM rfl rfl Kx rfl rfl (UpdR.there _ (UpdR.there _ (UpdR.here _ _ _ Nl))) (sc _ (sc _ (sk _ sn))) (Zx ?_)
 refine Zr ?_
 refine Wr [0, 0] ?_
 refine rf_add (r := 5) rfl rfl rfl rfl (by decide) (Zx ?_)
 refine Zr ?_
 refine Wr [0] ?_
 refine rf_lss (b := true) rfl rfl rfl rfl (by decide) (Nq ?_)
 refine Zr ?_
 refine Wx [0, 0] ?_
 refine rg_nil (ek_next ?_)
 refine wk_draws_m (hz1 := (sc _ (sc _ (sk _ sn)))) [(0, 0), (1, 0), (2, 0), (3, 0), (4, 0), (5, 0), (6, 0), (7, 0), (8, 1), (9, 0), (10, 0), (11, 3), (12, 0), (13, 2), (14, 0)] 13 Kx Kx (fun c d v a w h => by cases d <;> exact h) ?_
 simp only [List.map_cons, List.map_nil, List.getD_cons_zero, List.getD_cons_succ]
 refine Zx ?_
 refine Ia 5 1 5 UU166 ?_
 refine rf_load rfl rfl rfl UU140 rfl (fun w hw => (Kn.hd0 (Kn.tl (Kn.tl hw))).at rfl) (Zx ?_)
 refine Ia 5 1 5 UU166 ?_
 refine rf_load rfl rfl rfl UU140 rfl (fun w hw => (Kn.hd0 (Kn.tl hw)).at rfl) (Zx ?_)
 apply rg_ext Rx
 case hargs => exact Ax
 case h => exact fun w => run_Add64 x5 y5 c4 s5 c5 Ox Ox Ox Ox hs5 hc5 w
 case hz => exact (fun _ h => by cases h; exact (sc _ (sc _ (sc _ sn))))
 refine Zx ?_
 refine Ia 5 1 5 UU166 ?_
 refine rf_storeM rfl rfl Kx rfl rfl (UpdR.there _ (UpdR.there _ (UpdR.here _ _ _ Nl))) (sc _ (sc _ (sk _ sn))) (Zx ?_)
 refine Zr ?_
 refine Wr [0, 0] ?_
 refine rf_add (r := 6) rfl rfl rfl rfl (by decide) (Zx ?_)
 refine Zr ?_
 refine Wr [0] ?_
 refine rf_lss (b := false) rfl rfl rfl rfl (by decide) (Nq ?_)
 refine Zr ?_
 refine Wr [0, 1] ?_
 refine rf_loadR (n := 6) rfl rfl rfl UU166 rfl Kx (fun w hw => Kn.hd0 (Kn.tl (Kn.tl hw))) rfl rfl (Nq ?_)
 refine rf_storeR (n := 6) rfl rfl Kx rfl rfl (UpdR.here _ _ _ Nl) Nz (Nw ?_)
 refine Zr ?_
 refine ek_ret (fun w hw => ⟨rfl, _, run_results1 rfl rfl (Kn.hd0 hw) UU166 rfl Kx, ?_⟩)
 (try simp only [qz])
 exact ⟨by rw [← heq.out] <;> rfl, hw.below⟩
theorem w6neg_any (m : Int) (w : World) : Calls Tryz.prog 147 #[w6V (W6.of m)] w fun e w' => e = .returned (w6V (W6.of (-m))) ∧ Below w.heap.size w w' := by
 obtain ⟨⟨x0, x1, x2, x3, x4, x5⟩, hx⟩ : ∃ r, W6.of m = r := ⟨_, rfl⟩
 have wx := W6.of_wf m
 rw [hx] at wx
 obtain ⟨xa0, xb0, xa1, xb1, xa2, xb2, xa3, xb3, xa4, xb4, xa5, xb5⟩ := wx
 dsimp only at xa0 xb0 xa1 xb1 xa2 xb2 xa3 xb3 xa4 xb4 xa5 xb5
 obtain ⟨s0, hs0⟩ : ∃ s, (0 + 18446744073709551616 - x0 - 0) % 18446744073709551616 = s := ⟨_, rfl⟩
 obtain ⟨c0, hc0⟩ : ∃ s, (if 0 < x0 + 0 then (1 : Int) else 0) = s := ⟨_, rfl⟩
 have hcc0 : 0 ≤ c0 ∧ c0 ≤ 1 := by split at hc0 <;> omega
 have hss0 : 0 ≤ s0 ∧ s0 < 18446744073709551616 := by omega
 have hsc0 : s0 = 18446744073709551616 * c0 - x0 - 0 := by split at hc0 <;> omega
 obtain ⟨s1, hs1⟩ : ∃ s, (0 + 18446744073709551616 - x1 - c0) % 18446744073709551616 = s := ⟨_, rfl⟩
 obtain ⟨c1, hc1⟩ : ∃ s, (if 0 < x1 + c0 then (1 : Int) else 0) = s := ⟨_, rfl⟩
 have hcc1 : 0 ≤ c1 ∧ c1 ≤ 1 := by split at hc1 <;> omega
 have hss1 : 0 ≤ s1 ∧ s1 < 18446744073709551616 := by omega
 have hsc1 : s1 = 18446744073709551616 * c1 - x1 - c0 := by split at hc1 <;> omega
 obtain ⟨s2, hs2⟩ : ∃ s, (0 + 18446744073709551616 - x2 - c1) % 18446744073709551616 = s := ⟨_, rfl⟩
 obtain ⟨c2, hc2⟩ : ∃ s, (if 0 < x2 + c1 then (1 : Int) else 0) = s := ⟨_, rfl⟩
 have hcc2 : 0 ≤ c2 ∧ c2 ≤ 1 := by split at hc2 <;> omega
 have hss2 : 0 ≤ s2 ∧ s2 < 18446744073709551616 := by omega
 have hsc2 : s2 = 18446744073709551616 * c2 - x2 - c1 := by split at hc2 <;> omega
 obtain ⟨s3, hs3⟩ : ∃ s, (0 + 18446744073709551616 - x3 - c2) % 18446744073709551616 = s := ⟨_, rfl⟩
 obtain ⟨c3, hc3⟩ : ∃ s, (if 0 < x3 + c2 then (1 : Int) else 0) = s := ⟨_, rfl⟩
 have hcc3 : 0 ≤ c3 ∧ c3 ≤ 1 := by split at hc3 <;> omega
 have hss3 : 0 ≤ s3 ∧ s3 < 18446744073709551616 := by omega
 have hsc3 : s3 = 18446744073709551616 * c3 - x3 - c2 := by split at hc3 <;> omega
 obtain ⟨s4, hs4⟩ : ∃ s, (0 + 18446744073709551616 - x4 - c3) % 18446744073709551616 = s := ⟨_, rfl⟩
 obtain ⟨c4, hc4⟩ : ∃ s, (if 0 < x4 + c3 then (1 : Int) else 0) = s := ⟨_, rfl⟩
 have hcc4 : 0 ≤ c4 ∧ c4 ≤ 1 := by split at hc4 <;> omega
 have hss4 : 0 ≤ s4 ∧ s4 < 18446744073709551616 := by omega
 have hsc4 : s4 = 18446744073709551616 * c4 - x4 - c3 := by split at hc4 <;> omega
 obtain ⟨s5, hs5⟩ : ∃ s, (0 + 18446744073709551616 - x5 - c4) % 18446744073709551616 = s := ⟨_, rfl⟩
 obtain ⟨c5, hc5⟩ : ∃ s, (if 0 < x5 + c4 then (1 : Int) else 0) = s := ⟨_, rfl⟩
 have hcc5 : 0 ≤ c5 ∧ c5 ≤ 1 := by split at hc5 <;> omega
 have hss5 : 0 ≤ s5 ∧ s5 < 18446744073709551616 := by omega
 have hsc5 : s5 = 18446744073709551616 * c5 - x5 - c4 := by split at hc5 <;> omega
 have heq : (⟨s0, s1, s2, s3, s4, s5⟩ : W6) = W6.of (-m) := W6.neg_eq (c0 := c0) (c1 := c1) (c2 := c2) (c3 := c3) (c4 := c4) (c5 := c5) ⟨by dsimp only; omega, by dsimp only; omega, by dsimp only; omega, by dsimp only; omega, by dsimp only; omega, by dsimp only; omega, by dsimp only; omega, by dsimp only; omega, by dsimp only; omega, by dsimp only; omega, by dsimp only; omega, by dsimp only; omega⟩ (by rw [hx]; dsimp only; omega) (by rw [hx]; dsimp only; omega) (by rw [hx]; dsimp only; omega) (by rw [hx]; dsimp only; omega) (by rw [hx]; dsimp only; omega) (by rw [hx]; dsimp only; omega)
 rw [hx]
 replace heq := Lib.hid heq
 clear hx
 go_enter Tryz.func147, Tryz.ntmps147
 refine wk_start ?_
 refine wk_seq ?_
 refine Wr [1, 1] ?_
 refine Rgn fun g1 => ?_
 simp only [qz]
 refine Rgn fun g2 => ?_
 simp only [qz]
 refine Zr ?_
 refine Wx [0] ?_
 refine Zr ?_
 refine Wx [0] ?_
 refine rg_nil (ek_next (wk_block ?_))
 refine wk_unroll 6 ?_
 refine wk_seq ?_
 refine Wr [0] ?_
 refine rf_lss (b := true) rfl rfl rfl rfl (by decide) (Nq ?_)
 refine Zr ?_
 refine Wx [0, 0] ?_
 refine rg_nil (ek_next ?_)
 refine Wx [0, 0, 0, 0, 0, 1, 0, 0, 0, 0, 1, 0] ?_
 refine Ia 0 1 0 UU166 ?_
 refine rf_load rfl rfl rfl UU140 rfl (fun w hw => (Kn.hd0 (Kn.tl hw)).at rfl) (Zx ?_)
 apply rg_ext Rx
 case hargs => exact Ax
 case h => exact fun w => run_Sub64I 0 x0 0 s0 c0 Ox Ox Ox Ox Ox hs0 hc0 w
 case hz => exact Nz
 refine Zx ?_
 refine Ia 0 1 0 UU166 ?_
 refine rf_store rfl rfl Kx rfl rfl (UpdR.there _ (UpdR.here _ _ _ Nl)) Nz (Zx ?_)
 refine Zr ?_
 refine Wr [0, 0] ?_
 refine rf_add (r := 1) rfl rfl rfl rfl (by decide) (Zx ?_)
 refine Zr ?_
 refine Wr [0] ?_
 refine rf_lss (b := true) rfl rfl rfl rfl (by decide) (Nq ?_)
 refine Zr ?_
 refine Wx [0, 0] ?_
 refine rg_nil (ek_next ?_)
 refine Wx [0, 0, 0, 0, 0, 1, 0, 0, 0, 0, 1, 0] ?_
 refine Ia 1 1 1 UU166 ?_
 refine rf_load rfl rfl rfl UU140 rfl (fun w hw => (Kn.hd0 (Kn.tl hw)).at rfl) (Zx ?_)
 apply rg_ext Rx
 case hargs => exact Ax
 case h => exact fun w => run_Sub64I 0 x1 c0 s1 c1 Ox Ox Ox Ox Ox hs1 hc1 w
 case hz => exact Nz
 refine Zx ?_
 refine Ia 1 1 1 UU166 ?_
 refine rf_store rfl rfl Kx rfl rfl (UpdR.there _ (UpdR.here _ _ _ Nl)) Nz (Zx ?_)
 refine Zr ?_
 refine Wr [0, 0] ?_
 refine rf_add (r := 2) rfl rfl rfl rfl (by decide) (Zx ?_)
 refine Zr ?_
 refine Wr [0] ?_
 refine rf_lss (b := true) rfl rfl rfl rfl (by decide) (Nq ?_)
 refine Zr ?_
 refine Wx [0, 0] ?_
 refine rg_nil (ek_next ?_)
 refine Wx [0, 0, 0, 0, 0, 1, 0, 0, 0, 0, 1, 0] ?_
 refine Ia 2 1 2 UU166 ?_
 refine rf_load rfl rfl rfl UU140 rfl (fun w hw => (Kn.hd0 (Kn.tl hw)).at rfl) (Zx ?_)
 apply rg_ext Rx
 case hargs => exact Ax
 case h => exact fun w => run_Sub64I 0 x2 c1 s2 c2 Ox Ox Ox Ox Ox hs2 hc2 w
 case hz => exact Nz
 refine Zx ?_
 refine Ia 2 1 2 UU166 ?_
 refine rf_store rfl rfl Kx rfl rfl (UpdR.there _ (UpdR.here _ _ _ Nl)) Nz (Zx ?_)
 refine Zr ?_
 refine Wr [0, 0] ?_
 refine rf_add (r := 3) rfl rfl rfl rfl (by decide) (Zx ?_)
 refine Zr ?_
 refine Wr [0] ?_
 refine rf_lss (b := true) rfl rfl rfl rfl (by decide) (Nq ?_)
 refine Zr ?_
 refine Wx [0, 0] ?_
 refine rg_nil (ek_next ?_)
 refine Wx [0, 0, 0, 0, 0, 1, 0, 0, 0, 0, 1, 0] ?_
 refine Ia 3 1 3 UU166 ?_
 refine rf_load rfl rfl rfl UU140 rfl (fun w hw => (Kn.hd0 (Kn.tl hw)).at rfl) (Zx ?_)
 apply rg_ext Rx
 case hargs => exact Ax
 case h => exact fun w => run_Sub64I 0 x3 c2 s3 c3 Ox Ox Ox Ox Ox hs3 hc3 w
 case hz => exact Nz
 refine Zx ?_
 refine Ia 3 1 3 UU166 ?_
 refine rf_store rfl rfl Kx rfl rfl (UpdR.there _ (UpdR.here _ _ _ Nl)) Nz (Zx ?_)
 refine Zr ?_
 refine Wr [0, 0] ?_
 refine rf_add (r := 4) rfl rfl rfl rfl (by decide) (Zx ?_)
 refine Zr ?_
 refine Wr [0] ?_
 refine rf_lss (b := true) rfl rfl rfl rfl (by decide) (Nq ?_)
 refine Zr ?_
 refine Wx [0, 0] ?_
 refine rg_nil (ek_next ?_)
 refine Wx [0, 0, 0, 0, 0, 1, 0, 0, 0, 0, 1, 0] ?_
 refine Ia 4 1 4 UU166 ?_
 refine rf_load rfl rfl rfl UU140 rfl (fun w hw => (Kn.hd0 (Kn.tl hw)).at rfl) (Zx ?_)
 apply rg_ext Rx
 case hargs => exact Ax
 case h => exact fun w => run_Sub64I 0 x4 c3 s4 c4 Ox Ox Ox Ox Ox hs4 hc4 w
 case hz => exact Nz
 refine Zx ?_
 refine Ia 4 1 4 UU166 ?_
 refine rf_store rfl rfl Kx rfl rfl (UpdR.there _ (UpdR.here _ _ _ Nl)) Nz (Zx ?_)
 refine Zr ?_
 refine Wr [0, 0] ?_
 refine rf_add (r := 5) rfl rfl rfl rfl (by decide) (Zx ?_)
 refine Zr ?_
 refine Wr [0] ?_
 refine rf_lss (b := true) rfl rfl rfl rfl (by decide) (Nq ?_)
 refine Zr ?_
 refine Wx [0, 0] ?_
 refine rg_nil (ek_next ?_)
 refine Wx [0, 0, 0, 0, 0, 1, 0, 0, 0, 0, 1, 0] ?_
 refine Ia 5 1 5 UU166 ?_
 refine rf_load rfl rfl rfl UU140 rfl (fun w hw => (Kn.hd0 (Kn.tl hw)).at rfl) (Zx ?_)
 apply rg_ext Rx
 case hargs => exact Ax
 case h => exact fun w => run_Sub64I 0 x5 c4 s5 c5 Ox Ox Ox Ox Ox hs5 hc5 w
 case hz => exact Nz
 refine Zx ?_
 refine Ia 5 1 5 UU166 ?_
 refine rf_store rfl rfl Kx rfl rfl (UpdR.there _ (UpdR.here _ _ _ Nl)) Nz (Zx ?_)
 refine Zr ?_
 refine Wr [0, 0] ?_
 refine rf_add (r := 6) rfl rfl rfl rfl (by decide) (Zx ?_)
 refine Zr ?_
 refine Wr [0] ?_
 refine rf_lss (b := false) rfl rfl rfl rfl (by decide) (Nq ?_)
 refine Zr ?_
 refine Wr [0, 1] ?_
 refine rf_loadR (n := 6) rfl rfl rfl UU166 rfl Kx (fun w hw => Kn.hd0 (Kn.tl hw)) rfl rfl (Nq ?_)
 refine rf_storeR (n := 6) rfl rfl Kx rfl rfl (UpdR.here _ _ _ Nl) Nz (Nw ?_)
 refine Zr ?_
 refine ek_ret (fun w hw => ⟨rfl, _, run_results1 rfl rfl (Kn.hd0 hw) UU166 rfl Kx, ?_⟩)
 (try simp only [qz])
 exact ⟨by rw [← heq.out] <;> rfl, hw.below⟩
set_option maxHeartbeats 2000000 in
theorem w6times_pos (m n : Int) (h0 : 0 ≤ n) (h1 : n ≤ 9223372036854775807) (w : World) : Calls Tryz.prog 145 #[w6V (W6.of m), .int .i64 n] w fun e w' => e = .returned (w6V (W6.of (m * n))) ∧ Below w.heap.size w w' := by
 obtain ⟨⟨x0, x1, x2, x3, x4, x5⟩, hx⟩ : ∃ r, W6.of m = r := ⟨_, rfl⟩
 have wx := W6.of_wf m
 rw [hx] at wx
 obtain ⟨xa0, xb0, xa1, xb1, xa2, xb2, xa3, xb3, xa4, xb4, xa5, xb5⟩ := wx
 dsimp only at xa0 xb0 xa1 xb1 xa2 xb2 xa3 xb3 xa4 xb4 xa5 xb5
 have hp0 : 0 ≤ x0 * n ∧ x0 * n ≤ 18446744073709551615 * n := ⟨Int.mul_nonneg Ox h0, Int.mul_le_mul_of_nonneg_right Ox h0⟩
 have cm0 := mul64_any x0 n Ox Ox h0 Ox
 have hp1 : 0 ≤ x1 * n ∧ x1 * n ≤ 18446744073709551615 * n := ⟨Int.mul_nonneg Ox h0, Int.mul_le_mul_of_nonneg_right Ox h0⟩
 have cm1 := mul64_any x1 n Ox Ox h0 Ox
 have hp2 : 0 ≤ x2 * n ∧ x2 * n ≤ 18446744073709551615 * n := ⟨Int.mul_nonneg Ox h0, Int.mul_le_mul_of_nonneg_right Ox h0⟩
 have cm2 := mul64_any x2 n Ox Ox h0 Ox
 have hp3 : 0 ≤ x3 * n ∧ x3 * n ≤ 18446744073709551615 * n := ⟨Int.mul_nonneg Ox h0, Int.mul_le_mul_of_nonneg_right Ox h0⟩
 have cm3 := mul64_any x3 n Ox Ox h0 Ox
 have hp4 : 0 ≤ x4 * n ∧ x4 * n ≤ 18446744073709551615 * n := ⟨Int.mul_nonneg Ox h0, Int.mul_le_mul_of_nonneg_right Ox h0⟩
 have cm4 := mul64_any x4 n Ox Ox h0 Ox
 have hp5 : 0 ≤ x5 * n ∧ x5 * n ≤ 18446744073709551615 * n := ⟨Int.mul_nonneg Ox h0, Int.mul_le_mul_of_nonneg_right Ox h0⟩
 have cm5 := mul64_any x5 n Ox Ox h0 Ox
 obtain ⟨p0, hq0⟩ : ∃ p, x0 * n = p := ⟨_, rfl⟩
 rw [hq0] at hp0 cm0
 obtain ⟨g0, hg0⟩ : ∃ s, p0 / 18446744073709551616 = s := ⟨_, rfl⟩
 obtain ⟨l0, hl0⟩ : ∃ s, p0 % 18446744073709551616 = s := ⟨_, rfl⟩
 rw [hg0, hl0] at cm0
 replace cm0 := Lib.hid cm0
 obtain ⟨s0, hs0⟩ : ∃ s, (l0 + 0 + 0) % 18446744073709551616 = s := ⟨_, rfl⟩
 obtain ⟨c0, hc0⟩ : ∃ s, (l0 + 0 + 0) / 18446744073709551616 = s := ⟨_, rfl⟩
 obtain ⟨k0, hk0⟩ : ∃ s, g0 + c0 = s := ⟨_, rfl⟩
 have hkk0 : 0 ≤ k0 ∧ k0 ≤ n := by omega
 have hss0 : 0 ≤ s0 ∧ s0 < 18446744073709551616 := by omega
 obtain ⟨p1, hq1⟩ : ∃ p, x1 * n = p := ⟨_, rfl⟩
 rw [hq1] at hp1 cm1
 obtain ⟨g1, hg1⟩ : ∃ s, p1 / 18446744073709551616 = s := ⟨_, rfl⟩
 obtain ⟨l1, hl1⟩ : ∃ s, p1 % 18446744073709551616 = s := ⟨_, rfl⟩
 rw [hg1, hl1] at cm1
 replace cm1 := Lib.hid cm1
 obtain ⟨s1, hs1⟩ : ∃ s, (l1 + k0 + 0) % 18446744073709551616 = s := ⟨_, rfl⟩
 obtain ⟨c1, hc1⟩ : ∃ s, (l1 + k0 + 0) / 18446744073709551616 = s := ⟨_, rfl⟩
 obtain ⟨k1, hk1⟩ : ∃ s, g1 + c1 = s := ⟨_, rfl⟩
 have hkk1 : 0 ≤ k1 ∧ k1 ≤ n := by omega
 have hss1 : 0 ≤ s1 ∧ s1 < 18446744073709551616 := by omega
 obtain ⟨p2, hq2⟩ : ∃ p, x2 * n = p := ⟨_, rfl⟩
 rw [hq2] at hp2 cm2
 obtain ⟨g2, hg2⟩ : ∃ s, p2 / 18446744073709551616 = s := ⟨_, rfl⟩
 obtain ⟨l2, hl2⟩ : ∃ s, p2 % 18446744073709551616 = s := ⟨_, rfl⟩
 rw [hg2, hl2] at cm2
 replace cm2 := Lib.hid cm2
 obtain ⟨s2, hs2⟩ : ∃ s, (l2 + k1 + 0) % 18446744073709551616 = s := ⟨_, rfl⟩
 obtain ⟨c2, hc2⟩ : ∃ s, (l2 + k1 + 0) / 18446744073709551616 = s := ⟨_, rfl⟩
 obtain ⟨k2, hk2⟩ : ∃ s, g2 + c2 = s := ⟨_, rfl⟩
 have hkk2 : 0 ≤ k2 ∧ k2 ≤ n := by omega
 have hss2 : 0 ≤ s2 ∧ s2 < 18446744073709551616 := by omega
 obtain ⟨p3, hq3⟩ : ∃ p, x3 * n = p := ⟨_, rfl⟩
 rw [hq3] at hp3 cm3
 obtain ⟨g3, hg3⟩ : ∃ s, p3 / 18446744073709551616 = s := ⟨_, rfl⟩
 obtain ⟨l3, hl3⟩ : ∃ s, p3 % 18446744073709551616 = s := ⟨_, rfl⟩
 rw [hg3, hl3] at cm3
 replace cm3 := Lib.hid cm3
 obtain ⟨s3, hs3⟩ : ∃ s, (l3 + k2 + 0) % 18446744073709551616 = s := ⟨_, rfl⟩
 obtain ⟨c3, hc3⟩ : ∃ s, (l3 + k2 + 0) / 18446744073709551616 = s := ⟨_, rfl⟩
 obtain ⟨k3, hk3⟩ : ∃ s, g3 + c3 = s := ⟨_, rfl⟩
 have hkk3 : 0 ≤ k3 ∧ k3 ≤ n := by omega
 have hss3 : 0 ≤ s3 ∧ s3 < 18446744073709551616 := by omega
 obtain ⟨p4, hq4⟩ : ∃ p, x4 * n = p := ⟨_, rfl⟩
 rw [hq4] at hp4 cm4
 obtain ⟨g4, hg4⟩ : ∃ s, p4 / 18446744073709551616 = s := ⟨_, rfl⟩
 obtain ⟨l4, hl4⟩ : ∃ s, p4 % 18446744073709551616 = s := ⟨_, rfl⟩
 rw [hg4, hl4] at cm4
 replace cm4 := Lib.hid cm4
 obtain ⟨s4, hs4⟩ : ∃ s, (l4 + k3 + 0) % 18446744073709551616 = s := ⟨_, rfl⟩
 obtain ⟨c4, hc4⟩ : ∃ s, (l4 + k3 + 0) / 18446744073709551616 = s := ⟨_, rfl⟩
 obtain ⟨k4, hk4⟩ : ∃ s, g4 + c4 = s := ⟨_, rfl⟩
 have hkk4 : 0 ≤ k4 ∧ k4 ≤ n := by omega
 have hss4 : 0 ≤ s4 ∧ s4 < 18446744073709551616 := by omega
 obtain ⟨p5, hq5⟩ : ∃ p, x5 * n = p := ⟨_, rfl⟩
 rw [hq5] at hp5 cm5
 obtain ⟨g5, hg5⟩ : ∃ s, p5 / 18446744073709551616 = s := ⟨_, rfl⟩
 obtain ⟨l5, hl5⟩ : ∃ s, p5 % 18446744073709551616 = s := ⟨_, rfl⟩
 rw [hg5, hl5] at cm5
 replace cm5 := Lib.hid cm5
 obtain ⟨s5, hs5⟩ : ∃ s, (l5 + k4 + 0) % 18446744073709551616 = s := ⟨_, rfl⟩
 obtain ⟨c5, hc5⟩ : ∃ s, (l5 + k4 + 0) / 18446744073709551616 = s := ⟨_, rfl⟩
 obtain ⟨k5, hk5⟩ : ∃ s, g5 + c5 = s := ⟨_, rfl⟩
 have hkk5 : 0 ≤ k5 ∧ k5 ≤ n := by omega
 have hss5 : 0 ≤ s5 ∧ s5 < 18446744073709551616 := by omega
 have heq : (⟨s0, s1, s2, s3, s4, s5⟩ : W6) = W6.of (m * n) := W6.times_eq (c0 := k0) (c1 := k1) (c2 := k2) (c3 := k3) (c4 := k4) (c5 := k5) ⟨by dsimp only; omega, by dsimp only; omega, by dsimp only; omega, by dsimp only; omega, by dsimp only; omega, by dsimp only; omega, by dsimp only; omega, by dsimp only; omega, by dsimp only; omega, by dsimp only; omega, by dsimp only; omega, by dsimp only; omega⟩ (by rw [hx]; dsimp only; omega) (by rw [hx]; dsimp only; omega) (by rw [hx]; dsimp only; omega) (by rw [hx]; dsimp only; omega) (by rw [hx]; dsimp only; omega) (by rw [hx]; dsimp only; omega)
 rw [hx]
 replace heq := Lib.hid heq
 clear hx
 go_enter Tryz.func145, Tryz.ntmps145
 refine wk_start ?_
 refine wk_seq ?_
 refine Wr [1, 1] ?_
 refine Rgn fun g1 => ?_
 simp only [qz]
 refine Rgn fun g2 => ?_
 simp only [qz]
 refine Zr ?_
 refine Wx [0, 0] ?_
 refine rfb_lss rfl rfl rfl rfl ?_
 intro x h1
 obtain rfl : x = false := by (refine h1.symm.trans ?_; exact decide_eq_false Ox)
 clear h1
 simp only [qz]
 refine Zr ?_
 refine Wr [1] ?_
 refine Rgn fun g3 => ?_
 simp only [qz]
 refine Zr ?_
 refine Wx [0] ?_
 refine Zr ?_
 refine Wr [0, 0] ?_
 refine rf_loadR (n := 6) rfl rfl rfl UU166 rfl Kx (fun w hw => Kn.hd0 (Kn.tl (Kn.tl hw))) rfl rfl (Zx ?_)
 refine rg_nil (ek_next (wk_block ?_))
 refine wk_unroll 6 ?_
 refine wk_seq ?_
 refine Wr [0] ?_
 refine rf_lss (b := true) rfl rfl rfl rfl (by decide) (Nq ?_)
 refine Zr ?_
 refine Wx [0, 0, 0, 0] ?_
 refine Zk ?_
 refine Zr ?_
 refine Wx [0, 0, 0, 1, 0, 0, 0, 0, 0] ?_
 refine rf_conv rfl rfl rfl UU3 UU140 (wrap_okU Ox Ox) (Nq ?_)
 apply rg_pure Rx Kx
 case hargs => exact Ax
 case h => exact fun w hw => same_pure (cm0.out w)
 case hz => exact Nz
 refine Zx ?_
 refine Zr ?_
 refine Wx [0] ?_
 refine Zr ?_
 refine Wx [0, 0, 0, 1, 0, 0, 0, 0, 1, 0] ?_
 apply rg_ext Rx
 case hargs => exact Ax
 case h => exact fun w => run_Add64 l0 0 0 s0 c0 Ox Ox Ox Ox hs0 hc0 w
 case hz => exact Nz
 refine Zx ?_
 refine Ia 0 1 0 UU166 ?_
 refine rf_store rfl rfl Kx rfl rfl (UpdR.here _ _ _ Nl) Nz (Zx ?_)
 refine rg_nil (ek_next ?_)
 refine Wx [0, 0, 0, 0] ?_
 refine rf_add rfl rfl rfl rfl (wrap_okU Ox Ox) (Nq ?_)
 rw [hk0]
 refine Zx ?_
 refine Zr ?_
 refine Wr [0, 0] ?_
 refine rf_add (r := 1) rfl rfl rfl rfl (by decide) (Zx ?_)
 refine Zr ?_
 refine Wr [0] ?_
 refine rf_lss (b := true) rfl rfl rfl rfl (by decide) (Nq ?_)
 refine Zr ?_
 refine Wx [0, 0, 0, 0] ?_
 refine Zk ?_
 refine Zr ?_
 refine Wx [0, 0, 0, 1, 0, 0, 0, 0, 0] ?_
 refine rf_conv rfl rfl rfl UU3 UU140 (wrap_okU Ox Ox) (Nq ?_)
 apply rg_pure Rx Kx
 case hargs => exact Ax
 case h => exact fun w hw => same_pure (cm1.out w)
 case hz => exact Nz
 refine Zx ?_
 refine Zr ?_
 refine Wx [0] ?_
 refine Zr ?_
 refine Wx [0, 0, 0, 1, 0, 0, 0, 0, 1, 0] ?_
 apply rg_ext Rx
 case hargs => exact Ax
 case h => exact fun w => run_Add64 l1 k0 0 s1 c1 Ox Ox Ox Ox hs1 hc1 w
 case hz => exact Nz
 refine Zx ?_
 refine Ia 1 1 1 UU166 ?_
 refine rf_store rfl rfl Kx rfl rfl (UpdR.here _ _ _ Nl) Nz (Zx ?_)
 refine rg_nil (ek_next ?_)
 refine Wx [0, 0, 0, 0] ?_
 refine rf_add rfl rfl rfl rfl (wrap_okU Ox Ox) (Nq ?_)
 rw [hk1]
 refine Zx ?_
 refine Zr ?_
 refine Wr [0, 0] ?_
 refine rf_add (r := 2) rfl rfl rfl rfl (by decide) (Zx ?_)
 refine Zr ?_
 refine Wr [0] ?_
 refine rf_lss (b := true) rfl rfl rfl rfl (by decide) (Nq ?_)
 refine Zr ?_
 refine Wx [0, 0, 0, 0] ?_
 refine Zk ?_
 refine Zr ?_
 refine Wx [0, 0, 0, 1, 0, 0, 0, 0, 0] ?_
 refine rf_conv rfl rfl rfl UU3 UU140 (wrap_okU Ox Ox) (Nq ?_)
 apply rg_pure Rx Kx
 case hargs => exact Ax
 case h => exact fun w hw => same_pure (cm2.out w)
 case hz => exact Nz
 refine Zx ?_
 refine Zr ?_
 refine Wx [0] ?_
 refine Zr ?_
 refine Wx [0, 0, 0, 1, 0, 0, 0, 0, 1, 0] ?_
 apply rg_ext Rx
 case hargs => exact Ax
 case h => exact fun w => run_Add64 l2 k1 0 s2 c2 Ox Ox Ox Ox hs2 hc2 w
 case hz => exact Nz
 refine Zx ?_
 refine Ia 2 1 2 UU166 ?_
 refine rf_store rfl rfl Kx rfl rfl (UpdR.here _ _ _ Nl) Nz (Zx ?_)
 refine rg_nil (ek_next ?_)
 refine Wx [0, 0, 0, 0] ?_
 refine rf_add rfl rfl rfl rfl (wrap_okU Ox Ox) (Nq ?_)
 rw [hk2]
 refine Zx ?_
 refine Zr ?_
 refine Wr [0, 0] ?_
 refine rf_add (r := 3) rfl rfl rfl rfl (by decide) (Zx ?_)
 refine Zr ?_
 refine Wr [0] ?_
 refine rf_lss (b := true) rfl rfl rfl rfl (by decide) (Nq ?_)
 refine Zr ?_
 refine Wx [0, 0, 0, 0] ?_
 refine Zk ?_
 refine Zr ?_
 refine Wx [0, 0, 0, 1, 0, 0, 0, 0, 0] ?_
 refine rf_conv rfl rfl rfl UU3 UU140 (wrap_okU Ox Ox) (Nq ?_)
 apply rg_pure Rx Kx
 case hargs => exact Ax
 case h => exact fun w hw => same_pure (cm3.out w)
 case hz => exact Nz
 refine Zx ?_
 refine Zr ?_
 refine Wx [0] ?_
 refine Zr ?_
 refine Wx [0, 0, 0, 1, 0, 0, 0, 0, 1, 0] ?_
 apply rg_ext Rx
 case hargs => exact Ax
 case h => exact fun w => run_Add64 l3 k2 0 s3 c3 Ox Ox Ox Ox hs3 hc3 w
 case hz => exact Nz
 refine Zx ?_
 refine Ia 3 1 3 UU166 ?_
 refine rf_store rfl rfl Kx rfl rfl (UpdR.here _ _ _ Nl) Nz (Zx ?_)
 refine rg_nil (ek_next ?_)
 refine Wx [0, 0, 0, 0] ?_
 refine rf_add rfl rfl rfl rfl (wrap_okU Ox Ox) (Nq ?_)
 rw [hk3]
 refine Zx ?_
 refine Zr ?_
 refine Wr [0, 0] ?_
 refine rf_add (r := 4) rfl rfl rfl rfl (by decide) (Zx ?_)
 refine Zr ?_
 refine Wr [0] ?_
 refine rf_lss (b := true) rfl rfl rfl rfl (by decide) (Nq ?_)
 refine Zr ?_
 refine Wx [0, 0, 0, 0] ?_
 refine Zk ?_
 refine Zr ?_
 refine Wx [0, 0, 0, 1, 0, 0, 0, 0, 0] ?_
 refine rf_conv rfl rfl rfl UU3 UU140 (wrap_okU Ox Ox) (Nq ?_)
 apply rg_pure Rx Kx
 case hargs => exact Ax
 case h => exact fun w hw => same_pure (cm4.out w)
 case hz => exact Nz
 refine Zx ?_
 refine Zr ?_
 refine Wx [0] ?_
 refine Zr ?_
 refine Wx [0, 0, 0, 1, 0, 0, 0, 0, 1, 0] ?_
 apply rg_ext Rx
 case hargs => exact Ax
 case h => exact fun w => run_Add64 l4 k3 0 s4 c4 Ox Ox Ox Ox hs4 hc4 w
 case hz => exact Nz
 refine Zx ?_
 refine Ia 4 1 4 UU166 ?_
 refine rf_store rfl rfl Kx rfl rfl (UpdR.here _ _ _ Nl) Nz (Zx ?_)
 refine rg_nil (ek_next ?_)
 refine Wx [0, 0, 0, 0] ?_
 refine rf_add rfl rfl rfl rfl (wrap_okU Ox Ox) (Nq ?_)
 rw [hk4]
 refine Zx ?_
 refine Zr ?_
 refine Wr [0, 0] ?_
 refine rf_add (r := 5) rfl rfl rfl rfl (by decide) (Zx ?_)
 refine Zr ?_
 refine Wr [0] ?_
 refine rf_lss (b := true) rfl rfl rfl rfl (by decide) (Nq ?_)
 refine Zr ?_
 refine Wx [0, 0, 0, 0] ?_
 refine Zk ?_
 refine Zr ?_
 refine Wx [0, 0, 0, 1, 0, 0, 0, 0, 0] ?_
 refine rf_conv rfl rfl rfl UU3 UU140 (wrap_okU Ox Ox) (Nq ?_)
 apply rg_pure Rx Kx
 case hargs => exact Ax
 case h => exact fun w hw => same_pure (cm5.out w)
 case hz => exact Nz
 refine Zx ?_
 refine Zr ?_
 refine Wx [0] ?_
 refine Zr ?_
 refine Wx [0, 0, 0, 1, 0, 0, 0, 0, 1, 0] ?_
 apply rg_ext Rx
 case hargs => exact Ax
 case h => exact fun w => run_Add64 l5 k4 0 s5 c5 Ox Ox Ox Ox hs5 hc5 w
 case hz => exact Nz
 refine Zx ?_
 refine Ia 5 1 5 UU166 ?_
 refine rf_store rfl rfl Kx rfl rfl (UpdR.here _ _ _ Nl) Nz (Zx ?_)
 refine rg_nil (ek_next ?_)
 refine Wx [0, 0, 0, 0] ?_
 refine rf_add rfl rfl rfl rfl (wrap_okU Ox Ox) (Nq ?_)
 rw [hk5]
 refine Zx ?_
 refine Zr ?_
 refine Wr [0, 0] ?_
 refine rf_add (r := 6) rfl rfl rfl rfl (by decide) (Zx ?_)
 refine Zr ?_
 refine Wr [0] ?_
 refine rf_lss (b := false) rfl rfl rfl rfl (by decide) (Nq ?_)
 refine Zr ?_
 refine Wr [0, 1] ?_
 refine rf_loadR (n := 6) rfl rfl rfl UU166 rfl Kx (fun w hw => Kn.hd0 hw) rfl rfl (Nq ?_)
 refine rf_storeR (n := 6) rfl rfl Kx rfl rfl (UpdR.there _ (UpdR.here _ _ _ Nl)) Nz (Nw ?_)
 refine Zr ?_
 refine ek_ret (fun w hw => ⟨rfl, _, run_results1 rfl rfl (Kn.hd0 (Kn.tl hw)) UU166 rfl Kx, ?_⟩)
 (try simp only [qz])
 exact ⟨by rw [← heq.out] <;> rfl, hw.below⟩
theorem w6times_neg (m n : Int) (h0 : n < 0) (h1 : -9223372036854775807 ≤ n) (w : World) : Calls Tryz.prog 145 #[w6V (W6.of m), .int .i64 n] w fun e w' => e = .returned (w6V (W6.of (m * n))) ∧ Below w.heap.size w w' := by
 go_enter Tryz.func145, Tryz.ntmps145
 refine wk_start ?_
 refine wk_seq ?_
 refine Wr [1, 1] ?_
 refine Rgn fun g1 => ?_
 simp only [qz]
 refine Rgn fun g2 => ?_
 simp only [qz]
 refine Zr ?_
 refine Wx [0, 0] ?_
 refine rfb_lss rfl rfl rfl rfl ?_
 intro x h1
 obtain rfl : x = true := by (refine h1.symm.trans ?_; exact decide_eq_true Ox)
 clear h1
 simp only [qz]
 refine Zr ?_
 refine Wr [0, 1, 0, 0, 1, 1] ?_
 refine rf_loadR (n := 6) rfl rfl rfl UU166 rfl Kx (fun w hw => Kn.hd0 (Kn.tl hw)) rfl rfl (Nq ?_)
 apply rg_pure Rx Kx
 case hargs => exact Ax
 case h => exact fun w hw => w6neg_any m w
 case hz => exact Nz
 refine Zx ?_
 refine rf_neg rfl rfl rfl (wrap_ok Ox Ox) (Nq ?_)
 apply rg_pure Rx Kx
 case hargs => exact Ax
 case h => exact fun w hw => w6times_pos (-m) (-n) Ox Ox w
 case hz => exact Nz
 simp only [qz]
 refine rf_storeR (n := 6) rfl rfl Kx rfl rfl (UpdR.here _ _ _ Nl) Nz (Nw ?_)
 refine Zr ?_
 refine ek_ret (fun w hw => ⟨rfl, _, run_results1 rfl rfl (Kn.hd0 hw) UU166 rfl Kx, ?_⟩)
 (try simp only [qz])
 exact ⟨by rw [show -m * -n = m * n by grind], hw.below⟩
theorem w6times_any (m n : Int) (h0 : -9223372036854775807 ≤ n) (h1 : n ≤ 9223372036854775807) (w : World) : Calls Tryz.prog 145 #[w6V (W6.of m), .int .i64 n] w fun e w' => e = .returned (w6V (W6.of (m * n))) ∧ Below w.heap.size w w' := by
 rcases Int.lt_or_le n 0 with h | h
 ·exact w6times_neg m n h h0 w
 exact w6times_pos m n h h1 w
theorem w6whole_any (n : Int) (h0 : -9223372036854775808 ≤ n) (h1 : n < 9223372036854775808) (w : World) : Calls Tryz.prog 133 #[.int .i64 n] w fun e w' => e = .returned (w6V (W6.of n)) ∧ Below w.heap.size w w' := by
 go_enter Tryz.func133, Tryz.ntmps133
 refine wk_start ?_
 refine wk_seq ?_
 refine Wr [1] ?_
 refine Rgn fun g1 => ?_
 simp only [qz]
 refine Zr ?_
 refine Wx [0, 0, 0, 1, 1] ?_
 refine rf_conv rfl rfl rfl UU3 UU140 (IntKind.wrap_u64 _) (Nq ?_)
 refine rf_build (cs := fun a => #[a.eval (.tmp 6), .int .u64 0, .int .u64 0, .int .u64 0, .int .u64 0, .int .u64 0]) rfl rfl Kx (Nq ?_)
 refine Rgn fun g2 => ?_
 simp only [qz]
 refine rf_storeR (n := 6) rfl rfl Kx rfl rfl (UpdR.here _ _ _ Nl) Nz (Nw ?_)
 refine Zr ?_
 refine Wx [0, 0] ?_
 refine rfb_lss rfl rfl rfl rfl ?_
 rintro (_ | _) h1 <;> try simp only [qd, ne_eq] at h1
 ·simp only [qz]
  refine Zr ?_; refine Wr [0, 1] ?_; refine rf_loadR (n := 6) rfl rfl rfl UU166 rfl Kx (fun w hw => Kn.hd0 hw) rfl rfl (Nq ?_); refine rf_storeR (n := 6) rfl rfl Kx rfl rfl (UpdR.there _ (UpdR.here _ _ _ Nl)) Nz (Nw ?_); refine Zr ?_; refine ek_ret (fun w hw => ⟨rfl, _, run_results1 rfl rfl (Kn.hd0 (Kn.tl hw)) UU166 rfl Kx, ?_⟩); (try simp only [qz])
  exact ⟨by rw [W6.of_whole Ox Ox]; simp [*]; try omega, hw.below⟩
 simp only [qz]
 refine Zr ?_
 refine Wx [0] ?_
 refine rg_nil (ek_next (wk_block ?_))
 refine wk_unroll 6 ?_
 refine wk_seq (wk_seq ?_)
 refine Wx [0, 0] ?_
 refine rf_lss (b := true) rfl rfl rfl rfl (by decide) (Nq ?_)
 refine Zr ?_
 refine Wx [0, 0, 1] ?_
 refine Ia 1 1 1 UU166 ?_
 refine rf_store rfl rfl Kx rfl rfl (UpdR.here _ _ _ Nl) Nz (Nq ?_)
 refine Zr ?_
 refine Wx [0, 0, 0] ?_
 refine rf_add (r := 2) rfl rfl rfl rfl (by decide) (Zx ?_)
 refine Zr ?_
 refine Wx [0, 0] ?_
 refine rf_lss (b := true) rfl rfl rfl rfl (by decide) (Nq ?_)
 refine Zr ?_
 refine Wx [0, 0, 1] ?_
 refine Ia 2 1 2 UU166 ?_
 refine rf_store rfl rfl Kx rfl rfl (UpdR.here _ _ _ Nl) Nz (Nq ?_)
 refine Zr ?_
 refine Wx [0, 0, 0] ?_
 refine rf_add (r := 3) rfl rfl rfl rfl (by decide) (Zx ?_)
 refine Zr ?_
 refine Wx [0, 0] ?_
 refine rf_lss (b := true) rfl rfl rfl rfl (by decide) (Nq ?_)
 refine Zr ?_
 refine Wx [0, 0, 1] ?_
 refine Ia 3 1 3 UU166 ?_
 refine rf_store rfl rfl Kx rfl rfl (UpdR.here _ _ _ Nl) Nz (Nq ?_)
 refine Zr ?_
 refine Wx [0, 0, 0] ?_
 refine rf_add (r := 4) rfl rfl rfl rfl (by decide) (Zx ?_)
 refine Zr ?_
 refine Wx [0, 0] ?_
 refine rf_lss (b := true) rfl rfl rfl rfl (by decide) (Nq ?_)
 refine Zr ?_
 refine Wx [0, 0, 1] ?_
 refine Ia 4 1 4 UU166 ?_
 refine rf_store rfl rfl Kx rfl rfl (UpdR.here _ _ _ Nl) Nz (Nq ?_)
 refine Zr ?_
 refine Wx [0, 0, 0] ?_
 refine rf_add (r := 5) rfl rfl rfl rfl (by decide) (Zx ?_)
 refine Zr ?_
 refine Wx [0, 0] ?_
 refine rf_lss (b := true) rfl rfl rfl rfl (by decide) (Nq ?_)
 refine Zr ?_
 refine Wx [0, 0, 1] ?_
 refine Ia 5 1 5 UU166 ?_
 refine rf_store rfl rfl Kx rfl rfl (UpdR.here _ _ _ Nl) Nz (Nq ?_)
 refine Zr ?_
 refine Wx [0, 0, 0] ?_
 refine rf_add (r := 6) rfl rfl rfl rfl (by decide) (Zx ?_)
 refine Zr ?_
 refine Wx [0, 0] ?_
 refine rf_lss (b := false) rfl rfl rfl rfl (by decide) (Nq ?_)
 refine Zr ?_
 refine Wr [0, 1] ?_
 refine rf_loadR (n := 6) rfl rfl rfl UU166 rfl Kx (fun w hw => Kn.hd0 hw) rfl rfl (Nq ?_)
 refine rf_storeR (n := 6) rfl rfl Kx rfl rfl (UpdR.there _ (UpdR.here _ _ _ Nl)) Nz (Nw ?_)
 refine Zr ?_
 refine ek_ret (fun w hw => ⟨rfl, _, run_results1 rfl rfl (Kn.hd0 (Kn.tl hw)) UU166 rfl Kx, ?_⟩)
 (try simp only [qz])
 exact ⟨by rw [W6.of_whole Ox Ox]; simp [*]; try omega, hw.below⟩
abbrev w6L (x : W6) : List Value := [.int .u64 x.w0, .int .u64 x.w1, .int .u64 x.w2, .int .u64 x.w3, .int .u64 x.w4, .int .u64 x.w5]
def smC (T : Nat → Int) : Array Value := (w6L (W6.of (T 0)) ++ (w6L (W6.of (T 1)) ++ (w6L (W6.of (T 2)) ++ w6L (W6.of (T 3))))).toArray
theorem sm_row {w : World} {g t m : Nat} {T : Nat → Int} (h : Hd w g t (smC T)) (hm : m < 4) : w.rangeAt g (0 + m * 6) (w6L (W6.of (T m))) := by
 have := cells_range h (0 + m * 6) 6
 have e : ((smC T).toList.drop (0 + m * 6)).take 6 = w6L (W6.of (T m)) := by
  rcases lt4 hm with rfl | rfl | rfl | rfl <;> rfl
 rwa [e] at this
theorem sm_idx {m : Nat} {T : Nat → Int} (hm : m < 4) : (smC T).extract (m * 6) (m * 6 + 6) = (w6L (W6.of (T m))).toArray := by
 rcases lt4 hm with rfl | rfl | rfl | rfl <;> rfl
theorem smX0 (x0 x1 x2 x3 y : W6) : setMany (w6L x0 ++ (w6L x1 ++ (w6L x2 ++ w6L x3))).toArray 0 (w6L y) = (w6L y ++ (w6L x1 ++ (w6L x2 ++ w6L x3))).toArray := by kernel_rfl
theorem smX1 (x0 x1 x2 x3 y : W6) : setMany (w6L x0 ++ (w6L x1 ++ (w6L x2 ++ w6L x3))).toArray 6 (w6L y) = (w6L x0 ++ (w6L y ++ (w6L x2 ++ w6L x3))).toArray := by kernel_rfl
theorem smX2 (x0 x1 x2 x3 y : W6) : setMany (w6L x0 ++ (w6L x1 ++ (w6L x2 ++ w6L x3))).toArray 12 (w6L y) = (w6L x0 ++ (w6L x1 ++ (w6L y ++ w6L x3))).toArray := by kernel_rfl
theorem smX3 (x0 x1 x2 x3 y : W6) : setMany (w6L x0 ++ (w6L x1 ++ (w6L x2 ++ w6L x3))).toArray 18 (w6L y) = (w6L x0 ++ (w6L x1 ++ (w6L x2 ++ w6L y))).toArray := by kernel_rfl
theorem sm_set {m : Nat} {T : Nat → Int} {t : Int} (hm : m < 4) : setMany (smC T) (0 + m * 6) (w6L (W6.of t)) = smC (upd T m t) := by
 unfold smC
 rcases lt4 hm with rfl | rfl | rfl | rfl
 ·rw [upd_same, upd_other T t (show 1 ≠ 0 by decide), upd_other T t (show 2 ≠ 0 by decide), upd_other T t (show 3 ≠ 0 by decide)]; exact smX0 ..
 ·rw [upd_same, upd_other T t (show 0 ≠ 1 by decide), upd_other T t (show 2 ≠ 1 by decide), upd_other T t (show 3 ≠ 1 by decide)]; exact smX1 ..
 ·rw [upd_same, upd_other T t (show 0 ≠ 2 by decide), upd_other T t (show 1 ≠ 2 by decide), upd_other T t (show 3 ≠ 2 by decide)]; exact smX2 ..
 rw [upd_same, upd_other T t (show 0 ≠ 3 by decide), upd_other T t (show 1 ≠ 3 by decide), upd_other T t (show 2 ≠ 3 by decide)]; exact smX3 ..
theorem sm_set' {m : Nat} {T : Nat → Int} {t : Int} (hm : m < 4) : ((((((smC T).setIfInBounds (0 + m * 6) (.int .u64 (W6.of t).w0)).setIfInBounds (0 + m * 6 + 1) (.int .u64 (W6.of t).w1)).setIfInBounds (0 + m * 6 + 1 + 1) (.int .u64 (W6.of t).w2)).setIfInBounds (0 + m * 6 + 1 + 1 + 1) (.int .u64 (W6.of t).w3)).setIfInBounds
    (0 + m * 6 + 1 + 1 + 1 + 1) (.int .u64 (W6.of t).w4)).setIfInBounds (0 + m * 6 + 1 + 1 + 1 + 1 + 1) (.int .u64 (W6.of t).w5) = smC (upd T m t) := by rw [← sm_set hm]; simp only [setMany]
theorem w6_zero : W6.of 0 = ⟨0, 0, 0, 0, 0, 0⟩ := by decide
theorem sm_zero : (#[.int .u64 0, .int .u64 0, .int .u64 0, .int .u64 0, .int .u64 0, .int .u64 0, .int .u64 0, .int .u64 0, .int .u64 0, .int .u64 0, .int .u64 0, .int .u64 0, .int .u64 0, .int .u64 0, .int .u64 0, .int .u64 0, .int .u64 0, .int .u64 0, .int .u64 0, .int .u64 0, .int .u64 0, .int .u64 0, .int .u64 0, .int .u64 0] : Array Value) = smC (fun _ => 0) := by
 unfold smC
 rw [w6_zero]
 rfl
theorem sm_all {w : World} {g t : Nat} {T : Nat → Int} (h : Hd w g t (smC T)) : w.rangeAt g 0 (smC T).toList := by
 have := cells_range h 0 24
 have e : ((smC T).toList.drop 0).take 24 = (smC T).toList := rfl
 rwa [e] at this
theorem smC_congr {T T' : Nat → Int} (h : ∀ m, m < 4 → T m = T' m) : smC T = smC T' := by
 unfold smC
 rw [h 0 (by decide), h 1 (by decide), h 2 (by decide), h 3 (by decide)]
def pls (X Y : Nat → Int) (i m : Nat) : Int := if m < i then X m + Y m else X m
theorem pls_step (X Y : Nat → Int) (i : Nat) : upd (pls X Y i) i (X i + Y i) = pls X Y (i + 1) := by
 funext m
 unfold upd pls
 by_cases h : m = i
 ·subst h; rw [if_pos rfl, if_pos Ox]
 rw [if_neg h]
 by_cases h2 : m < i
 ·rw [if_pos h2, if_pos Ox]
 rw [if_neg h2, if_neg Ox]
theorem pls_at (X Y : Nat → Int) (i : Nat) : pls X Y i i = X i := if_neg Ox
theorem pls_0 (X Y : Nat → Int) : pls X Y 0 = X := by funext m; exact if_neg Ox
theorem pls_4 (X Y : Nat → Int) : smC (pls X Y 4) = smC (fun m => X m + Y m) := smC_congr fun m hm => if_pos hm
theorem sm_whole {T : Nat → Int} : setMany (#[.int .u64 0, .int .u64 0, .int .u64 0, .int .u64 0, .int .u64 0, .int .u64 0, .int .u64 0, .int .u64 0, .int .u64 0, .int .u64 0, .int .u64 0, .int .u64 0, .int .u64 0, .int .u64 0, .int .u64 0, .int .u64 0, .int .u64 0, .int .u64 0, .int .u64 0, .int .u64 0, .int .u64 0, .int .u64 0, .int .u64 0, .int .u64 0] : Array Value) 0 (smC T).toList = smC T := by kernel_rfl
theorem smplus_any (X Y : Nat → Int) (w : World) : Calls Tryz.prog 126 #[.agg (smC X), .agg (smC Y)] w fun e w' => e = .returned (.agg (smC (fun m => X m + Y m))) ∧ Below w.heap.size w w' := by
 rw [show smC X = smC (pls X Y 0) by rw [pls_0]]
 go_enter Tryz.func126, Tryz.ntmps126
 refine wk_start ?_
 refine wk_seq ?_
 refine Wr [1, 1, 1] ?_
 refine Rgn fun g1 => ?_
 simp only [qz]
 refine Rgn fun g2 => ?_
 simp only [qz]
 refine Rgn fun g3 => ?_
 simp only [qz]
 refine Zr ?_
 refine Wm [0] ?_
 refine Zr ?_
 refine wk_loopF [5, 6, 7, 8, 9, 10, 11, 12, 13, 14, 15, 16, 17, 18] (fun mz f s => ∃ (i : Nat), f 6 = .int .i64 i ∧ s = ((g3, .cells #[.int .u64 0, .int .u64 0, .int .u64 0, .int .u64 0, .int .u64 0, .int .u64 0, .int .u64 0, .int .u64 0, .int .u64 0, .int .u64 0, .int .u64 0, .int .u64 0, .int .u64 0, .int .u64 0, .int .u64 0, .int .u64 0, .int .u64 0, .int .u64 0, .int .u64 0, .int .u64 0, .int .u64 0, .int .u64 0, .int .u64 0, .int .u64 0] 168) :: ((g2, .cells (smC Y) 168) :: ((g1, .cells (smC (pls X Y i)) 168) :: []))) ∧ mz = 4 - i ∧ i ≤ 4) ((fun (i : Nat) => 4 - i) (0)) ?_ Kx ?_
 ·exact ⟨0, rfl, rfl, rfl, by omega⟩
 rintro mz f1 s ⟨i, hs1_6, rfl, hn, hd1⟩
 simp only [Act.putF, List.foldl_cons, List.foldl_nil, hs1_6, Act.put, Act.eval, qW, Nat.reduceAdd, Bool.not_true, Bool.not_false]
 clear hs1_6
 refine wk_seq ?_
 refine Wr [0] ?_
 refine rfb_lss rfl rfl rfl rfl ?_
 rintro (_ | _) h1 <;> try simp only [qd, ne_eq] at h1
 ·simp only [qz]
  refine Zr ?_
  obtain rfl : i = 4 := by omega
  refine Wr [0, 1] ?_; refine rf_loadC (n := 24) (vs := (smC (pls X Y 4)).toList) rfl rfl rfl UU168 rfl Kx rfl (fun w hw => sm_all (Kn.hd0 (Kn.tl (Kn.tl hw)))) (Nq ?_); refine rf_storeR (n := 24) (vs := (smC (pls X Y 4)).toList) rfl rfl Kx rfl rfl (UpdR.here _ _ _ Nl) Nz ?_; rw [sm_whole]; simp only [qz]; refine Zr ?_; refine ek_ret (fun w hw => ⟨rfl, _, run_results1 rfl rfl (Kn.hd0 hw) UU168 rfl Kx, ?_⟩)
  (try simp only [qz])
  exact ⟨by rw [← pls_4], hw.below⟩
 simp only [qz]
 refine Zr ?_
 refine Wm [0, 0] ?_
 refine rg_nil (ek_next ?_)
 refine wk_draws_m (hz1 := (sc _ (sc _ (sk _ sn)))) [(0, 0), (1, 0), (2, 0), (3, 0), (4, 0), (5, 0), (6, 0), (7, 1), (8, 0), (9, 2)] 9 Kx Kx (fun c d v a w h => by cases d <;> exact h) ?_
 simp only [List.map_cons, List.map_nil, List.getD_cons_zero, List.getD_cons_succ]
 refine Zm ?_
 refine rf_indexA (n := i) (sz := 6) (j := 0 + i * 6) rfl rfl rfl rfl UU168 Kx Ox rfl (Nq ?_)
 refine rf_loadC (n := 6) (vs := w6L (W6.of ((pls X Y i) i))) rfl rfl rfl UU166 rfl Kx rfl (fun w hw => sm_row (Kn.hd0 (Kn.tl (Kn.tl hw))) Ox) (Zm ?_)
 refine rf_indexA (n := i) (sz := 6) (j := 0 + i * 6) rfl rfl rfl rfl UU168 Kx Ox rfl (Nq ?_)
 refine rf_loadC (n := 6) (vs := w6L (W6.of (Y i))) rfl rfl rfl UU166 rfl Kx rfl (fun w hw => sm_row (Kn.hd0 (Kn.tl hw)) Ox) (Nq ?_)
 apply rg_pure Rx Kx
 case hargs => exact Ax
 case h => exact fun w hw => by have := w6add_any (pls X Y i i) (Y i) w; rw [pls_at] at this; rw [pls_at]; exact this
 case hz => exact (fun _ h => by cases h; exact (sc _ (sc _ (sc _ sn))))
 simp only [qz]
 refine rf_indexA (n := i) (sz := 6) (j := 0 + i * 6) rfl rfl rfl rfl UU168 Kx Ox rfl (Nq ?_)
 refine rf_storeRM (n := 6) (vs := w6L (W6.of (X i + Y i))) rfl rfl Kx rfl rfl (UpdR.there _ (UpdR.there _ (UpdR.here _ _ _ (show 0 + i * 6 + 6 ≤ 24 by omega)))) (sc _ (sc _ (sk _ sn))) (Nw ?_)
 refine Zr ?_
 refine Wr [0, 0] ?_
 refine rf_add rfl rfl rfl rfl (wrap_ok Ox Ox) (Zm ?_)
 refine rg_nil ?_
 refine ek_roundF (4 - (i + 1)) Ox Kx ?_
 exact ⟨i + 1, rfl, (by rw [sm_set' Ox, pls_step]), by rfl, by omega⟩
theorem ar_idx {Y : Nat → Int} {k : Nat} (h : k < 4) : (#[.int .i64 (Y 0), .int .i64 (Y 1), .int .i64 (Y 2), .int .i64 (Y 3)] : Array Value)[k]? = some (.int .i64 (Y k)) := by
 rcases lt4 h with rfl | rfl | rfl | rfl <;> rfl
theorem smtimes_any (X Y : Nat → Int) (hY : ∀ k, k < 4 → -9223372036854775807 ≤ Y k ∧ Y k ≤ 9223372036854775807) (w : World) : Calls Tryz.prog 127 #[.agg (smC X), .agg #[.int .i64 (Y 0), .int .i64 (Y 1), .int .i64 (Y 2), .int .i64 (Y 3)]] w fun e w' => e = .returned (.agg (smC (acc X Y 16))) ∧ Below w.heap.size w w' := by
 go_enter Tryz.func127, Tryz.ntmps127
 refine wk_start ?_
 refine wk_seq ?_
 refine Wr [1, 1, 1] ?_
 refine Rgn fun g1 => ?_
 simp only [qz]
 refine Rgn fun g2 => ?_
 simp only [qz]
 refine Rgn fun g3 => ?_
 simp only [qz]
 refine Zr ?_
 refine Wr [1] ?_
 refine Rgn fun g4 => ?_
 simp only [qz]
 refine Zr ?_
 have hz24 := sm_zero
 rw [show ([(g4, Obj.cells (#[.int .u64 0, .int .u64 0, .int .u64 0, .int .u64 0, .int .u64 0, .int .u64 0, .int .u64 0, .int .u64 0, .int .u64 0, .int .u64 0, .int .u64 0, .int .u64 0, .int .u64 0, .int .u64 0, .int .u64 0, .int .u64 0, .int .u64 0, .int .u64 0, .int .u64 0, .int .u64 0, .int .u64 0, .int .u64 0, .int .u64 0, .int .u64 0]) 168), (g3, Obj.cells (#[.int .u64 0, .int .u64 0, .int .u64 0, .int .u64 0, .int .u64 0, .int .u64 0, .int .u64 0, .int .u64 0, .int .u64 0, .int .u64 0, .int .u64 0, .int .u64 0, .int .u64 0, .int .u64 0, .int .u64 0, .int .u64 0, .int .u64 0, .int .u64 0, .int .u64 0, .int .u64 0, .int .u64 0, .int .u64 0, .int .u64 0, .int .u64 0]) 168), (g2, Obj.cells (#[.int .i64 (Y 0), .int .i64 (Y 1), .int .i64 (Y 2), .int .i64 (Y 3)]) 42), (g1, Obj.cells (smC X) 168)] : List Blk) = [(g4, Obj.cells (smC fun _ => 0) 168), (g3, Obj.cells (#[.int .u64 0, .int .u64 0, .int .u64 0, .int .u64 0, .int .u64 0, .int .u64 0, .int .u64 0, .int .u64 0, .int .u64 0, .int .u64 0, .int .u64 0, .int .u64 0, .int .u64 0, .int .u64 0, .int .u64 0, .int .u64 0, .int .u64 0, .int .u64 0, .int .u64 0, .int .u64 0, .int .u64 0, .int .u64 0, .int .u64 0, .int .u64 0]) 168), (g2, Obj.cells (#[.int .i64 (Y 0), .int .i64 (Y 1), .int .i64 (Y 2), .int .i64 (Y 3)]) 42), (g1, Obj.cells (smC X) 168)] from congrArg (fun c => [(g4, Obj.cells c 168), (g3, Obj.cells (#[.int .u64 0, .int .u64 0, .int .u64 0, .int .u64 0, .int .u64 0, .int .u64 0, .int .u64 0, .int .u64 0, .int .u64 0, .int .u64 0, .int .u64 0, .int .u64 0, .int .u64 0, .int .u64 0, .int .u64 0, .int .u64 0, .int .u64 0, .int .u64 0, .int .u64 0, .int .u64 0, .int .u64 0, .int .u64 0, .int .u64 0, .int .u64 0]) 168), (g2, Obj.cells (#[.int .i64 (Y 0), .int .i64 (Y 1), .int .i64 (Y 2), .int .i64 (Y 3)]) 42), (g1, Obj.cells (smC X) 168)]) hz24]
 clear hz24
 refine Wr [0, 0] ?_
 refine rf_loadC (n := 24) (vs := (smC X).toList) rfl rfl rfl UU168 rfl Kx rfl (fun w hw => sm_all (Kn.hd0 (Kn.tl (Kn.tl (Kn.tl hw))))) ?_
 rw [show (smC X).toList.toArray = smC X by simp]
 refine Zm ?_
 refine Zr ?_
 refine wk_loopF [6, 7, 8, 9, 11, 12, 13, 14, 15, 16, 17, 18, 19, 20, 21, 22, 23, 24, 25, 26, 27, 28, 29, 30, 31, 32, 33, 34, 35, 36, 37, 38, 39, 40, 41, 42] (fun mz f s => ∃ (i : Nat) (T : Nat → Int), f 11 = .int .i64 i ∧ s = ((g4, .cells (smC T) 168) :: ((g3, .cells #[.int .u64 0, .int .u64 0, .int .u64 0, .int .u64 0, .int .u64 0, .int .u64 0, .int .u64 0, .int .u64 0, .int .u64 0, .int .u64 0, .int .u64 0, .int .u64 0, .int .u64 0, .int .u64 0, .int .u64 0, .int .u64 0, .int .u64 0, .int .u64 0, .int .u64 0, .int .u64 0, .int .u64 0, .int .u64 0, .int .u64 0, .int .u64 0] 168) :: ((g2, .cells #[.int .i64 (Y 0), .int .i64 (Y 1), .int .i64 (Y 2), .int .i64 (Y 3)] 42) :: ((g1, .cells (smC X) 168) :: [])))) ∧ mz = 4 - i ∧ i ≤ 4 ∧ Hid (acc X Y (i * 4) = T)) ((fun (i : Nat) (T : Nat → Int) => 4 - i) (0) (fun _ => 0)) ?_ Kx ?_
 ·exact ⟨0, fun _ => 0, rfl, rfl, rfl, by omega, (Lib.hid rfl)⟩
 rintro mz f1 s ⟨i, T, hs1_11, rfl, hn, hd1, hd2⟩
 simp only [Act.putF, List.foldl_cons, List.foldl_nil, hs1_11, Act.put, Act.eval, qW, Nat.reduceAdd, Bool.not_true, Bool.not_false]
 clear hs1_11
 have hac := hd2
 clear hd2
 refine wk_seq ?_
 refine Wr [0] ?_
 refine rfb_lss rfl rfl rfl rfl ?_
 rintro (_ | _) h1 <;> try simp only [qd, ne_eq] at h1
 ·simp only [qz]
  refine Zr ?_
  obtain rfl : i = 4 := by omega
  refine Wr [0, 1] ?_; refine rf_loadC (n := 24) (vs := (smC T).toList) rfl rfl rfl UU168 rfl Kx rfl (fun w hw => sm_all (Kn.hd0 hw)) (Nq ?_); refine rf_storeR (n := 24) (vs := (smC T).toList) rfl rfl Kx rfl rfl (UpdR.there _ (UpdR.here _ _ _ Nl)) Nz ?_; rw [sm_whole]; simp only [qz]; refine Zr ?_; refine ek_ret (fun w hw => ⟨rfl, _, run_results1 rfl rfl (Kn.hd0 (Kn.tl hw)) UU168 rfl Kx, ?_⟩)
  (try simp only [qz])
  exact ⟨by rw [show acc X Y 16 = T from hac.out], hw.below⟩
 simp only [qz]
 refine Zr ?_
 refine Wm [0, 0, 1, 0, 1] ?_
 refine rf_idxR (n := i) (sz := 6) rfl rfl rfl rfl UU168 UU166 rfl Kx Ox (sm_idx Ox) (Nq ?_)
 refine Rgn fun g5 => ?_
 refine Zm ?_
 refine rf_storeR (n := 6) rfl rfl Kx rfl rfl (UpdR.here _ _ _ Nl) Nz (Nw ?_)
 refine Zr ?_
 refine Wr [0, 0] ?_
 refine rf_loadR (n := 4) rfl rfl rfl UU42 rfl Kx (fun w hw => Kn.hd0 (Kn.tl (Kn.tl (Kn.tl hw)))) rfl rfl (Zm ?_)
 refine Zr ?_
 refine wk_loopF [8, 9, 16, 17, 18, 19, 20, 21, 22, 23, 24, 25, 26, 27, 28, 29, 30, 31, 32, 33, 34, 35, 36, 37, 38, 39, 40, 41] (fun mz f s => ∃ (k : Nat) (T2 : Nat → Int), f 16 = .int .i64 k ∧ s = ((g5, .cells (w6L (W6.of (X i))).toArray 166) :: ((g4, .cells (smC T2) 168) :: ((g3, .cells #[.int .u64 0, .int .u64 0, .int .u64 0, .int .u64 0, .int .u64 0, .int .u64 0, .int .u64 0, .int .u64 0, .int .u64 0, .int .u64 0, .int .u64 0, .int .u64 0, .int .u64 0, .int .u64 0, .int .u64 0, .int .u64 0, .int .u64 0, .int .u64 0, .int .u64 0, .int .u64 0, .int .u64 0, .int .u64 0, .int .u64 0, .int .u64 0] 168) :: ((g2, .cells #[.int .i64 (Y 0), .int .i64 (Y 1), .int .i64 (Y 2), .int .i64 (Y 3)] 42) :: ((g1, .cells (smC X) 168) :: []))))) ∧ mz = 4 - k ∧ k ≤ 4 ∧ Hid (acc X Y (i * 4 + k) = T2)) ((fun (k : Nat) (T2 : Nat → Int) => 4 - k) (0) (T)) ?_ Kx ?_
 ·exact ⟨0, T, rfl, rfl, rfl, by omega, hac⟩
 rintro mz f2 s ⟨k, T2, hs2_16, rfl, hn, he1, he2⟩
 simp only [Act.putF, List.foldl_cons, List.foldl_nil, hs2_16, Act.put, Act.eval, qW, Nat.reduceAdd, Bool.not_true, Bool.not_false]
 clear hs2_16
 have hac2 := he2
 clear he2
 refine wk_seq ?_
 refine Wr [0] ?_
 refine rfb_lss rfl rfl rfl rfl ?_
 rintro (_ | _) h2 <;> try simp only [qd, ne_eq] at h2
 ·simp only [qz]
  refine Zr ?_; refine Wr [0, 0] ?_; refine rf_add rfl rfl rfl rfl (wrap_ok Ox Ox) (Zm ?_); refine rg_nil ?_
  obtain rfl : k = 4 := by omega
  have hac' : acc X Y ((i + 1) * 4) = T2 := by rw [← hac2.out]; congr 1; omega
  refine ek_sub (sk _ (sc _ (sc _ (sc _ (sc _ sn))))) ?_; refine ek_roundF (4 - (i + 1)) Ox Kx ?_
  exact ⟨i + 1, T2, rfl, by rfl, by rfl, Ox, (Lib.hid hac')⟩
 simp only [qz]
 have hyk := hY k Ox
 refine Zr ?_
 refine Wm [0, 0, 0, 0] ?_
 refine rf_idx1 (n := k) rfl rfl rfl rfl UU42 UU3 rfl Kx Ox (ar_idx Ox) (Zm ?_)
 refine Zr ?_
 refine Wm [0, 0, 0, 0] ?_
 refine rf_add rfl rfl rfl rfl (wrap_ok Ox Ox) (Nq ?_)
 refine rfb_geq rfl rfl rfl rfl ?_
 rintro (_ | _) h3 <;> try simp only [qd, ne_eq] at h3
 ·simp only [qz]
  refine Zr ?_; refine wk_draws_m (hz1 := (sc _ (sk _ (sc _ (sc _ (sc _ sn)))))) [(0, 0), (1, 0), (2, 0), (3, 0), (4, 0), (5, 0), (6, 0), (7, 0), (8, 0), (9, 0), (10, 0), (11, 0), (12, 1), (13, 1), (14, 0), (15, 2)] 15 Kx Kx (fun c d v a w h => by cases d <;> exact h) ?_; simp only [List.map_cons, List.map_nil, List.getD_cons_zero, List.getD_cons_succ]; refine Zm ?_; refine rf_add rfl rfl rfl rfl (wrap_ok Ox Ox) (Nq ?_)
  refine rf_rem (r := (((i + k) % 4 : Nat) : Int)) rfl rfl rfl rfl (by decide) ((rem_ok Ox).trans Ox) (Zm ?_); refine rf_add rfl rfl rfl rfl (wrap_ok Ox Ox) (Nq ?_); refine rf_rem (r := (((i + k) % 4 : Nat) : Int)) rfl rfl rfl rfl (by decide) ((rem_ok Ox).trans Ox) (Nq ?_); refine rf_indexA (n := (i + k) % 4) (sz := 6) (j := 0 + ((i + k) % 4) * 6) rfl rfl rfl rfl UU168 Kx Ox rfl (Nq ?_); refine rf_loadC (n := 6) (vs := w6L (W6.of (T2 ((i + k) % 4)))) rfl rfl rfl UU166 rfl Kx rfl (fun w hw => sm_row (Kn.hd0 (Kn.tl hw)) Ox) (Nq ?_)
  refine rf_loadR (n := 6) rfl rfl rfl UU166 rfl Kx (fun w hw => Kn.hd0 hw) rfl rfl (Zm ?_); apply rg_pure Rx Kx
  case hargs => exact Ax
  case h => exact fun w hw => w6times_any (X i) (Y k) Ox Ox w
  case hz => exact (fun _ h => by cases h; exact (sc _ (sc _ (sc _ (sc _ (sc _ sn))))))
  simp only [qz]; apply rg_pure Rx Kx
  case hargs => exact Ax
  case h => exact fun w hw => w6add_any (T2 ((i + k) % 4)) (X i * Y k) w
  case hz => exact (fun _ h => by cases h; exact (sc _ (sc _ (sc _ (sc _ (sc _ sn))))))
  simp only [qz]; refine rf_indexA (n := (i + k) % 4) (sz := 6) (j := 0 + ((i + k) % 4) * 6) rfl rfl rfl rfl UU168 Kx Ox rfl (Nq ?_); refine rf_storeRM (n := 6) (vs := w6L (W6.of (T2 ((i + k) % 4) + X i * Y k))) rfl rfl Kx rfl rfl (UpdR.there _ (UpdR.here _ _ _ (show 0 + ((i + k) % 4) * 6 + 6 ≤ 24 by omega))) (sc _ (sk _ (sc _ (sc _ (sc _ sn))))) (Nw ?_); refine Zr ?_; refine Wr [0, 0] ?_; refine rf_add rfl rfl rfl rfl (wrap_ok Ox Ox) (Zm ?_)
  refine rg_nil ?_; refine ek_roundF (4 - (k + 1)) Ox Kx ?_
  exact ⟨k + 1, upd T2 ((i + k) % 4) (T2 ((i + k) % 4) + X i * Y k), rfl, (by rw [sm_set' Ox]), by rfl, Ox, (Lib.hid (by rw [acc_step Ox hac2.out, if_neg Ox]))⟩
 simp only [qz]
 refine Zr ?_
 refine Wm [0, 0, 0] ?_
 refine rf_neg rfl rfl rfl (wrap_ok Ox Ox) (Zm ?_)
 refine rg_nil (ek_next ?_)
 refine wk_draws_m (hz1 := (sc _ (sk _ (sc _ (sc _ (sc _ sn)))))) [(0, 0), (1, 0), (2, 0), (3, 0), (4, 0), (5, 0), (6, 0), (7, 0), (8, 0), (9, 0), (10, 0), (11, 0), (12, 1), (13, 1), (14, 0), (15, 2)] 15 Kx Kx (fun c d v a w h => by cases d <;> exact h) ?_
 simp only [List.map_cons, List.map_nil, List.getD_cons_zero, List.getD_cons_succ]
 refine Zm ?_
 refine rf_add rfl rfl rfl rfl (wrap_ok Ox Ox) (Nq ?_)
 refine rf_rem (r := (((i + k) % 4 : Nat) : Int)) rfl rfl rfl rfl (by decide) ((rem_ok Ox).trans Ox) (Zm ?_)
 refine rf_add rfl rfl rfl rfl (wrap_ok Ox Ox) (Nq ?_)
 refine rf_rem (r := (((i + k) % 4 : Nat) : Int)) rfl rfl rfl rfl (by decide) ((rem_ok Ox).trans Ox) (Nq ?_)
 refine rf_indexA (n := (i + k) % 4) (sz := 6) (j := 0 + ((i + k) % 4) * 6) rfl rfl rfl rfl UU168 Kx Ox rfl (Nq ?_)
 refine rf_loadC (n := 6) (vs := w6L (W6.of (T2 ((i + k) % 4)))) rfl rfl rfl UU166 rfl Kx rfl (fun w hw => sm_row (Kn.hd0 (Kn.tl hw)) Ox) (Nq ?_)
 refine rf_loadR (n := 6) rfl rfl rfl UU166 rfl Kx (fun w hw => Kn.hd0 hw) rfl rfl (Zm ?_)
 apply rg_pure Rx Kx
 case hargs => exact Ax
 case h => exact fun w hw => by have := w6times_any (X i) (-(Y k)) Ox Ox w; rw [Int.mul_neg] at this; exact this
 case hz => exact (fun _ h => by cases h; exact (sc _ (sc _ (sc _ (sc _ (sc _ sn))))))
 simp only [qz]
 apply rg_pure Rx Kx
 case hargs => exact Ax
 case h => exact fun w hw => w6add_any (T2 ((i + k) % 4)) (-(X i * Y k)) w
 case hz => exact (fun _ h => by cases h; exact (sc _ (sc _ (sc _ (sc _ (sc _ sn))))))
 simp only [qz]
 refine rf_indexA (n := (i + k) % 4) (sz := 6) (j := 0 + ((i + k) % 4) * 6) rfl rfl rfl rfl UU168 Kx Ox rfl (Nq ?_)
 refine rf_storeRM (n := 6) (vs := w6L (W6.of (T2 ((i + k) % 4) + -(X i * Y k)))) rfl rfl Kx rfl rfl (UpdR.there _ (UpdR.here _ _ _ (show 0 + ((i + k) % 4) * 6 + 6 ≤ 24 by omega))) (sc _ (sk _ (sc _ (sc _ (sc _ sn))))) (Nw ?_)
 refine Zr ?_
 refine Wr [0, 0] ?_
 refine rf_add rfl rfl rfl rfl (wrap_ok Ox Ox) (Zm ?_)
 refine rg_nil ?_
 refine ek_roundF (4 - (k + 1)) Ox Kx ?_
 exact ⟨k + 1, upd T2 ((i + k) % 4) (T2 ((i + k) % 4) + -(X i * Y k)), rfl, (by rw [sm_set' Ox]), by rfl, Ox, (Lib.hid (by rw [acc_step Ox hac2.out, if_pos Ox]))⟩
theorem sm_one : (#[.int .u64 (W6.of 1).w0, .int .u64 (W6.of 1).w1, .int .u64 (W6.of 1).w2, .int .u64 (W6.of 1).w3, .int .u64 (W6.of 1).w4, .int .u64 (W6.of 1).w5, .int .u64 0, .int .u64 0, .int .u64 0, .int .u64 0, .int .u64 0, .int .u64 0, .int .u64 0, .int .u64 0, .int .u64 0, .int .u64 0, .int .u64 0, .int .u64 0, .int .u64 0, .int .u64 0, .int .u64 0, .int .u64 0, .int .u64 0, .int .u64 0] : Array Value) = smC (sel4 1 0 0 0) := by
 unfold smC
 simp only [sel4]
 rw [w6_zero]
 rfl
theorem smone_any  (w : World) : Calls Tryz.prog 124 #[] w fun e w' => e = .returned (.agg (smC (sel4 1 0 0 0))) ∧ Below w.heap.size w w' := by
 go_enter Tryz.func124, Tryz.ntmps124
 refine wk_start ?_
 refine wk_seq ?_
 refine Wr [1] ?_
 refine Rgn fun g1 => ?_
 simp only [qz]
 refine Zr ?_
 refine Wr [1, 0, 1] ?_
 apply rg_pure Rx Kx
 case hargs => exact Ax
 case h => exact fun w hw => w6whole_any 1 (by decide) (by decide) w
 case hz => exact Nz
 simp only [qz]
 refine rf_build (cs := fun a => #[cellAt (a.eval (.tmp 1)) 0, cellAt (a.eval (.tmp 1)) 1, cellAt (a.eval (.tmp 1)) 2, cellAt (a.eval (.tmp 1)) 3, cellAt (a.eval (.tmp 1)) 4, cellAt (a.eval (.tmp 1)) 5, .int .u64 0, .int .u64 0, .int .u64 0, .int .u64 0, .int .u64 0, .int .u64 0, .int .u64 0, .int .u64 0, .int .u64 0, .int .u64 0, .int .u64 0, .int .u64 0, .int .u64 0, .int .u64 0, .int .u64 0, .int .u64 0, .int .u64 0, .int .u64 0]) rfl rfl Kx (Nq ?_)
 refine rf_storeR (n := 24) rfl rfl Kx rfl rfl (UpdR.here _ _ _ Nl) Nz (Nw ?_)
 refine Zr ?_
 refine ek_ret (fun w hw => ⟨rfl, _, run_results1 rfl rfl (Kn.hd0 hw) UU168 rfl Kx, ?_⟩)
 (try simp only [qz])
 exact ⟨by rw [sm_one], hw.below⟩
end Go.Proofs.YthjjkajjpejcdaaGreat
