/- Several texts in one. -/
import Derived.Test.YtjeijnjaleldkaaDc0
import Derived.Test.YtjeijnjaleldkaaMgA
import Derived.Test.YtjeijnjaleldkaaMgB
import Derived.Test.YtjeijnjaleldkaaMx2
namespace Go.Proofs.Ytjeijnjaleldkaa
set_option linter.all false
open Go.RowKit

/-- A call that hands back a new list of numbers. -/
def RetN (w : World) (zs : List Nm) (e : Ending) (w' : World) : Prop := ∃ v u, e = .returned v ∧ OwnN u v zs ∧ Made w u w'
section
variable {R : Option Nat} {ops : Array Oper} {Q : Exit → Act → World → Prop} {B : World} {F : List Nat} {s0 : Option (List Blk × List Blk)}
variable {l : List (Oper × Nat)} {a : Act} {s S : List Blk} {d : Option Tmp} {op : Op} {t : TypeId} {p : String} {af : Array Edge} {v : Value}
theorem rg_retN {f : Nat} {cargs : Array Operand} {at_ : Array TypeId} {args : Array Value} {zs : List Nm} {P : Program} {gd : Option (Nat × Bool)} (hg : Region.wanted ⟨d, .call ⟨.value (.func f), cargs, at_⟩, t, p, af, gd⟩ (yielded ops a.tmps) = true) (hgo : isGo P f = true)
    (h : ∀ w, Kn B F s w → Calls P f args w (RetN w zs)) (hargs : cargs.map a.eval = args)
    (hz : ∀ z ∈ s0, z.1.Sublist s) (k : ∀ (va : Option Addr) (vc : Nat) (u : List Blk), OwnN u (.slice va zs.length vc) zs → Rg R P ops Q B F s0 l (a.put d (.slice va zs.length vc)) (u ++ s)) :
    Rg R P ops Q B F s0 ((⟨d, .call ⟨.value (.func f), cargs, at_⟩, t, p, af, gd⟩, 1) :: l) a s :=
  rg_call hg hgo hargs fun w K => (h w K).mono fun e w' ⟨v, u, he, hO, hm⟩ => by
    obtain ⟨a', c', rfl, -⟩ := Own.val hO
    exact ⟨_, u ++ s, he, K.add hm, fun z hz' => (hz z hz').trans (List.sublist_append_right _ _), k a' c' u hO⟩
/-- append of a list of numbers. -/
theorem rg_appNs {so xo : Operand} {u : List Blk} {xs ys : List Nm} {n m c : Nat} {ad : Addr} {gd : Option (Nat × Bool)} (hg : Region.wanted ⟨d, .call ⟨.builtin .append, #[so, xo], #[22, 22]⟩, t, p, af, gd⟩ (yielded ops a.tmps) = true)
    (hs : a.eval so = v) (hown : OwnN u v xs) (hn : xs.length = n) (hx : a.eval xo = .slice (some ad) m c) (hm : ys.length = m) (hm0 : 0 < m) (hb : n + m ≤ 10000000) (hp : S.Perm (u ++ s))
    (hA : ∀ w, Kn B F S w → AS w (some ad) (nms ys))
    (hzz : ∀ z ∈ s0, z.1.Sublist s) (h : ∀ u' a' c', OwnN u' (.slice a' (n + m) c') (xs ++ ys) → Rg R Try.prog ops Q B F s0 l (a.put d (.slice a' (n + m) c')) (u' ++ s)) :
    Rg R Try.prog ops Q B F s0 ((⟨d, .call ⟨.builtin .append, #[so, xo], #[22, 22]⟩, t, p, af, gd⟩, 1) :: l) a S := by
  obtain ⟨i, hi, hz, hsz, hby⟩ := info_partsN numInfo
  subst hn hm
  refine rg_appendG (E := NmE) (u := u) (s := s) (i := i) (xs := xs) (ys := ys) (ad := ad) hg Try.underlying22 hi hz hsz rfl (by omega) hs hown hx rfl (by omega) hp (fun w K j y hj => ?_) hzz fun u' v' hO => ?_
  · have hne : nms ys ≠ [] := fun e => by (have e' : NmE.flat ys = [] := e; rw [e'] at hj; simp at hj)
    obtain ⟨b, off, e, _, hc⟩ := hA w K hne
    cases e
    have hj' : j < (nms ys).length := by
      rcases Nat.lt_or_ge j (nms ys).length with h | h
      · exact h
      · rw [List.getElem?_eq_none h] at hj; cases hj
    have e1 : (⟨b, off, none⟩ : Addr).add j = ⟨b, off + j, none⟩ := Addr.add_mid ..
    rw [e1, hc j hj', hj]
  · obtain ⟨a', c', rfl, -⟩ := Own.val hO
    have e : (xs ++ ys).length = xs.length + ys.length := by simp
    rw [e] at hO ⊢
    exact h u' a' c' hO
end
theorem OwnN.addr {u : List Blk} {av : Option Addr} {n c : Nat} {l : List Nm} (h : OwnN u (.slice av n c) l) (hn : 0 < l.length) : ∃ ad, av = some ad := by
  rcases h.2 with ⟨_, e, h0⟩ | ⟨g, cap, cur, _, e, _⟩
  · omega
  cases e; exact ⟨_, rfl⟩
theorem OwnN.open {u : List Blk} {v : Value} {l : List Nm} (h : OwnN u v l) (hn : 0 < l.length) : ∃ g cap rest, u = [(g, .cells (NmE.flat l ++ rest).toArray 29)] ∧ v = .slice (some ⟨g, 0, none⟩) l.length cap ∧ l.length ≤ cap ∧ cap ≤ maxLen ∧ (NmE.flat l ++ rest).length = cap * 5 := by
  obtain ⟨hl, ⟨rfl, rfl, h0⟩ | ⟨g, cap, cur, rfl, rfl, hc, hm, hs, ht⟩⟩ := h
  · omega
  refine ⟨g, cap, cur.toList.drop (l.length * 5), ?_, rfl, hc, hm, ?_⟩
  · rw [← ht, List.take_append_drop]
  rw [← ht, List.take_append_drop]; simpa using hs
theorem OwnN.fl {g n cap : Nat} {l : List Nm} {rest : List Value} (h : l.length = n) (hc : n ≤ cap) (hm : cap ≤ maxLen) (hs : (NmE.flat l ++ rest).length = cap * 5) : OwnN [(g, .cells (NmE.flat l ++ rest).toArray 29)] (.slice (some ⟨g, 0, none⟩) n cap) l := by
  subst h
  have hfl := NmE.flat_len l
  exact ⟨hfl, .inr ⟨g, cap, _, rfl, rfl, hc, hm, by simpa using hs, by simp [← hfl]⟩⟩
theorem nm_flR (xs : List Nm) (k : Nat) (y : Nm) (rest : List Value) (hk : k < xs.length) : setMany (NmE.flat xs ++ rest).toArray (0 + k * 5) (nmC y) = (NmE.flat (xs.set k y) ++ rest).toArray := fl_set (E := NmE) (rest := rest) hk
theorem nm_szR (xs : List Nm) (k : Nat) (y : Nm) (rest : List Value) (hk : k < xs.length) : 0 + k * 5 + (nmC y).length ≤ (NmE.flat xs ++ rest).toArray.size := fl_size (E := NmE) (rest := rest) (y := y) hk
def colL (xs : List Nm) (N k t : Nat) : List Nm := (List.range t).map fun i => nm xs (i * N + k)
theorem colL_len (xs : List Nm) (N k t : Nat) : (colL xs N k t).length = t := by simp [colL]
theorem colL_succ (xs : List Nm) (N k t : Nat) : colL xs N k (t + 1) = colL xs N k t ++ [nm xs (t * N + k)] := by simp [colL, List.range_succ]
def trL (xs : List Nm) (N t : Nat) : List Nm := (List.range t).map fun i => nm xs (i % N * N + i / N)
theorem trL_len (xs : List Nm) (N t : Nat) : (trL xs N t).length = t := by simp [trL]
theorem trL_add (xs : List Nm) (N K : Nat) (hN : 0 < N) : trL xs N (K * N + N) = trL xs N (K * N) ++ colL xs N K N := by
  have key : ∀ d, d ≤ N → trL xs N (K * N + d) = trL xs N (K * N) ++ colL xs N K d := by
    intro d
    induction d with
    | zero => intro _; simp [colL]
    | succ d ih =>
      intro hd
      have e : trL xs N (K * N + (d + 1)) = trL xs N (K * N + d) ++ [nm xs ((K * N + d) % N * N + (K * N + d) / N)] := by
        rw [← Nat.add_assoc]; simp [trL, List.range_succ]
      rw [e, ih (by omega), colL_succ, List.append_assoc, ix_div (by omega), ix_mod (by omega)]
  exact key N (Nat.le_refl _)
theorem made_tr (N : Nat) (xs : List Nm) : madeR N (trF N xs) = .ok (trL xs N (N * N)) := gather_pure _ _
set_option maxRecDepth 100000 in
set_option maxHeartbeats 1000000 in
theorem rcolumn_any (xs : List Nm) (a : Option Addr) (c : Nat) (N : Nat) (hN : N ≤ 6) (hlx : Hid (xs.length = N * N)) (k : Nat) (hk : k < N) (w : World) (hA : AS w a (nms xs)) : Calls Try.prog 76 #[.agg #[.int .i64 N, .slice a xs.length c], .int .i64 (k : Int)] w fun e w' => RetN w (colL xs N k N) e w' := by
  go_enter Try.func76, Try.ntmps76
  refine wk_start ?_
  refine wk_seq ?_
  refine wk_region [1, 0] rfl (by kernel_rfl) ?_
  simp only [qy]
  refine rg_new (cs := ?_) (ty := ?_) (by rfl) (fun w => ?_) (fun _ h => by cases h) (fun g1 => ?_); rotate_left 2
  focus (go_simp; rfl)
  simp only [qz]
  refine rg_assign ?_
  simp only [qz]
  refine rg_nil (ek_next (wk_seq ?_))
  refine wk_region [0] rfl (by kernel_rfl) ?_
  simp only [qy]
  refine rg_assign ?_
  simp only [qz]
  refine rg_nil (ek_next (wk_seq (wk_seq ?_)))
  refine wk_region [0] rfl (by kernel_rfl) ?_
  simp only [qy]
  refine rg_assign ?_
  simp only [qz]
  refine rg_nil (ek_next (wk_block ?_))
  refine wk_loopF [5, 6, 7, 8, 9, 10, 11, 12, 13, 14, 15, 16, 17, 18, 19] (fun mz f s => ∃ (i : Nat) (u : List Blk) (av : Option Addr) (cv : Nat), f 5 = .slice av i cv ∧ f 6 = .int .i64 i ∧ s = (u ++ ((g1, .cells #[.int .i64 N, .slice a xs.length c] 24) :: [])) ∧ mz = N - i ∧ i ≤ N ∧ OwnN u (.slice av i cv) (colL xs N k i)) ((fun (i : Nat) (u : List Blk) (av : Option Addr) (cv : Nat) => N - i) (0) ([]) (none) (0)) ?_ (by kernel_rfl) ?_
  · exact ⟨0, [], none, 0, rfl, rfl, rfl, rfl, by omega, OwnG.nil⟩
  rintro mz f1 s ⟨i, u, av, cv, hs1_5, hs1_6, rfl, hn, hd1, hd2⟩
  simp only [Act.putF, List.foldl_cons, List.foldl_nil, hs1_5, hs1_6, Act.put, Act.eval, q1, q2, q3, q4, q5, q6, q7, q8, q9, q10, q11, q12, q13, q14, q15, q16, q17, q18, Nat.reduceAdd, Bool.not_true, Bool.not_false]
  clear hs1_5 hs1_6
  refine wk_seq (wk_seq ?_)
  refine wk_region [0, 0, 0, 0] rfl (by kernel_rfl) ?_
  simp only [qy]
  refine rg_move ?_
  simp only [qz]
  refine rf_field (n := 0) (j := 0) rfl rfl rfl Try.underlying24 rfl (by kernel_rfl) rfl ?_
  simp only [qz]
  refine rf_load rfl rfl rfl Try.underlying3 rfl (fun w hw => (Kn.hd0 (Kn.tlU hw)).at rfl) ?_
  simp only [qz]
  refine rfb_lss rfl rfl rfl rfl ?_
  intro x h1
  cases x
  · (try simp only [qd, ne_eq] at h1)
    simp only [qz]
    refine rg_nil (ek_next (wk_cond_f rfl (wk_exit (ek_then_exit (ek_then_exit (ek_block_exit (ek_next (wk_seq ?_))))))))
    refine wk_region [0, 0] rfl (by kernel_rfl) ?_
    simp only [qy]
    refine rg_move ?_
    simp only [qz]
    refine rg_assign ?_
    simp only [qz]
    refine rg_nil (ek_next (wk_ret ?_))
    refine ek_ret (fun w hw => ⟨rfl, _, res_t _ rfl, ?_⟩)
    (try simp only [qz])
    obtain rfl : N = i := by omega
    exact ⟨_, u, rfl, hd2, hw.made (List.sublist_append_left _ _)⟩
  (try simp only [qd, ne_eq] at h1)
  simp only [qz]
  refine rg_nil (ek_next (wk_cond_t rfl (wk_skip (ek_next (wk_seq (wk_block ?_))))))
  refine wk_region [0, 0, 0, 0, 1, 1, 1, 0] rfl (by kernel_rfl) ?_
  simp only [qy]
  refine rg_move ?_
  simp only [qz]
  refine rf_loadR (n := 2) rfl rfl rfl Try.underlying24 rfl (by kernel_rfl) (fun w hw => Kn.hd0 (Kn.tlU hw)) rfl rfl ?_
  simp only [qz]
  refine rg_move ?_
  simp only [qz]
  refine rg_move ?_
  simp only [qz]
  apply rg_pure (by rfl) (by kernel_rfl)
  case hargs => (simp only [qm, qs, Act.eval]; exact rfl)
  case h => exact fun w hw => rAt_any N i k xs a c hlx.out hN (by omega) hk w (hA.kn0 hw)
  case hz => exact (fun _ h => by cases h)
  simp only [qz]
  refine rg_newS (cs := ?_) (ty := ?_) (n := 1) (c := 1) (by rfl) (fun w => ?_) (fun _ h => by cases h) (fun g2 => ?_); rotate_left 2
  focus (go_simp; rfl)
  simp only [qz]
  refine rg_appN' (xs := colL xs N k i) (x := nm xs (i * N + k)) (by rfl) rfl hd2 (colL_len xs N k i) rfl (by omega) (perm_atU (l := [_]) (u := u) (List.Perm.refl _)) (fun w hw => Kn.hd0 hw) (fun _ h => by cases h) (fun uN1 aN1 cN1 hON1 => ?_)
  simp only [qz]
  refine rg_assign ?_
  simp only [qz]
  refine rg_nil (ek_block (ek_next ?_))
  refine wk_region [0, 0, 0] rfl (by kernel_rfl) ?_
  simp only [qy]
  refine rg_move ?_
  simp only [qz]
  refine rf_add rfl rfl rfl rfl (wrap_ok (by omega) (by omega)) ?_
  simp only [qz]
  refine rg_assign ?_
  simp only [qz]
  refine rg_nil ?_
  refine ek_sub (List.Sublist.append_left (sk _ (sc _ sn)) _) ?_
  refine ek_roundF (N - (i + 1)) (by omega) (by kernel_rfl) ?_
  exact ⟨i + 1, uN1, aN1, cN1, rfl, rfl, by rfl, by rfl, (by omega), (by have h := hON1; rwa [← colL_succ] at h)⟩

set_option maxRecDepth 100000 in
set_option maxHeartbeats 1000000 in
theorem rtranspose_any (n : Int) (xs : List Nm) (a : Option Addr) (c : Nat) (hl : xs.length ≤ 1000000) (w : World) (hA : AS w a (nms xs)) : Calls Try.prog 28 #[.agg #[.int .i64 n, .slice a xs.length c]] w fun e w' => RetM w (rN n.toNat (mapM trF n xs)) (rL (mapM trF n xs)) (rC (mapM trF n xs)) e w' := by
  go_enter Try.func28, Try.ntmps28
  refine wk_start ?_
  refine wk_seq ?_
  refine wk_region [1, 1, 0] rfl (by kernel_rfl) ?_
  simp only [qy]
  refine rg_new (cs := ?_) (ty := ?_) (by rfl) (fun w => ?_) (fun _ h => by cases h) (fun g1 => ?_); rotate_left 2
  focus (go_simp; rfl)
  simp only [qz]
  refine rg_new (cs := ?_) (ty := ?_) (by rfl) (fun w => ?_) (fun _ h => by cases h) (fun g2 => ?_); rotate_left 2
  focus (go_simp; rfl)
  simp only [qz]
  refine rg_assign ?_
  simp only [qz]
  refine rg_nil (ek_next (wk_seq (wk_seq ?_)))
  refine wk_region [0, 1, 0] rfl (by kernel_rfl) ?_
  simp only [qy]
  refine rf_loadR (n := 2) rfl rfl rfl Try.underlying24 rfl (by kernel_rfl) (fun w hw => Kn.hd0 (Kn.tl hw)) rfl rfl ?_
  simp only [qz]
  apply rg_pureb (by rfl) (by kernel_rfl)
  case hargs => (simp only [qm, qs, Act.eval]; exact rfl)
  case h => exact fun w hw => rmvalid_any n xs a c hl w (hA.kn0 hw)
  case hz => exact (fun _ h => by cases h)
  intro x h1
  cases x
  · (try simp only [qd, ne_eq] at h1)
    simp only [qz]
    refine rf_not rfl rfl rfl ?_
    simp only [qz]
    refine rg_nil (ek_next (wk_cond_t rfl (wk_seq ?_)))
    refine wk_region [0, 1, 0] rfl (by kernel_rfl) ?_
    simp only [qy]
    refine rf_build (cs := fun a => #[.int .i64 0, .slice none 0 0]) rfl rfl (by kernel_rfl) ?_
    simp only [qz]
    refine rf_storeR (n := 2) rfl rfl (by kernel_rfl) rfl rfl (UpdR.here _ _ _ (Nat.le_of_ble_eq_true rfl)) (fun _ h => by cases h) ?_
    simp only [qz, Nat.reduceAdd]
    refine rg_assign ?_
    simp only [qz]
    refine rg_nil (ek_next (wk_ret (ek_then_ret ?_)))
    refine ek_ret (fun w hw => ⟨rfl, _, run_results2 rfl rfl (Kn.hd0 hw) Try.underlying24 rfl (by kernel_rfl), ?_⟩)
    (try simp only [qz])
    exact retM_err (c := 20) (by unfold mapM; rw [h1]; rfl) hw.below
  (try simp only [qd, ne_eq] at h1)
  simp only [qz]
  have hv := h1
  obtain ⟨N, rfl, hN1, hN, hlx, hlx36, hox⟩ := validB_N' hv
  replace hlx := Lib.hid hlx
  have hcp : mapM trF (N : Int) xs = .ok (trL xs N (N * N)) := by (unfold mapM; rw [hv, if_pos rfl, Int.toNat_natCast]; exact made_tr N xs)
  replace hcp := Lib.hid hcp
  refine rf_not rfl rfl rfl ?_
  simp only [qz]
  refine rg_nil (ek_next (wk_cond_f rfl (wk_skip (ek_next (wk_seq ?_)))))
  refine wk_region [0, 0, 0, 1, 1] rfl (by kernel_rfl) ?_
  simp only [qy]
  refine rf_field (n := 0) (j := 0) rfl rfl rfl Try.underlying24 rfl (by kernel_rfl) rfl ?_
  simp only [qz]
  refine rf_load rfl rfl rfl Try.underlying3 rfl (fun w hw => (Kn.hd0 (Kn.tl hw)).at rfl) ?_
  simp only [qz]
  refine rf_build (cs := fun a => #[a.eval (.tmp 11), .slice none 0 0]) rfl rfl (by kernel_rfl) ?_
  simp only [qz]
  refine rg_new (cs := ?_) (ty := ?_) (by rfl) (fun w => ?_) (fun _ h => by cases h) (fun g3 => ?_); rotate_left 2
  focus (go_simp; rfl)
  simp only [qz]
  refine rf_storeR (n := 2) rfl rfl (by kernel_rfl) rfl rfl (UpdR.here _ _ _ (Nat.le_of_ble_eq_true rfl)) (fun _ h => by cases h) ?_
  simp only [qz, Nat.reduceAdd]
  refine rg_nil (ek_next (wk_seq (wk_seq ?_)))
  refine wk_region [0] rfl (by kernel_rfl) ?_
  simp only [qy]
  refine rg_assign ?_
  simp only [qz]
  refine rg_nil (ek_next (wk_block ?_))
  refine wk_loopF [5, 13, 14, 15, 16, 17, 18, 19, 20, 21, 22, 23, 24, 25] (fun mz f s => ∃ (k m : Nat) (u : List Blk) (av : Option Addr) (cv : Nat), f 5 = .int .i64 k ∧ s = (u ++ ((g3, .cells #[.int .i64 N, .slice av m cv] 24) :: ((g2, .cells #[.int .i64 0, .slice none 0 0] 24) :: ((g1, .cells #[.int .i64 N, .slice a xs.length c] 24) :: [])))) ∧ mz = N - k ∧ k ≤ N ∧ Hid (m = k * N) ∧ OwnN u (.slice av m cv) (trL xs N m)) ((fun (k m : Nat) (u : List Blk) (av : Option Addr) (cv : Nat) => N - k) (0) (0) ([]) (none) (0)) ?_ (by kernel_rfl) ?_
  · exact ⟨0, 0, [], none, 0, rfl, rfl, rfl, by omega, (Lib.hid (by rw [Nat.zero_mul])), OwnG.nil⟩
  rintro mz f1 s ⟨k, m, u, av, cv, hs1_5, rfl, hn, hd1, hd2, hd3⟩
  simp only [Act.putF, List.foldl_cons, List.foldl_nil, hs1_5, Act.put, Act.eval, q1, q2, q3, q4, q5, q6, q7, q8, q9, q10, q11, q12, q13, q14, q15, q16, q17, q18, Nat.reduceAdd, Bool.not_true, Bool.not_false]
  clear hs1_5
  have hmm : m ≤ 36 := by (have h1 := hd2.out; have h2 := Nat.mul_le_mul hd1 hN; have h3 := Nat.mul_le_mul hN hN; have h4 := Nat.mul_le_mul (Nat.le_trans hd1 hN) hN; omega)
  refine wk_seq (wk_seq ?_)
  refine wk_region [0, 0, 0, 0] rfl (by kernel_rfl) ?_
  simp only [qy]
  refine rg_move ?_
  simp only [qz]
  refine rf_field (n := 0) (j := 0) rfl rfl rfl Try.underlying24 rfl (by kernel_rfl) rfl ?_
  simp only [qz]
  refine rf_load rfl rfl rfl Try.underlying3 rfl (fun w hw => (Kn.hd0 (Kn.tl (Kn.tl (Kn.tlU hw)))).at rfl) ?_
  simp only [qz]
  refine rfb_lss rfl rfl rfl rfl ?_
  intro x h2
  cases x
  · (try simp only [qd, ne_eq] at h2)
    simp only [qz]
    refine rg_nil (ek_next (wk_cond_f rfl (wk_exit (ek_then_exit (ek_then_exit (ek_block_exit (ek_next (wk_seq ?_))))))))
    refine wk_region [0, 1, 0] rfl (by kernel_rfl) ?_
    simp only [qy]
    refine rf_loadR (n := 2) rfl rfl rfl Try.underlying24 rfl (by kernel_rfl) (fun w hw => Kn.hd0 (Kn.tlU hw)) rfl rfl ?_
    simp only [qz]
    refine rf_storeR (n := 2) rfl rfl (by kernel_rfl) rfl rfl (UpdR.app _ (UpdR.there _ (UpdR.here _ _ _ (Nat.le_of_ble_eq_true rfl)))) (fun _ h => by cases h) ?_
    simp only [qz, Nat.reduceAdd]
    refine rg_assign ?_
    simp only [qz]
    refine rg_nil (ek_next (wk_ret ?_))
    refine ek_ret (fun w hw => ⟨rfl, _, run_results2 rfl rfl (Kn.hd0 (Kn.tl (Kn.tlU hw))) Try.underlying24 rfl (by kernel_rfl), ?_⟩)
    (try simp only [qz])
    obtain rfl : N = k := by omega
    rw [hcp.out]
    exact ⟨_, u, rfl, by rw [← hd2.out]; exact hd3, hw.made (List.sublist_append_left _ _)⟩
  (try simp only [qd, ne_eq] at h2)
  simp only [qz]
  refine rg_nil (ek_next (wk_cond_t rfl (wk_skip (ek_next (wk_seq (wk_block ?_))))))
  refine wk_draws _ _ [(0, 0), (1, 0), (2, 0), (3, 0), (4, 1), (5, 1), (6, 0), (7, 2)] [7] (by kernel_rfl) (by kernel_rfl) (fun c d v a w h => by cases d <;> exact h) (((sc _ (sc _ (sc _ sn))).trans (List.sublist_append_right _ _))) (fun e => by exact absurd e (by decide)) ?_ ((sk _ (sc _ (sc _ sn))))
  simp only [List.map_cons, List.map_nil, List.getD_cons_zero, List.getD_cons_succ]
  refine rf_field (n := 0) (j := 1) rfl rfl rfl Try.underlying24 rfl (by kernel_rfl) rfl ?_
  simp only [qz]
  refine rf_load rfl rfl rfl Try.underlying22 rfl (fun w hw => (Kn.hd0 hw).at rfl) ?_
  simp only [qz]
  refine rf_loadR (n := 2) rfl rfl rfl Try.underlying24 rfl (by kernel_rfl) (fun w hw => Kn.hd0 (Kn.tl (Kn.tl hw))) rfl rfl ?_
  simp only [qz]
  refine rg_move ?_
  simp only [qz]
  apply rg_retN (by rfl) (by kernel_rfl)
  case hargs => (simp only [qm, qs, Act.eval]; exact rfl)
  case h => exact fun w hw => rcolumn_any xs a c N hN hlx k (by omega) w (hA.kn0 hw)
  case hz => exact (fun _ h => by cases h; exact ((sc _ (sc _ (sc _ sn))).trans (List.sublist_append_right _ _)))
  rw [colL_len]
  intro va4 vc4 uL hOL
  obtain ⟨adL, rfl⟩ := hOL.addr (by rw [colL_len]; omega)
  simp only [qz]
  refine rg_appNs (ys := colL xs N k N) (by rfl) rfl hd3 (trL_len xs N m) rfl (colL_len xs N k N) (by omega) (by omega) ((((List.Perm.refl _).append_left _).trans (List.perm_append_comm_assoc uL u _)).trans ((List.Perm.refl _).append_left _)) (fun w hw => OwnN.asN hOL (hw.perm (List.Perm.refl _))) (fun _ h => by cases h; exact ((sc _ (sc _ (sc _ sn))).trans (List.sublist_append_right _ _))) (fun uT aT cT hOT => ?_)
  simp only [qz]
  refine rf_field (n := 0) (j := 1) rfl rfl rfl Try.underlying24 rfl (by kernel_rfl) rfl ?_
  simp only [qz]
  refine rf_storeM rfl rfl (by kernel_rfl) rfl rfl (UpdR.app _ (UpdR.app _ (UpdR.here _ _ _ (Nat.le_of_ble_eq_true rfl)))) (((sk _ (sc _ (sc _ sn))).trans (List.sublist_append_right _ _)).trans (List.sublist_append_right _ _)) ?_
  simp only [qz]
  refine rg_nil (ek_block (ek_next ?_))
  refine wk_region [0, 0, 0] rfl (by kernel_rfl) ?_
  simp only [qy]
  refine rg_move ?_
  simp only [qz]
  refine rf_add rfl rfl rfl rfl (wrap_ok (by omega) (by omega)) ?_
  simp only [qz]
  refine rg_assign ?_
  simp only [qz]
  refine rg_nil ?_
  refine ek_sub (List.Sublist.append_left ((sc _ (sc _ (sc _ sn))).trans (List.sublist_append_right _ _)) _) ?_
  refine ek_roundF (N - (k + 1)) (by omega) (by kernel_rfl) ?_
  exact ⟨k + 1, m + N, uT, aT, cT, rfl, by rfl, by rfl, (by omega), (Lib.hid (by rw [hd2.out, Nat.add_mul, Nat.one_mul])), (by have h := hOT; rwa [hd2.out, ← trL_add xs N k (by omega), ← hd2.out] at h)⟩

end Go.Proofs.Ytjeijnjaleldkaa
namespace Go.Proofs.Ytjeijnjaleldkaa
set_option linter.all false
open Go.RowKit

theorem made_dag (N : Nat) (xs : List Nm) : madeR N (dagF N xs) = .ok ((trL xs N (N * N)).map Nm.conj) := by
  have h : madeR N (dagF N xs) = .ok ((List.range (N * N)).map fun i => (nm xs (i % N * N + i / N)).conj) := gather_pure _ _
  rw [h]
  unfold trL
  rw [List.map_map]
  rfl
/-- The first i elements of a list are conjugated. -/
def cjL (zs : List Nm) (i : Nat) : List Nm := (zs.take i).map Nm.conj ++ zs.drop i
theorem cjL_len (zs : List Nm) (i : Nat) : (cjL zs i).length = zs.length := by
  simp only [cjL, List.length_append, List.length_map, List.length_take, List.length_drop]; omega
theorem cjL_set {zs : List Nm} {i : Nat} (h : i < zs.length) : (cjL zs i).set i (nm zs i).conj = cjL zs (i + 1) := by
  have hl : ((zs.take i).map Nm.conj).length = i := by simp; omega
  have hd : zs.drop i = nm zs i :: zs.drop (i + 1) := by
    rw [List.drop_eq_getElem_cons h]
    congr 1
    unfold nm El.at
    rw [List.getD_eq_getElem?_getD, List.getElem?_eq_getElem h]
    rfl
  unfold cjL
  rw [List.set_append_right _ _ (by omega), hl, Nat.sub_self, hd, List.set_cons_zero, List.take_add_one, List.getElem?_eq_getElem h, List.map_append, List.append_assoc]
  congr 1
  unfold nm El.at
  rw [List.getD_eq_getElem?_getD, List.getElem?_eq_getElem h]
  rfl
theorem cjL_at {zs : List Nm} {i : Nat} (h : i < zs.length) : nm (cjL zs i) i = nm zs i := by
  unfold nm El.at cjL
  rw [List.getD_eq_getElem?_getD, List.getD_eq_getElem?_getD, List.getElem?_append_right (by simp; omega)]
  simp only [List.length_map, List.length_take, List.getElem?_drop]
  congr 2
  omega
theorem cjL_all (zs : List Nm) : cjL zs zs.length = zs.map Nm.conj := by simp [cjL]
theorem mapM_dag (n : Int) (xs : List Nm) : mapM dagF n xs = match mapM trF n xs with
    | .ok l => .ok (l.map Nm.conj)
    | .error c => .error c := by
  unfold mapM
  cases hv : validB n xs with
  | false => rfl
  | true =>
    rw [if_pos rfl, if_pos rfl, made_dag, made_tr]
theorem mapM_trOk (n : Int) (xs : List Nm) : ∀ z ∈ rL (mapM trF n xs), z.Ok := by
  unfold mapM
  cases hv : validB n xs with
  | false => intro z hz; cases hz
  | true =>
    obtain ⟨N, rfl, h1, h2, h3, h4, h5⟩ := validB_N' hv
    rw [if_pos rfl, made_tr]
    intro z hz
    obtain ⟨t, ht, rfl⟩ := List.mem_map.1 (show z ∈ trL xs _ _ from hz)
    rw [Int.toNat_natCast] at *
    have ht := List.mem_range.1 ht
    exact elemOk h5 h3 (Nat.mod_lt _ (by omega)) (Nat.div_lt_of_lt_mul ht)
theorem mapM_trLen (n : Int) (xs : List Nm) : (rL (mapM trF n xs)).length ≤ 36 := by
  unfold mapM
  cases hv : validB n xs with
  | false => exact Nat.zero_le _
  | true =>
    obtain ⟨N, rfl, h1, h2, h3, h4, h5⟩ := validB_N' hv
    rw [if_pos rfl, made_tr]
    show (trL xs _ _).length ≤ 36
    rw [trL_len, Int.toNat_natCast]
    exact Nat.mul_le_mul h2 h2
set_option maxRecDepth 100000 in
set_option maxHeartbeats 1000000 in
theorem rcj_any (z : Nm) (hz : z.Fit 4611686018427387903) (w : World) : Calls Try.prog 79 #[nmV z] w fun e w' => e = .returned (nmV z.conj) ∧ Below w.heap.size w w' := by
  obtain ⟨fa0, fa1, fb0, fb1, fc0, fc1, fd0, fd1⟩ := hz
  go_enter Try.func79, Try.ntmps79
  refine wk_start ?_
  refine wk_seq ?_
  refine wk_region [1, 1] rfl (by kernel_rfl) ?_
  simp only [qy]
  refine rg_new (cs := ?_) (ty := ?_) (by rfl) (fun w => ?_) (fun _ h => by cases h) (fun g1 => ?_); rotate_left 2
  focus (go_simp; rfl)
  simp only [qz]
  refine rg_new (cs := ?_) (ty := ?_) (by rfl) (fun w => ?_) (fun _ h => by cases h) (fun g2 => ?_); rotate_left 2
  focus (go_simp; rfl)
  simp only [qz]
  refine rg_nil (ek_next (wk_seq ?_))
  refine wk_region [0, 0, 0, 0, 0, 0, 0, 0, 0, 0, 0, 0, 0, 0, 0, 0, 0, 0, 0, 1] rfl (by kernel_rfl) ?_
  simp only [qy]
  refine rf_field (n := 3) (j := 0) rfl rfl rfl Try.underlying29 rfl (by kernel_rfl) rfl ?_
  simp only [qz]
  refine rf_indexA (n := 0) (sz := 1) (j := 0) rfl rfl rfl rfl Try.underlying27 (by kernel_rfl) (by decide) rfl ?_
  simp only [qz]
  refine rf_load rfl rfl rfl Try.underlying3 rfl (fun w hw => (Kn.hd0 (Kn.tl hw)).at rfl) ?_
  simp only [qz]
  refine rf_field (n := 3) (j := 0) rfl rfl rfl Try.underlying29 rfl (by kernel_rfl) rfl ?_
  simp only [qz]
  refine rf_indexA (n := 3) (sz := 1) (j := 3) rfl rfl rfl rfl Try.underlying27 (by kernel_rfl) (by decide) rfl ?_
  simp only [qz]
  refine rf_load rfl rfl rfl Try.underlying3 rfl (fun w hw => (Kn.hd0 (Kn.tl hw)).at rfl) ?_
  simp only [qz]
  refine rf_neg rfl rfl rfl (wrap_ok (by omega) (by omega)) ?_
  simp only [qz]
  refine rf_field (n := 3) (j := 0) rfl rfl rfl Try.underlying29 rfl (by kernel_rfl) rfl ?_
  simp only [qz]
  refine rf_indexA (n := 2) (sz := 1) (j := 2) rfl rfl rfl rfl Try.underlying27 (by kernel_rfl) (by decide) rfl ?_
  simp only [qz]
  refine rf_load rfl rfl rfl Try.underlying3 rfl (fun w hw => (Kn.hd0 (Kn.tl hw)).at rfl) ?_
  simp only [qz]
  refine rf_neg rfl rfl rfl (wrap_ok (by omega) (by omega)) ?_
  simp only [qz]
  refine rf_field (n := 3) (j := 0) rfl rfl rfl Try.underlying29 rfl (by kernel_rfl) rfl ?_
  simp only [qz]
  refine rf_indexA (n := 1) (sz := 1) (j := 1) rfl rfl rfl rfl Try.underlying27 (by kernel_rfl) (by decide) rfl ?_
  simp only [qz]
  refine rf_load rfl rfl rfl Try.underlying3 rfl (fun w hw => (Kn.hd0 (Kn.tl hw)).at rfl) ?_
  simp only [qz]
  refine rf_neg rfl rfl rfl (wrap_ok (by omega) (by omega)) ?_
  simp only [qz]
  refine rf_build (cs := fun a => #[a.eval (.tmp 5), a.eval (.tmp 9), a.eval (.tmp 13), a.eval (.tmp 17)]) rfl rfl (by kernel_rfl) ?_
  simp only [qz]
  refine rf_field (n := 0) (j := 4) rfl rfl rfl Try.underlying29 rfl (by kernel_rfl) rfl ?_
  simp only [qz]
  refine rf_load rfl rfl rfl Try.underlying3 rfl (fun w hw => (Kn.hd0 (Kn.tl hw)).at rfl) ?_
  simp only [qz]
  refine rf_build (cs := fun a => #[cellAt (a.eval (.tmp 18)) 0, cellAt (a.eval (.tmp 18)) 1, cellAt (a.eval (.tmp 18)) 2, cellAt (a.eval (.tmp 18)) 3, a.eval (.tmp 20)]) rfl rfl (by kernel_rfl) ?_
  simp only [qz]
  refine rf_storeR (n := 5) rfl rfl (by kernel_rfl) rfl rfl (UpdR.here _ _ _ (Nat.le_of_ble_eq_true rfl)) (fun _ h => by cases h) ?_
  simp only [qz, Nat.reduceAdd]
  refine rg_nil (ek_next (wk_ret ?_))
  refine ek_ret (fun w hw => ⟨rfl, _, run_results1 rfl rfl (Kn.hd0 hw) Try.underlying29 rfl (by kernel_rfl), ?_⟩)
  (try simp only [qz])
  first | exact ⟨rfl, hw.below⟩ | exact ⟨trivial, hw.below⟩ | exact hw.below

theorem dag_parts {n : Int} {xs zs : List Nm} {nn ee : Int} (h : mapM dagF n xs = match mapM trF n xs with
    | .ok l => .ok (l.map Nm.conj)
    | .error c => .error c) (h1 : rL (mapM trF n xs) = zs) (h2 : rN n.toNat (mapM trF n xs) = nn) (h3 : rC (mapM trF n xs) = ee) : rL (mapM dagF n xs) = zs.map Nm.conj ∧ rN n.toNat (mapM dagF n xs) = nn ∧ rC (mapM dagF n xs) = ee := by
  rw [h]
  subst h1 h2 h3
  cases mapM trF n xs with
  | ok l => exact ⟨rfl, rfl, rfl⟩
  | error c => exact ⟨rfl, rfl, rfl⟩
set_option maxRecDepth 100000 in
set_option maxHeartbeats 1000000 in
theorem rdagger_any (n : Int) (xs : List Nm) (a : Option Addr) (c : Nat) (hl : xs.length ≤ 1000000) (w : World) (hA : AS w a (nms xs)) : Calls Try.prog 30 #[.agg #[.int .i64 n, .slice a xs.length c]] w fun e w' => RetM w (rN n.toNat (mapM dagF n xs)) (rL (mapM dagF n xs)) (rC (mapM dagF n xs)) e w' := by
  go_enter Try.func30, Try.ntmps30
  refine wk_start ?_
  refine wk_seq ?_
  refine wk_region [1, 1, 0] rfl (by kernel_rfl) ?_
  simp only [qy]
  refine rg_new (cs := ?_) (ty := ?_) (by rfl) (fun w => ?_) (fun _ h => by cases h) (fun g1 => ?_); rotate_left 2
  focus (go_simp; rfl)
  simp only [qz]
  refine rg_new (cs := ?_) (ty := ?_) (by rfl) (fun w => ?_) (fun _ h => by cases h) (fun g2 => ?_); rotate_left 2
  focus (go_simp; rfl)
  simp only [qz]
  refine rg_assign ?_
  simp only [qz]
  refine rg_nil (ek_next (wk_seq ?_))
  refine wk_region [0, 1, 0, 0, 0, 1, 1, 0] rfl (by kernel_rfl) ?_
  simp only [qy]
  refine rf_loadR (n := 2) rfl rfl rfl Try.underlying24 rfl (by kernel_rfl) (fun w hw => Kn.hd0 (Kn.tl hw)) rfl rfl ?_
  simp only [qz]
  apply rg_retM (by rfl) (by kernel_rfl)
  case hargs => (simp only [qm, qs, Act.eval]; exact rfl)
  case h => exact fun w hw => rtranspose_any n xs a c hl w (hA.kn0 hw)
  case hz => exact (fun _ h => by cases h)
  intro va3 vc3 u3 hO3
  simp only [qz]
  have hzl := mapM_trLen n xs
  have hzo := mapM_trOk n xs
  have hdg := mapM_dag n xs
  obtain ⟨zs, hzs⟩ : ∃ r, rL (mapM trF n xs) = r := ⟨_, rfl⟩
  obtain ⟨nn, hnn⟩ : ∃ r, rN n.toNat (mapM trF n xs) = r := ⟨_, rfl⟩
  obtain ⟨ee, hee⟩ : ∃ r, rC (mapM trF n xs) = r := ⟨_, rfl⟩
  rw [hzs] at hO3 hzl hzo ⊢
  rw [hnn, hee]
  obtain ⟨fd1, fd2, fd3⟩ := dag_parts hdg hzs hnn hee
  replace fd1 := Lib.hid fd1
  replace fd2 := Lib.hid fd2
  replace fd3 := Lib.hid fd3
  clear hdg hzs hnn hee
  refine rg_move ?_
  simp only [qz]
  refine rf_extract rfl rfl rfl rfl ?_
  simp only [qz]
  refine rf_extract rfl rfl rfl rfl ?_
  simp only [qz]
  refine rg_new (cs := ?_) (ty := ?_) (by rfl) (fun w => ?_) (fun _ h => by cases h) (fun g4 => ?_); rotate_left 2
  focus (go_simp; rfl)
  simp only [qz]
  refine rf_storeR (n := 2) rfl rfl (by kernel_rfl) rfl rfl (UpdR.here _ _ _ (Nat.le_of_ble_eq_true rfl)) (fun _ h => by cases h) ?_
  simp only [qz, Nat.reduceAdd]
  refine rg_assign ?_
  simp only [qz]
  refine rg_nil (ek_next (wk_seq (wk_seq ?_)))
  refine wk_region [0] rfl (by kernel_rfl) ?_
  simp only [qy]
  refine rg_assign ?_
  simp only [qz]
  refine rg_nil (ek_next (wk_block ?_))
  refine wk_loopF [6, 12, 13, 14, 15, 16, 17, 18, 19, 20, 21, 22, 23, 24, 25, 26, 27, 28] (fun mz f s => ∃ (i : Nat) (u : List Blk), f 6 = .int .i64 i ∧ s = ((g4, .cells #[.int .i64 nn, .slice va3 zs.length vc3] 24) :: (u ++ ((g2, .cells #[.int .i64 0, .slice none 0 0] 24) :: ((g1, .cells #[.int .i64 n, .slice a xs.length c] 24) :: [])))) ∧ mz = zs.length - i ∧ i ≤ zs.length ∧ OwnN u (.slice va3 zs.length vc3) (cjL zs i)) ((fun (i : Nat) (u : List Blk) => zs.length - i) (0) (u3)) ?_ (by kernel_rfl) ?_
  · exact ⟨0, u3, rfl, rfl, rfl, by omega, (by rw [show cjL zs 0 = zs by simp [cjL]]; exact hO3)⟩
  rintro mz f1 s ⟨i, u, hs1_6, rfl, hn, hd1, hd2⟩
  simp only [Act.putF, List.foldl_cons, List.foldl_nil, hs1_6, Act.put, Act.eval, q1, q2, q3, q4, q5, q6, q7, q8, q9, q10, q11, q12, q13, q14, q15, q16, q17, q18, Nat.reduceAdd, Bool.not_true, Bool.not_false]
  clear hs1_6
  refine wk_seq (wk_seq ?_)
  refine wk_region [0, 0, 0, 0, 0] rfl (by kernel_rfl) ?_
  simp only [qy]
  refine rg_move ?_
  simp only [qz]
  refine rf_field (n := 0) (j := 1) rfl rfl rfl Try.underlying24 rfl (by kernel_rfl) rfl ?_
  simp only [qz]
  refine rf_load rfl rfl rfl Try.underlying22 rfl (fun w hw => (Kn.hd0 hw).at rfl) ?_
  simp only [qz]
  refine rf_len rfl rfl rfl Try.underlying22 ?_
  simp only [qz]
  refine rfb_lss rfl rfl rfl rfl ?_
  intro x h1
  cases x
  · (try simp only [qd, ne_eq] at h1)
    simp only [qz]
    refine rg_nil (ek_next (wk_cond_f rfl (wk_exit (ek_then_exit (ek_then_exit (ek_block_exit (ek_next (wk_seq ?_))))))))
    refine wk_region [0, 0, 1, 0] rfl (by kernel_rfl) ?_
    simp only [qy]
    refine rf_loadR (n := 2) rfl rfl rfl Try.underlying24 rfl (by kernel_rfl) (fun w hw => Kn.hd0 hw) rfl rfl ?_
    simp only [qz]
    refine rg_move ?_
    simp only [qz]
    refine rf_storeR (n := 2) rfl rfl (by kernel_rfl) rfl rfl (UpdR.there _ (UpdR.app _ (UpdR.here _ _ _ (Nat.le_of_ble_eq_true rfl)))) (fun _ h => by cases h) ?_
    simp only [qz, Nat.reduceAdd]
    refine rg_assign ?_
    simp only [qz]
    refine rg_nil (ek_next (wk_ret ?_))
    refine ek_ret (fun w hw => ⟨rfl, _, run_results2 rfl rfl (Kn.hd0 (Kn.tlU (Kn.tl hw))) Try.underlying24 rfl (by kernel_rfl), ?_⟩)
    (try simp only [qz])
    obtain rfl : i = zs.length := by omega
    rw [fd1.out, fd2.out, fd3.out, ← cjL_all]
    exact ⟨_, u, rfl, hd2, hw.made (List.Sublist.cons _ (List.sublist_append_left _ _))⟩
  (try simp only [qd, ne_eq] at h1)
  simp only [qz]
  refine rg_nil (ek_next (wk_cond_t rfl (wk_skip (ek_next (wk_seq (wk_block ?_))))))
  obtain ⟨go, capo, resto, hu, hvo, hco1, hco2, hco3⟩ := hd2.open (by rw [cjL_len]; omega)
  subst hu
  rw [cjL_len] at hvo hco1
  cases hvo
  have hcl := cjL_len zs i
  have hci := cjL_at (zs := zs) (i := i) (by omega)
  have hzi := hzo _ (NmE.at_mem (xs := zs) (k := i) (by omega))
  simp only [List.cons_append, List.nil_append]
  refine wk_draws_m (hz1 := (sc _ (sk _ (sc _ (sc _ sn))))) [(0, 0), (1, 0), (2, 0), (3, 0), (4, 0), (5, 0), (6, 0), (7, 0), (8, 1), (9, 0), (10, 2)] 10 (by kernel_rfl) (by kernel_rfl) (fun c d v a w h => by cases d <;> exact h) ?_
  simp only [List.map_cons, List.map_nil, List.getD_cons_zero, List.getD_cons_succ]
  refine rf_field (n := 0) (j := 1) rfl rfl rfl Try.underlying24 rfl (by kernel_rfl) rfl ?_
  simp only [qz]
  refine rf_load rfl rfl rfl Try.underlying22 rfl (fun w hw => (Kn.hd0 hw).at rfl) ?_
  simp only [qz]
  refine rg_move ?_
  simp only [qz]
  refine rf_field (n := 0) (j := 1) rfl rfl rfl Try.underlying24 rfl (by kernel_rfl) rfl ?_
  simp only [qz]
  refine rf_load rfl rfl rfl Try.underlying22 rfl (fun w hw => (Kn.hd0 hw).at rfl) ?_
  simp only [qz]
  refine rg_move ?_
  simp only [qz]
  refine rf_indexS (n := i) (sz := 5) (j := 0 + i * 5) rfl rfl rfl rfl Try.underlying22 (by kernel_rfl) (by first | rfl | omega) (by omega) rfl ?_
  simp only [qz]
  refine rf_loadC (n := 5) (vs := nmC (nm zs i)) rfl rfl rfl Try.underlying29 rfl (by kernel_rfl) rfl (fun w hw => by have h := fl_range (E := NmE) (Kn.hd0 (Kn.tl hw)) (k := i) (by omega); rw [show NmE.at (cjL zs i) i = nm zs i from hci] at h; exact h) ?_
  simp only [qz]
  apply rg_pure (by rfl) (by kernel_rfl)
  case hargs => (simp only [qm, qs, Act.eval]; exact rfl)
  case h => exact fun w hw => rcj_any (nm zs i) (Nm.fit_mono hzi.fit (by decide)) w
  case hz => exact (fun _ h => by cases h; exact (sc _ (sc _ (sc _ (sc _ sn)))))
  simp only [qz]
  refine rf_indexS (n := i) (sz := 5) (j := 0 + i * 5) rfl rfl rfl rfl Try.underlying22 (by kernel_rfl) (by first | rfl | omega) (by omega) rfl ?_
  simp only [qz]
  have hsz := nm_szR (cjL zs i) i (nm zs i).conj resto (by omega)
  refine rf_storeRM (n := 5) (vs := nmC (nm zs i).conj) rfl rfl (by kernel_rfl) rfl rfl (UpdR.there _ (UpdR.here _ _ _ hsz)) (sc _ (sk _ (sc _ (sc _ sn)))) ?_
  rw [nm_flR _ _ _ _ (by omega), cjL_set (by omega)]
  have hON := OwnN.fl (g := go) (n := zs.length) (l := cjL zs (i + 1)) (rest := resto) (cjL_len _ _) hco1 hco2 (by rw [List.length_append, El.flat_len, cjL_len] at hco3 ⊢; exact hco3)
  simp only [qz]
  refine rg_nil (ek_block (ek_next ?_))
  refine wk_region [0, 0, 0] rfl (by kernel_rfl) ?_
  simp only [qy]
  refine rg_move ?_
  simp only [qz]
  refine rf_add rfl rfl rfl rfl (wrap_ok (by omega) (by omega)) ?_
  simp only [qz]
  refine rg_assign ?_
  simp only [qz]
  refine rg_nil ?_
  refine ek_roundF (zs.length - (i + 1)) (by omega) (by kernel_rfl) ?_
  exact ⟨i + 1, [(go, _)], rfl, by rfl, by rfl, (by omega), hON⟩

/-- The first i rows of the identity, then zeros. -/
def idL (N i : Nat) : List Nm := (List.range (N * N)).map fun t => if t / N = t % N ∧ t / N < i then Nm.one else Nm.zero
theorem idL_len (N i : Nat) : (idL N i).length = N * N := by simp [idL]
theorem idL_zero (N : Nat) : idL N 0 = List.replicate (N * N) Nm.zero := by
  unfold idL
  rw [List.map_congr_left (g := fun _ => Nm.zero) (fun t _ => if_neg (by omega)), List.map_const', List.length_range]
theorem idL_set {N i : Nat} (h : i < N) : (idL N i).set (i * N + i) Nm.one = idL N (i + 1) := by
  have hlt := ix_lt h h
  refine NmE.ext_at (by rw [List.length_set, idL_len, idL_len]) fun t ht => ?_
  rw [List.length_set, idL_len] at ht
  have at_ : ∀ j, NmE.at (idL N j) t = if t / N = t % N ∧ t / N < j then Nm.one else Nm.zero := fun j => by
    unfold El.at idL
    rw [List.getD_eq_getElem?_getD, List.getElem?_map, List.getElem?_range ht]
    rfl
  rw [El.at_set _ _ _ _ (by rw [idL_len]; exact hlt), at_, at_]
  by_cases e : t = i * N + i
  · subst e
    rw [if_pos rfl, ix_div h, ix_mod h, if_pos ⟨rfl, by omega⟩]
  rw [if_neg e]
  have hd := Nat.div_add_mod' t N
  by_cases e2 : t / N = t % N ∧ t / N < i
  · rw [if_pos e2, if_pos ⟨e2.1, by omega⟩]
  rw [if_neg e2, if_neg]
  rintro ⟨e3, e4⟩
  have : t / N = i := by
    rcases (by omega : t / N < i ∨ t / N = i) with h | h
    · exact absurd ⟨e3, h⟩ e2
    · exact h
  rw [← e3, this] at hd
  exact e hd.symm
theorem ident_ok {n : Int} (N : Nat) (hn : n = N) (h1 : 1 ≤ N) (h2 : N ≤ 6) : identR n = .ok (idL N N) := by
  subst hn
  unfold identR
  rw [if_pos (by omega), Int.toNat_natCast]
  have h : madeR N idR = .ok ((List.range (N * N)).map fun t => if t / N = t % N then Nm.one else Nm.zero) := gather_pure _ _
  rw [h]
  congr 1
  refine List.map_congr_left fun t ht => ?_
  have hlt : t / N < N := Nat.div_lt_of_lt_mul (List.mem_range.1 ht)
  by_cases e : t / N = t % N
  · rw [if_pos e, if_pos ⟨e, hlt⟩]
  rw [if_neg e, if_neg (fun h => e h.1)]
set_option maxRecDepth 100000 in
set_option maxHeartbeats 1000000 in
theorem ridentity_any (n : Int) (w : World) : Calls Try.prog 23 #[.int .i64 n] w fun e w' => RetM w (rN n.toNat (identR n)) (rL (identR n)) (rC (identR n)) e w' := by
  go_enter Try.func23, Try.ntmps23
  refine wk_start ?_
  refine wk_seq ?_
  refine wk_region [1, 0] rfl (by kernel_rfl) ?_
  simp only [qy]
  refine rg_new (cs := ?_) (ty := ?_) (by rfl) (fun w => ?_) (fun _ h => by cases h) (fun g1 => ?_); rotate_left 2
  focus (go_simp; rfl)
  simp only [qz]
  refine rg_assign ?_
  simp only [qz]
  refine rg_nil (ek_next (wk_seq (wk_seq ?_)))
  refine wk_region [0, 0, 0, 0, 0, 0] rfl (by kernel_rfl) ?_
  simp only [qy]
  refine rg_move ?_
  simp only [qz]
  refine rfb_lss rfl rfl rfl rfl ?_
  intro x h1
  cases x
  · (try simp only [qd, ne_eq] at h1)
    simp only [qz]
    refine rg_move ?_
    simp only [qz]
    apply rg_soft_g
    case hg => rfl
    case hy => (intro w hw; go_simp; (try go_bits); exact Yld.mk _ _)
    simp only [qz]
    refine rfb_gtr rfl rfl rfl rfl ?_
    intro x h2
    cases x
    · (try simp only [qd, ne_eq] at h2)
      simp only [qz]
      refine rf_pick rfl rfl rfl ?_
      simp only [qz]
      refine rg_nil (ek_next (wk_cond_f rfl (wk_skip (ek_next (wk_seq ?_)))))
      refine wk_region [0, 1, 1, 1] rfl (by kernel_rfl) ?_
      simp only [qy]
      refine rg_move ?_
      simp only [qz]
      obtain ⟨N, rfl⟩ : ∃ N : Nat, n = N := ⟨n.toNat, by omega⟩
      have hN1 : 1 ≤ N := by omega
      have hN : N ≤ 6 := by omega
      have hN2 := Nat.mul_le_mul hN hN
      apply rg_made (T := fun v u => ∃ g, v = .agg #[.int .i64 (N : Int), .slice (some ⟨g, 0, none⟩) (N * N) (N * N)] ∧ u = [(g, .cells (NmE.flat (List.replicate (N * N) Nm.zero) ++ []).toArray 29)]) (by rfl) (by kernel_rfl)
      case hargs => (simp only [qm, qs, Act.eval]; exact rfl)
      case h => exact fun w hw => (zeros_any N hN w).mono (fun e w' ⟨g, he, hm⟩ => ⟨_, _, he, ⟨g, rfl, rfl⟩, hm⟩)
      case hz => exact (fun _ h => by cases h)
      rintro _ _ ⟨go, rfl, rfl⟩
      simp only [List.cons_append, List.nil_append]
      simp only [qz]
      rw [← idL_zero]
      refine rg_new (cs := ?_) (ty := ?_) (by rfl) (fun w => ?_) (fun _ h => by cases h) (fun g2 => ?_); rotate_left 2
      focus (go_simp; rfl)
      simp only [qz]
      refine rf_storeR (n := 2) rfl rfl (by kernel_rfl) rfl rfl (UpdR.here _ _ _ (Nat.le_of_ble_eq_true rfl)) (fun _ h => by cases h) ?_
      simp only [qz, Nat.reduceAdd]
      refine rg_nil (ek_next (wk_seq (wk_seq ?_)))
      refine wk_region [0] rfl (by kernel_rfl) ?_
      simp only [qy]
      refine rg_assign ?_
      simp only [qz]
      refine rg_nil (ek_next (wk_block ?_))
      refine wk_loopF [5, 15, 16, 17, 18, 19, 20, 21, 22, 23, 24, 25, 26, 27, 28] (fun mz f s => ∃ (i : Nat), f 5 = .int .i64 i ∧ s = ((g2, .cells #[.int .i64 N, .slice (some ⟨go, 0, none⟩) (N * N) (N * N)] 24) :: ((go, .cells (NmE.flat (idL N i) ++ []).toArray 29) :: ((g1, .cells #[.int .i64 0, .slice none 0 0] 24) :: []))) ∧ mz = N - i ∧ i ≤ N) ((fun (i : Nat) => N - i) (0)) ?_ (by kernel_rfl) ?_
      · exact ⟨0, rfl, rfl, rfl, by omega⟩
      rintro mz f1 s ⟨i, hs1_5, rfl, hn, hd1⟩
      simp only [Act.putF, List.foldl_cons, List.foldl_nil, hs1_5, Act.put, Act.eval, q1, q2, q3, q4, q5, q6, q7, q8, q9, q10, q11, q12, q13, q14, q15, q16, q17, q18, Nat.reduceAdd, Bool.not_true, Bool.not_false]
      clear hs1_5
      refine wk_seq (wk_seq ?_)
      refine wk_region [0, 0, 0] rfl (by kernel_rfl) ?_
      simp only [qy]
      refine rg_move ?_
      simp only [qz]
      refine rg_move ?_
      simp only [qz]
      refine rfb_lss rfl rfl rfl rfl ?_
      intro x h3
      cases x
      · (try simp only [qd, ne_eq] at h3)
        simp only [qz]
        refine rg_nil (ek_next (wk_cond_f rfl (wk_exit (ek_then_exit (ek_then_exit (ek_block_exit (ek_next (wk_seq ?_))))))))
        refine wk_region [0, 1, 0] rfl (by kernel_rfl) ?_
        simp only [qy]
        refine rf_loadR (n := 2) rfl rfl rfl Try.underlying24 rfl (by kernel_rfl) (fun w hw => Kn.hd0 hw) rfl rfl ?_
        simp only [qz]
        refine rf_storeR (n := 2) rfl rfl (by kernel_rfl) rfl rfl (UpdR.there _ (UpdR.there _ (UpdR.here _ _ _ (Nat.le_of_ble_eq_true rfl)))) (fun _ h => by cases h) ?_
        simp only [qz, Nat.reduceAdd]
        refine rg_assign ?_
        simp only [qz]
        refine rg_nil (ek_next (wk_ret ?_))
        refine ek_ret (fun w hw => ⟨rfl, _, run_results2 rfl rfl (Kn.hd0 (Kn.tl (Kn.tl hw))) Try.underlying24 rfl (by kernel_rfl), ?_⟩)
        (try simp only [qz])
        obtain rfl : i = N := by omega
        rw [ident_ok i rfl hN1 hN, Int.toNat_natCast]
        exact ⟨_, [(go, _)], rfl, ownN_fl (idL_len _ _) (by omega), hw.made (sk _ (sc _ (sk _ sn)))⟩
      (try simp only [qd, ne_eq] at h3)
      simp only [qz]
      refine rg_nil (ek_next (wk_cond_t rfl (wk_skip (ek_next (wk_seq (wk_block ?_))))))
      refine wk_draws_m (hz1 := (sc _ (sk _ (sc _ sn)))) [(0, 0), (1, 0), (2, 0), (3, 0), (4, 0), (5, 0), (6, 0), (7, 1), (8, 0), (9, 2)] 9 (by kernel_rfl) (by kernel_rfl) (fun c d v a w h => by cases d <;> exact h) ?_
      simp only [List.map_cons, List.map_nil, List.getD_cons_zero, List.getD_cons_succ]
      refine rf_field (n := 0) (j := 1) rfl rfl rfl Try.underlying24 rfl (by kernel_rfl) rfl ?_
      simp only [qz]
      refine rf_load rfl rfl rfl Try.underlying22 rfl (fun w hw => (Kn.hd0 hw).at rfl) ?_
      simp only [qz]
      refine rg_move ?_
      simp only [qz]
      refine rg_move ?_
      simp only [qz]
      have hii := ix_lt (N := N) (i := i) (k := i) (by omega) (by omega)
      refine rf_mul (r := ((i * N : Nat) : Int)) rfl rfl rfl rfl (wrap_eqB (Int.natCast_mul i N).symm (by omega) (by omega)) ?_
      simp only [qz]
      refine rg_move ?_
      simp only [qz]
      refine rf_add (r := ((i * N + i : Nat) : Int)) rfl rfl rfl rfl (wrap_eqB (Int.natCast_add _ _).symm (by omega) (by omega)) ?_
      simp only [qz]
      apply rg_pure (by rfl) (by kernel_rfl)
      case hargs => (simp only [qm, qs, Act.eval]; exact rfl)
      case h => exact fun w hw => rOne_any w
      case hz => exact (fun _ h => by cases h; exact (sc _ (sc _ (sc _ sn))))
      simp only [qz]
      refine rf_indexS (n := i * N + i) (sz := 5) (j := 0 + (i * N + i) * 5) rfl rfl rfl rfl Try.underlying22 (by kernel_rfl) rfl (by omega) rfl ?_
      simp only [qz]
      have hidl := idL_len N i
      have hsz := nm_sz (idL N i) (i * N + i) Nm.one (by omega)
      refine rf_storeRM (n := 5) (vs := nmC Nm.one) rfl rfl (by kernel_rfl) rfl rfl (UpdR.there _ (UpdR.here _ _ _ hsz)) (sc _ (sk _ (sc _ sn))) ?_
      rw [nm_fl _ _ _ (by omega), idL_set (by omega)]
      simp only [qz]
      refine rg_nil (ek_block (ek_next ?_))
      refine wk_region [0, 0, 0] rfl (by kernel_rfl) ?_
      simp only [qy]
      refine rg_move ?_
      simp only [qz]
      refine rf_add rfl rfl rfl rfl (wrap_ok (by omega) (by omega)) ?_
      simp only [qz]
      refine rg_assign ?_
      simp only [qz]
      refine rg_nil ?_
      refine ek_roundF (N - (i + 1)) (by omega) (by kernel_rfl) ?_
      exact ⟨i + 1, rfl, by rfl, by rfl, (by omega)⟩
    (try simp only [qd, ne_eq] at h2)
    simp only [qz]
    refine rf_pick rfl rfl rfl ?_
    simp only [qz]
    refine rg_nil (ek_next (wk_cond_t rfl (wk_seq ?_)))
    refine wk_region [0, 1, 0] rfl (by kernel_rfl) ?_
    simp only [qy]
    refine rf_build (cs := fun a => #[.int .i64 0, .slice none 0 0]) rfl rfl (by kernel_rfl) ?_
    simp only [qz]
    refine rf_storeR (n := 2) rfl rfl (by kernel_rfl) rfl rfl (UpdR.here _ _ _ (Nat.le_of_ble_eq_true rfl)) (fun _ h => by cases h) ?_
    simp only [qz, Nat.reduceAdd]
    refine rg_assign ?_
    simp only [qz]
    refine rg_nil (ek_next (wk_ret (ek_then_ret ?_)))
    refine ek_ret (fun w hw => ⟨rfl, _, run_results2 rfl rfl (Kn.hd0 hw) Try.underlying24 rfl (by kernel_rfl), ?_⟩)
    (try simp only [qz])
    have hid : identR n = .error 2 := by (unfold identR; rw [if_neg (by omega)])
    rw [hid]
    exact ⟨.slice none 0 0, [], rfl, OwnG.nil, .nil hw.below⟩
  (try simp only [qd, ne_eq] at h1)
  simp only [qz]
  refine rg_move ?_
  simp only [qz]
  refine rg_skip (by rfl) ?_
  simp only [qz]
  refine rg_skip (by rfl) ?_
  simp only [qz]
  refine rf_pick rfl rfl rfl ?_
  simp only [qz]
  refine rg_nil (ek_next (wk_cond_t rfl (wk_seq ?_)))
  refine wk_region [0, 1, 0] rfl (by kernel_rfl) ?_
  simp only [qy]
  refine rf_build (cs := fun a => #[.int .i64 0, .slice none 0 0]) rfl rfl (by kernel_rfl) ?_
  simp only [qz]
  refine rf_storeR (n := 2) rfl rfl (by kernel_rfl) rfl rfl (UpdR.here _ _ _ (Nat.le_of_ble_eq_true rfl)) (fun _ h => by cases h) ?_
  simp only [qz, Nat.reduceAdd]
  refine rg_assign ?_
  simp only [qz]
  refine rg_nil (ek_next (wk_ret (ek_then_ret ?_)))
  refine ek_ret (fun w hw => ⟨rfl, _, run_results2 rfl rfl (Kn.hd0 hw) Try.underlying24 rfl (by kernel_rfl), ?_⟩)
  (try simp only [qz])
  have hid : identR n = .error 2 := by (unfold identR; rw [if_neg (by omega)])
  rw [hid]
  exact ⟨.slice none 0 0, [], rfl, OwnG.nil, .nil hw.below⟩

end Go.Proofs.Ytjeijnjaleldkaa
namespace Go.Proofs.Ytjeijnjaleldkaa
set_option linter.all false
open Go.RowKit

theorem gather_len_le {f : Nat → NR} : ∀ t, (rL (gather f t)).length ≤ t := fun t => by
  cases h : gather f t with
  | ok l => exact Nat.le_of_eq (gather_len h)
  | error c => exact Nat.zero_le _
theorem identR_len (n : Int) : (rL (identR n)).length ≤ 36 := by
  unfold identR
  split
  · have h1 : n.toNat ≤ 6 := by omega
    exact Nat.le_trans (gather_len_le _) (Nat.mul_le_mul h1 h1)
  exact Nat.zero_le _
theorem mapM_len' (F : Nat → List Nm → Nat → Nat → NR) (n : Int) (xs : List Nm) : (rL (mapM F n xs)).length ≤ 36 := by
  unfold mapM
  cases hv : validB n xs with
  | false => exact Nat.zero_le _
  | true =>
    obtain ⟨N, rfl, h1, h2, h3, h4, h5⟩ := validB_N' hv
    rw [if_pos rfl]
    refine Nat.le_trans (gather_len_le _) ?_
    rw [Int.toNat_natCast]
    exact Nat.mul_le_mul h2 h2
section
variable {R : Option Nat} {ops : Array Oper} {Q : Exit → Act → World → Prop} {B : World} {F : List Nat} {s0 : Option (List Blk × List Blk)} {P : Program}
variable {l : List (Oper × Nat)} {a : Act} {s : List Blk} {d : Option Tmp} {t : TypeId} {p : String} {af : Array Edge} {gd : Option (Nat × Bool)} {m : Nat}
/-- A truth value is no other than itself. -/
theorem rfb_bne {T : TypeId} {x y : Operand} {z : TypeId} (hu : P.underlying T = some .bool) (b : Bool) (hm : soft03 m = true) (hg : Region.wanted ⟨d, .binOp .neq T x y z, t, p, af, gd⟩ (yielded ops a.tmps) = true)
    (hx : a.eval x = .bool b) (hy : a.eval y = .bool b) (h : Rg R P ops Q B F s0 l (a.put d (.bool false)) s) : Rg R P ops Q B F s0 ((⟨d, .binOp .neq T x y z, t, p, af, gd⟩, m) :: l) a s := by
  refine rg_any hm hg (fun w => ?_) h
  unfold Yld
  cases b <;> simp [execOp, hx, hy, eqGuard, binOp, run_equal_bool w T _ _ hu]
end
set_option maxRecDepth 100000 in
set_option maxHeartbeats 1000000 in
theorem matrixForms_any (n : Int) (xs : List Nm) (a : Option Addr) (c : Nat) (p : Int) (w : World) (hA : AS w a (nms xs)) : Calls Try.prog 5 #[.agg #[.int .i64 n, .slice a xs.length c], .int .i64 p] w fun e w' => e = .returned (.bool true) ∧ Below w.heap.size w w' := by
  go_enter Try.func5, Try.ntmps5
  refine wk_start ?_
  refine wk_seq ?_
  refine wk_region [1, 0] rfl (by kernel_rfl) ?_
  simp only [qy]
  refine rg_new (cs := ?_) (ty := ?_) (by rfl) (fun w => ?_) (fun _ h => by cases h) (fun g1 => ?_); rotate_left 2
  focus (go_simp; rfl)
  simp only [qz]
  refine rg_assign ?_
  simp only [qz]
  refine rg_nil (ek_next (wk_seq (wk_seq ?_)))
  refine wk_region [0, 1] rfl (by kernel_rfl) ?_
  simp only [qy]
  refine rf_loadR (n := 2) rfl rfl rfl Try.underlying24 rfl (by kernel_rfl) (fun w hw => Kn.hd0 hw) rfl rfl ?_
  simp only [qz]
  apply rg_pureb (by rfl) (by kernel_rfl)
  case hargs => (simp only [qm, qs, Act.eval]; exact rfl)
  case h => exact fun w hw => wide_any n xs a c w
  case hz => exact (fun _ h => by cases h)
  intro x h1
  cases x
  · (try simp only [qd, ne_eq] at h1)
    simp only [qz]
    refine rg_nil (ek_next (wk_cond_f rfl (wk_skip (ek_next (wk_seq ?_)))))
    refine wk_region [0, 1, 0, 0, 0, 1, 1, 0] rfl (by kernel_rfl) ?_
    simp only [qy]
    refine rg_move ?_
    simp only [qz]
    apply rg_retM (by rfl) (by kernel_rfl)
    case hargs => (simp only [qm, qs, Act.eval]; exact rfl)
    case h => exact fun w hw => identity_any p w
    case hz => exact (fun _ h => by cases h)
    intro va2 vc2 u2 hO2
    simp only [qz]
    refine rg_move ?_
    simp only [qz]
    refine rf_extract rfl rfl rfl rfl ?_
    simp only [qz]
    refine rf_extract rfl rfl rfl rfl ?_
    simp only [qz]
    refine rg_new (cs := ?_) (ty := ?_) (by rfl) (fun w => ?_) (fun _ h => by cases h) (fun g3 => ?_); rotate_left 2
    focus (go_simp; rfl)
    simp only [qz]
    refine rf_storeR (n := 2) rfl rfl (by kernel_rfl) rfl rfl (UpdR.here _ _ _ (Nat.le_of_ble_eq_true rfl)) (fun _ h => by cases h) ?_
    simp only [qz, Nat.reduceAdd]
    refine rg_assign ?_
    simp only [qz]
    refine rg_nil (ek_next (wk_seq ?_))
    refine wk_region [0, 1, 0, 0, 0, 1, 1, 0] rfl (by kernel_rfl) ?_
    simp only [qy]
    refine rg_move ?_
    simp only [qz]
    apply rg_retM (by rfl) (by kernel_rfl)
    case hargs => (simp only [qm, qs, Act.eval]; exact rfl)
    case h => exact fun w hw => ridentity_any p w
    case hz => exact (fun _ h => by cases h)
    intro va4 vc4 u4 hO4
    simp only [qz]
    refine rg_move ?_
    simp only [qz]
    refine rf_extract rfl rfl rfl rfl ?_
    simp only [qz]
    refine rf_extract rfl rfl rfl rfl ?_
    simp only [qz]
    refine rg_new (cs := ?_) (ty := ?_) (by rfl) (fun w => ?_) (fun _ h => by cases h) (fun g5 => ?_); rotate_left 2
    focus (go_simp; rfl)
    simp only [qz]
    refine rf_storeR (n := 2) rfl rfl (by kernel_rfl) rfl rfl (UpdR.here _ _ _ (Nat.le_of_ble_eq_true rfl)) (fun _ h => by cases h) ?_
    simp only [qz, Nat.reduceAdd]
    refine rg_assign ?_
    simp only [qz]
    refine rg_nil (ek_next (wk_seq (wk_seq ?_)))
    refine wk_draws _ _ [(0, 0), (2, 0), (1, 1), (3, 1), (4, 0), (5, 0), (6, 0), (7, 0), (8, 1), (9, 0), (10, 0), (11, 0), (12, 0), (13, 0), (14, 0), (15, 0)] [] (by kernel_rfl) (by kernel_rfl) (fun c d v a w h => by cases d <;> exact h) ((sc _ (List.Sublist.append_left (sc _ (List.Sublist.append_left (sc _ sn) _)) _))) (fun e => by first | exact absurd e (by decide) | rfl) ?_
    simp only [List.map_cons, List.map_nil, List.getD_cons_zero, List.getD_cons_succ]
    refine rf_loadR (n := 2) rfl rfl rfl Try.underlying24 rfl (by kernel_rfl) (fun w hw => Kn.hd0 (Kn.tlU (Kn.tl (Kn.tlU (Kn.tl hw))))) rfl rfl ?_
    simp only [qz]
    refine rf_loadR (n := 2) rfl rfl rfl Try.underlying24 rfl (by kernel_rfl) (fun w hw => Kn.hd0 (Kn.tlU (Kn.tl (Kn.tlU (Kn.tl hw))))) rfl rfl ?_
    simp only [qz]
    apply rg_pure (by rfl) (by kernel_rfl)
    case hargs => (simp only [qm, qs, Act.eval]; exact rfl)
    case h => exact fun w hw => mvalid_any n xs a c (by omega) w (hA.kn0 hw)
    case hz => exact (fun _ h => by cases h; exact (sc _ (List.Sublist.append_left (sc _ (List.Sublist.append_left (sc _ sn) _)) _)))
    simp only [qz]
    apply rg_pure (by rfl) (by kernel_rfl)
    case hargs => (simp only [qm, qs, Act.eval]; exact rfl)
    case h => exact fun w hw => rmvalid_any n xs a c (by omega) w (hA.kn0 hw)
    case hz => exact (fun _ h => by cases h; exact (sc _ (List.Sublist.append_left (sc _ (List.Sublist.append_left (sc _ sn) _)) _)))
    simp only [qz]
    refine rfb_bne Try.underlying4 _ rfl rfl rfl rfl ?_
    simp only [qz]
    refine rg_move ?_
    simp only [qz]
    refine rf_loadR (n := 2) rfl rfl rfl Try.underlying24 rfl (by kernel_rfl) (fun w hw => Kn.hd0 (Kn.tlU (Kn.tl hw))) rfl rfl ?_
    simp only [qz]
    refine rf_loadR (n := 2) rfl rfl rfl Try.underlying24 rfl (by kernel_rfl) (fun w hw => Kn.hd0 hw) rfl rfl ?_
    simp only [qz]
    apply rg_pure (by rfl) (by kernel_rfl)
    case hargs => (simp only [qm, qs, Act.eval]; exact rfl)
    case h => exact fun w hw => rSame_eq _ _ _ _ _ _ (by have := identR_len p; omega) w (OwnN.asN hO2 (hw.perm ((((((((List.Perm.refl _).cons _).trans (List.perm_middle (l₁ := u2)).symm).append_left _).trans (List.perm_append_comm_assoc u4 u2 _)).cons _).trans (List.perm_middle (l₁ := u2)).symm).trans ((List.Perm.refl _).append_left _)))) (OwnN.asN hO4 (hw.perm (perm_atU (l := [_]) (u := u4) (List.Perm.refl _))))
    case hz => exact (fun _ h => by cases h; exact (sc _ (List.Sublist.append_left (sc _ (List.Sublist.append_left (sc _ sn) _)) _)))
    simp only [qz]
    refine rf_not rfl rfl rfl ?_
    simp only [qz]
    refine rf_pick rfl rfl rfl ?_
    simp only [qz]
    refine rg_move ?_
    simp only [qz]
    apply rg_soft_g
    case hg => rfl
    case hy => (intro w hw; go_simp; (try go_bits); exact Yld.mk _ _)
    simp only [qz]
    apply rg_soft_g
    case hg => rfl
    case hy => (intro w hw; go_simp; (try go_bits); exact Yld.mk _ _)
    simp only [qz]
    refine rfb_neq rfl rfl rfl rfl ?_
    intro x h2
    obtain rfl : x = false := by (refine h2.symm.trans ?_; exact decide_eq_false (by omega))
    clear h2
    simp only [qz]
    refine rf_pick rfl rfl rfl ?_
    simp only [qz]
    refine rg_nil (ek_next (wk_cond_f rfl (wk_skip (ek_next (wk_seq ?_)))))
    refine wk_region [0, 1, 0, 0, 0, 1, 1, 0] rfl (by kernel_rfl) ?_
    simp only [qy]
    refine rf_loadR (n := 2) rfl rfl rfl Try.underlying24 rfl (by kernel_rfl) (fun w hw => Kn.hd0 (Kn.tlU (Kn.tl (Kn.tlU (Kn.tl hw))))) rfl rfl ?_
    simp only [qz]
    apply rg_retM (by rfl) (by kernel_rfl)
    case hargs => (simp only [qm, qs, Act.eval]; exact rfl)
    case h => exact fun w hw => mtranspose_any n xs a c (by omega) w (hA.kn0 hw)
    case hz => exact (fun _ h => by cases h)
    intro va6 vc6 u6 hO6
    simp only [qz]
    refine rg_move ?_
    simp only [qz]
    refine rf_extract rfl rfl rfl rfl ?_
    simp only [qz]
    refine rf_extract rfl rfl rfl rfl ?_
    simp only [qz]
    refine rg_new (cs := ?_) (ty := ?_) (by rfl) (fun w => ?_) (fun _ h => by cases h) (fun g7 => ?_); rotate_left 2
    focus (go_simp; rfl)
    simp only [qz]
    refine rf_storeR (n := 2) rfl rfl (by kernel_rfl) rfl rfl (UpdR.here _ _ _ (Nat.le_of_ble_eq_true rfl)) (fun _ h => by cases h) ?_
    simp only [qz, Nat.reduceAdd]
    refine rg_assign ?_
    simp only [qz]
    refine rg_nil (ek_next (wk_seq ?_))
    refine wk_region [0, 1, 0, 0, 0, 1, 1, 0] rfl (by kernel_rfl) ?_
    simp only [qy]
    refine rf_loadR (n := 2) rfl rfl rfl Try.underlying24 rfl (by kernel_rfl) (fun w hw => Kn.hd0 (Kn.tlU (Kn.tl (Kn.tlU (Kn.tl (Kn.tlU (Kn.tl hw))))))) rfl rfl ?_
    simp only [qz]
    apply rg_retM (by rfl) (by kernel_rfl)
    case hargs => (simp only [qm, qs, Act.eval]; exact rfl)
    case h => exact fun w hw => rtranspose_any n xs a c (by omega) w (hA.kn0 hw)
    case hz => exact (fun _ h => by cases h)
    intro va8 vc8 u8 hO8
    simp only [qz]
    refine rg_move ?_
    simp only [qz]
    refine rf_extract rfl rfl rfl rfl ?_
    simp only [qz]
    refine rf_extract rfl rfl rfl rfl ?_
    simp only [qz]
    refine rg_new (cs := ?_) (ty := ?_) (by rfl) (fun w => ?_) (fun _ h => by cases h) (fun g9 => ?_); rotate_left 2
    focus (go_simp; rfl)
    simp only [qz]
    refine rf_storeR (n := 2) rfl rfl (by kernel_rfl) rfl rfl (UpdR.here _ _ _ (Nat.le_of_ble_eq_true rfl)) (fun _ h => by cases h) ?_
    simp only [qz, Nat.reduceAdd]
    refine rg_assign ?_
    simp only [qz]
    refine rg_nil (ek_next (wk_seq ?_))
    refine wk_region [0, 1, 0, 0, 0, 1, 1, 0] rfl (by kernel_rfl) ?_
    simp only [qy]
    refine rf_loadR (n := 2) rfl rfl rfl Try.underlying24 rfl (by kernel_rfl) (fun w hw => Kn.hd0 (Kn.tlU (Kn.tl (Kn.tlU (Kn.tl (Kn.tlU (Kn.tl (Kn.tlU (Kn.tl hw))))))))) rfl rfl ?_
    simp only [qz]
    apply rg_retM (by rfl) (by kernel_rfl)
    case hargs => (simp only [qm, qs, Act.eval]; exact rfl)
    case h => exact fun w hw => mdagger_any n xs a c (by omega) w (hA.kn0 hw)
    case hz => exact (fun _ h => by cases h)
    intro va10 vc10 u10 hO10
    simp only [qz]
    refine rg_move ?_
    simp only [qz]
    refine rf_extract rfl rfl rfl rfl ?_
    simp only [qz]
    refine rf_extract rfl rfl rfl rfl ?_
    simp only [qz]
    refine rg_new (cs := ?_) (ty := ?_) (by rfl) (fun w => ?_) (fun _ h => by cases h) (fun g11 => ?_); rotate_left 2
    focus (go_simp; rfl)
    simp only [qz]
    refine rf_storeR (n := 2) rfl rfl (by kernel_rfl) rfl rfl (UpdR.here _ _ _ (Nat.le_of_ble_eq_true rfl)) (fun _ h => by cases h) ?_
    simp only [qz, Nat.reduceAdd]
    refine rg_assign ?_
    simp only [qz]
    refine rg_nil (ek_next (wk_seq ?_))
    refine wk_region [0, 1, 0, 0, 0, 1, 1, 0] rfl (by kernel_rfl) ?_
    simp only [qy]
    refine rf_loadR (n := 2) rfl rfl rfl Try.underlying24 rfl (by kernel_rfl) (fun w hw => Kn.hd0 (Kn.tlU (Kn.tl (Kn.tlU (Kn.tl (Kn.tlU (Kn.tl (Kn.tlU (Kn.tl (Kn.tlU (Kn.tl hw))))))))))) rfl rfl ?_
    simp only [qz]
    apply rg_retM (by rfl) (by kernel_rfl)
    case hargs => (simp only [qm, qs, Act.eval]; exact rfl)
    case h => exact fun w hw => rdagger_any n xs a c (by omega) w (hA.kn0 hw)
    case hz => exact (fun _ h => by cases h)
    intro va12 vc12 u12 hO12
    simp only [qz]
    refine rg_move ?_
    simp only [qz]
    refine rf_extract rfl rfl rfl rfl ?_
    simp only [qz]
    refine rf_extract rfl rfl rfl rfl ?_
    simp only [qz]
    refine rg_new (cs := ?_) (ty := ?_) (by rfl) (fun w => ?_) (fun _ h => by cases h) (fun g13 => ?_); rotate_left 2
    focus (go_simp; rfl)
    simp only [qz]
    refine rf_storeR (n := 2) rfl rfl (by kernel_rfl) rfl rfl (UpdR.here _ _ _ (Nat.le_of_ble_eq_true rfl)) (fun _ h => by cases h) ?_
    simp only [qz, Nat.reduceAdd]
    refine rg_assign ?_
    simp only [qz]
    refine rg_nil (ek_next (wk_seq ?_))
    refine wk_region [0, 1, 0, 0, 0, 0, 0] rfl (by kernel_rfl) ?_
    simp only [qy]
    refine rf_loadR (n := 2) rfl rfl rfl Try.underlying24 rfl (by kernel_rfl) (fun w hw => Kn.hd0 (Kn.tlU (Kn.tl (Kn.tlU (Kn.tl (Kn.tlU (Kn.tl (Kn.tlU (Kn.tl (Kn.tlU (Kn.tl (Kn.tlU (Kn.tl hw))))))))))))) rfl rfl ?_
    simp only [qz]
    apply rg_pure (by rfl) (by kernel_rfl)
    case hargs => (simp only [qm, qs, Act.eval]; exact rfl)
    case h => exact fun w hw => mExponent_any n xs a c (by omega) w (hA.kn0 hw)
    case hz => exact (fun _ h => by cases h)
    simp only [qz]
    refine rg_move ?_
    simp only [qz]
    refine rf_extract rfl rfl rfl rfl ?_
    simp only [qz]
    refine rf_extract rfl rfl rfl rfl ?_
    simp only [qz]
    refine rg_assign ?_
    simp only [qz]
    refine rg_assign ?_
    simp only [qz]
    refine rg_nil (ek_next (wk_seq ?_))
    refine wk_region [0, 1, 0, 0, 0, 0, 0] rfl (by kernel_rfl) ?_
    simp only [qy]
    refine rf_loadR (n := 2) rfl rfl rfl Try.underlying24 rfl (by kernel_rfl) (fun w hw => Kn.hd0 (Kn.tlU (Kn.tl (Kn.tlU (Kn.tl (Kn.tlU (Kn.tl (Kn.tlU (Kn.tl (Kn.tlU (Kn.tl (Kn.tlU (Kn.tl hw))))))))))))) rfl rfl ?_
    simp only [qz]
    apply rg_pure (by rfl) (by kernel_rfl)
    case hargs => (simp only [qm, qs, Act.eval]; exact rfl)
    case h => exact fun w hw => rExponent_any n xs a c (by omega) w (hA.kn0 hw)
    case hz => exact (fun _ h => by cases h)
    simp only [qz]
    refine rg_move ?_
    simp only [qz]
    refine rf_extract rfl rfl rfl rfl ?_
    simp only [qz]
    refine rf_extract rfl rfl rfl rfl ?_
    simp only [qz]
    refine rg_assign ?_
    simp only [qz]
    refine rg_assign ?_
    simp only [qz]
    refine rg_nil (ek_next (wk_seq ?_))
    refine wk_region [0, 0, 1, 0, 0, 0, 0, 0, 0, 0, 0, 1, 0, 0, 0, 0, 0, 0, 0, 0, 0, 0, 0, 0, 0, 0, 0, 0, 0, 1, 0, 0] rfl (by kernel_rfl) ?_
    simp only [qy]
    refine rf_loadR (n := 2) rfl rfl rfl Try.underlying24 rfl (by kernel_rfl) (fun w hw => Kn.hd0 (Kn.tlU (Kn.tl (Kn.tlU (Kn.tl (Kn.tlU (Kn.tl hw))))))) rfl rfl ?_
    simp only [qz]
    refine rf_loadR (n := 2) rfl rfl rfl Try.underlying24 rfl (by kernel_rfl) (fun w hw => Kn.hd0 (Kn.tlU (Kn.tl (Kn.tlU (Kn.tl hw))))) rfl rfl ?_
    simp only [qz]
    apply rg_pure (by rfl) (by kernel_rfl)
    case hargs => (simp only [qm, qs, Act.eval]; exact rfl)
    case h => exact fun w hw => rSame_eq _ _ _ _ _ _ (by have := mapM_len' trF n xs; omega) w (OwnN.asN hO6 (hw.perm ((((((((((((((((List.Perm.refl _).cons _).trans (List.perm_middle (l₁ := u6)).symm).append_left _).trans (List.perm_append_comm_assoc u8 u6 _)).cons _).trans (List.perm_middle (l₁ := u6)).symm).append_left _).trans (List.perm_append_comm_assoc u10 u6 _)).cons _).trans (List.perm_middle (l₁ := u6)).symm).append_left _).trans (List.perm_append_comm_assoc u12 u6 _)).cons _).trans (List.perm_middle (l₁ := u6)).symm).trans ((List.Perm.refl _).append_left _)))) (OwnN.asN hO8 (hw.perm ((((((((((((List.Perm.refl _).cons _).trans (List.perm_middle (l₁ := u8)).symm).append_left _).trans (List.perm_append_comm_assoc u10 u8 _)).cons _).trans (List.perm_middle (l₁ := u8)).symm).append_left _).trans (List.perm_append_comm_assoc u12 u8 _)).cons _).trans (List.perm_middle (l₁ := u8)).symm).trans ((List.Perm.refl _).append_left _))))
    case hz => exact (fun _ h => by cases h)
    simp only [qz]
    refine rg_move ?_
    simp only [qz]
    apply rg_soft_g
    case hg => rfl
    case hy => (intro w hw; go_simp; (try go_bits); exact Yld.mk _ _)
    simp only [qz]
    apply rg_soft_g
    case hg => rfl
    case hy => (intro w hw; go_simp; (try go_bits); exact Yld.mk _ _)
    simp only [qz]
    refine rfb_eql rfl rfl rfl rfl ?_
    intro x h3
    obtain rfl : x = true := by (refine h3.symm.trans ?_; exact decide_eq_true (by omega))
    clear h3
    simp only [qz]
    refine rf_pick rfl rfl rfl ?_
    simp only [qz]
    refine rg_move ?_
    simp only [qz]
    refine rf_loadR (n := 2) rfl rfl rfl Try.underlying24 rfl (by kernel_rfl) (fun w hw => Kn.hd0 (Kn.tlU (Kn.tl hw))) rfl rfl ?_
    simp only [qz]
    refine rf_loadR (n := 2) rfl rfl rfl Try.underlying24 rfl (by kernel_rfl) (fun w hw => Kn.hd0 hw) rfl rfl ?_
    simp only [qz]
    apply rg_pure (by rfl) (by kernel_rfl)
    case hargs => (simp only [qm, qs, Act.eval]; exact rfl)
    case h => exact fun w hw => rSame_eq _ _ _ _ _ _ (by have := mapM_len' dagF n xs; omega) w (OwnN.asN hO10 (hw.perm ((((((((List.Perm.refl _).cons _).trans (List.perm_middle (l₁ := u10)).symm).append_left _).trans (List.perm_append_comm_assoc u12 u10 _)).cons _).trans (List.perm_middle (l₁ := u10)).symm).trans ((List.Perm.refl _).append_left _)))) (OwnN.asN hO12 (hw.perm (perm_atU (l := [_]) (u := u12) (List.Perm.refl _))))
    case hz => exact (fun _ h => by cases h)
    simp only [qz]
    refine rf_pick rfl rfl rfl ?_
    simp only [qz]
    refine rg_move ?_
    simp only [qz]
    apply rg_soft_g
    case hg => rfl
    case hy => (intro w hw; go_simp; (try go_bits); exact Yld.mk _ _)
    simp only [qz]
    apply rg_soft_g
    case hg => rfl
    case hy => (intro w hw; go_simp; (try go_bits); exact Yld.mk _ _)
    simp only [qz]
    refine rfb_eql rfl rfl rfl rfl ?_
    intro x h4
    obtain rfl : x = true := by (refine h4.symm.trans ?_; exact decide_eq_true (by omega))
    clear h4
    simp only [qz]
    refine rf_pick rfl rfl rfl ?_
    simp only [qz]
    refine rg_move ?_
    simp only [qz]
    apply rg_soft_g
    case hg => rfl
    case hy => (intro w hw; go_simp; (try go_bits); exact Yld.mk _ _)
    simp only [qz]
    apply rg_soft_g
    case hg => rfl
    case hy => (intro w hw; go_simp; (try go_bits); exact Yld.mk _ _)
    simp only [qz]
    refine rfb_eql rfl rfl rfl rfl ?_
    intro x h5
    obtain rfl : x = true := by (refine h5.symm.trans ?_; exact decide_eq_true (by omega))
    clear h5
    simp only [qz]
    refine rf_pick rfl rfl rfl ?_
    simp only [qz]
    refine rg_move ?_
    simp only [qz]
    apply rg_soft_g
    case hg => rfl
    case hy => (intro w hw; go_simp; (try go_bits); exact Yld.mk _ _)
    simp only [qz]
    apply rg_soft_g
    case hg => rfl
    case hy => (intro w hw; go_simp; (try go_bits); exact Yld.mk _ _)
    simp only [qz]
    refine rfb_eql rfl rfl rfl rfl ?_
    intro x h6
    obtain rfl : x = true := by (refine h6.symm.trans ?_; exact decide_eq_true (by omega))
    clear h6
    simp only [qz]
    refine rf_pick rfl rfl rfl ?_
    simp only [qz]
    refine rg_move ?_
    simp only [qz]
    apply rg_pure (by rfl) (by kernel_rfl)
    case hargs => (simp only [qm, qs, Act.eval]; exact rfl)
    case h => exact fun w hw => sane2_any w
    case hz => exact (fun _ h => by cases h)
    simp only [qz]
    refine rf_pick rfl rfl rfl ?_
    simp only [qz]
    refine rg_assign ?_
    simp only [qz]
    refine rg_nil (ek_next (wk_ret ?_))
    refine ek_ret (fun w hw => ⟨rfl, _, res_t _ rfl, ?_⟩)
    (try simp only [qz])
    first | exact ⟨rfl, hw.below⟩ | exact ⟨trivial, hw.below⟩ | exact hw.below
  (try simp only [qd, ne_eq] at h1)
  simp only [qz]
  refine rg_nil (ek_next (wk_cond_t rfl (wk_seq ?_)))
  refine wk_region [1, 0] rfl (by kernel_rfl) ?_
  simp only [qy]
  apply rg_pure (by rfl) (by kernel_rfl)
  case hargs => (simp only [qm, qs, Act.eval]; exact rfl)
  case h => exact fun w hw => sane2_any w
  case hz => exact (fun _ h => by cases h)
  simp only [qz]
  refine rg_assign ?_
  simp only [qz]
  refine rg_nil (ek_next (wk_ret (ek_then_ret ?_)))
  refine ek_ret (fun w hw => ⟨rfl, _, res_t _ rfl, ?_⟩)
  (try simp only [qz])
  first | exact ⟨rfl, hw.below⟩ | exact ⟨trivial, hw.below⟩ | exact hw.below

end Go.Proofs.Ytjeijnjaleldkaa
