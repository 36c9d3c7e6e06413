/- Several texts in one. -/
import Derived.Test.YtccbinnlnkpplaaMt3
import Derived.Test.YtccbinnlnkpplaaMt1
import Derived.Test.YtccbinnlnkpplaaMgB
import Derived.Test.YtccbinnlnkpplaaAmTn
import Derived.Test.YtccbinnlnkpplaaSq
import Derived.Test.YtccbinnlnkpplaaMg
import Derived.Test.YtccbinnlnkpplaaAlPl
import Derived.Test.YtccbinnlnkpplaaMgA
namespace Go.Proofs.Ytccbinnlnkpplaa
set_option linter.all false

/-- The matrix of an item on its own guides: rows, elements. -/
def ownN (x : It) : Nat := if x.kind = 1 then 1 else 2
def halfN : Nm := ⟨1, 0, 0, 0, 1⟩
def sideN : Nm := ⟨0, 0, 1, 0, 1⟩
def ownL (x : It) : List Nm := if x.kind = 1 then [Nm.turn (x.n % 8).toNat Nm.one] else if x.kind = 3 then [Nm.zero, Nm.one, Nm.one, Nm.zero] else [halfN, sideN, sideN, halfN]
/-- A matrix of m rows on the guides from p on, after t of its elements. -/
def plcS (N p m : Nat) (L l : List Nm) : Nat → List Nm
  | 0 => l
  | t + 1 => (plcS N p m L l t).set ((p + t / m) * N + p + t % m) (nm L t)
def idM (N : Nat) : List Nm := rL (identR N)
def plcL (N p m : Nat) (L : List Nm) : List Nm := plcS N p m L (idM N) (m * m)
def itL (N : Nat) (x : It) : List Nm := plcL N (x.at_ - 1).toNat (ownN x) (ownL x)
/-- What the first items make. -/
def matS (N : Nat) (xs : List It) : Nat → LR
  | 0 => .ok (idM N)
  | j + 1 => match matS N xs j with
    | .error c => .error c
    | .ok l => mulM N N (itL N (it xs j)) l
def matO (n : Int) (xs : List It) : LR := if itemE n xs = 0 then matS n.toNat xs xs.length else .error (itemE n xs)
theorem plcS_len (N p m : Nat) (L l : List Nm) : ∀ t, (plcS N p m L l t).length = l.length
  | 0 => rfl
  | t + 1 => by rw [plcS, List.length_set, plcS_len N p m L l t]
theorem idM_len {N : Nat} (h1 : 1 ≤ N) (h6 : N ≤ 6) : (idM N).length = N * N := by
  unfold idM identR
  rw [if_pos (by omega), Int.toNat_natCast]
  show (rL (gather _ _)).length = _
  have : ∃ l, gather (fun t => idR (t / N) (t % N)) (N * N) = .ok l := ⟨_, gather_pure (fun t => if t / N = t % N then Nm.one else Nm.zero) (N * N)⟩
  obtain ⟨l, hl⟩ := this
  rw [hl]
  exact gather_len hl
theorem matS_err {N : Nat} {xs : List It} {j : Nat} {c : Int} (h : matS N xs j = .error c) : ∀ m, j ≤ m → matS N xs m = .error c := by
  intro m hm
  induction m with
  | zero => obtain rfl : j = 0 := by omega
            exact h
  | succ m ih =>
    rcases (by omega : j = m + 1 ∨ j ≤ m) with rfl | hm
    · exact h
    · simp only [matS, ih hm]
end Go.Proofs.Ytccbinnlnkpplaa
namespace Go.Proofs.Ytccbinnlnkpplaa
set_option linter.all false
open Go.RowKit

theorem OwnN.openM {u : List Blk} {v : Value} {l : List Nm} (h : OwnN u v l) (hn : 0 < l.length) : ∃ g cap rest, u = [(g, .cells (NmE.flat l ++ rest).toArray 45)] ∧ v = .slice (some ⟨g, 0, none⟩) l.length cap ∧ l.length ≤ cap ∧ cap ≤ maxLen ∧ (NmE.flat l ++ rest).length = cap * 5 := by
  obtain ⟨hl, ⟨rfl, rfl, h0⟩ | ⟨g, cap, cur, rfl, rfl, hc, hm, hs, ht⟩⟩ := h
  · omega
  refine ⟨g, cap, cur.toList.drop (l.length * 5), ?_, rfl, hc, hm, ?_⟩
  · rw [← ht, List.take_append_drop]
  rw [← ht, List.take_append_drop]; simpa using hs
theorem OwnN.flM {g n cap : Nat} {l : List Nm} {rest : List Value} (h : l.length = n) (hc : n ≤ cap) (hm : cap ≤ maxLen) (hs : (NmE.flat l ++ rest).length = cap * 5) : OwnN [(g, .cells (NmE.flat l ++ rest).toArray 45)] (.slice (some ⟨g, 0, none⟩) n cap) l := by
  subst h
  have hfl := NmE.flat_len l
  exact ⟨hfl, .inr ⟨g, cap, _, rfl, rfl, hc, hm, by simpa using hs, by simp [← hfl]⟩⟩
theorem OwnN.wholeM {g : Nat} {l : List Nm} (h : l.length ≤ 1000000) : OwnN [(g, .cells (nms l).toArray 45)] (.slice (some ⟨g, 0, none⟩) l.length l.length) l :=
  Own.whole (cur := (nms l).toArray) (by simpa using NmE.flat_len l) (by simp only [maxLen]; omega)
theorem nm_flM (xs : List Nm) (k : Nat) (y : Nm) (rest : List Value) (hk : k < xs.length) : setMany (NmE.flat xs ++ rest).toArray (0 + k * 5) (nmC y) = (NmE.flat (xs.set k y) ++ rest).toArray := fl_set (E := NmE) (rest := rest) hk
theorem nm_szM (xs : List Nm) (k : Nat) (y : Nm) (rest : List Value) (hk : k < xs.length) : 0 + k * 5 + (nmC y).length ≤ (NmE.flat xs ++ rest).toArray.size := fl_size (E := NmE) (rest := rest) (y := y) hk
theorem OwnN.asM {u s : List Blk} {av : Option Addr} {m cv : Nat} {xs : List Nm} {B w : World} {F : List Nat} (h : OwnN u (.slice av m cv) xs) (K : Kn B F (u ++ s) w) : AS w av (nms xs) := by
  obtain ⟨a, cap, e, hA⟩ := h.as K
  cases e
  exact hA
theorem ident_okM {N : Nat} (h1 : 1 ≤ N) (h6 : N ≤ 6) : identR N = .ok (idM N) := by
  unfold idM identR
  rw [if_pos (by omega), Int.toNat_natCast]
  have : ∃ l, madeR N idR = .ok l := ⟨_, gather_pure (fun t => if t / N = t % N then Nm.one else Nm.zero) (N * N)⟩
  obtain ⟨l, hl⟩ := this
  rw [hl]
  rfl
end Go.Proofs.Ytccbinnlnkpplaa
namespace Go.Proofs.Ytccbinnlnkpplaa
set_option linter.all false
open Go.RowKit

set_option maxRecDepth 100000 in
set_option maxHeartbeats 1000000 in
theorem own_any (x : It) (w : World) : Calls Try.prog 130 #[.agg #[.int .i64 x.kind, .int .i64 x.at_, .int .i64 x.n, .string x.name]] w fun e w' => RetM1 w (ownN x) (ownL x) e w' := by
  go_enter Try.func130, Try.ntmps130
  refine wk_start ?_
  refine wk_seq ?_
  refine wk_region [1, 1] rfl (by kernel_rfl) ?_
  simp only [qy]
  refine rg_new (cs := ?_) (ty := ?_) (by rfl) (fun w => ?_) (fun _ h => by cases h) (fun g1 => ?_); rotate_left 2
  focus (go_simp; rfl)
  simp only [qz]
  refine rg_new (cs := ?_) (ty := ?_) (by rfl) (fun w => ?_) (fun _ h => by cases h) (fun g2 => ?_); rotate_left 2
  focus (go_simp; rfl)
  simp only [qz]
  refine rg_nil (ek_next (wk_seq ?_))
  refine wk_region [0, 0, 0, 1, 1, 1, 1] rfl (by kernel_rfl) ?_
  simp only [qy]
  refine rf_build (cs := fun a => #[.int .i64 0, .int .i64 0, .int .i64 0, .int .i64 0, .int .i64 0]) rfl rfl (by kernel_rfl) ?_
  simp only [qz]
  refine rf_build (cs := fun a => #[a.eval (.const (.int .i64 1)), .int .i64 0, .int .i64 0, .int .i64 0]) rfl rfl (by kernel_rfl) ?_
  simp only [qz]
  refine rf_build (cs := fun a => #[cellAt (a.eval (.tmp 10)) 0, cellAt (a.eval (.tmp 10)) 1, cellAt (a.eval (.tmp 10)) 2, cellAt (a.eval (.tmp 10)) 3, .int .i64 0]) rfl rfl (by kernel_rfl) ?_
  simp only [qz]
  refine rg_new (cs := ?_) (ty := ?_) (by rfl) (fun w => ?_) (fun _ h => by cases h) (fun g3 => ?_); rotate_left 2
  focus (go_simp; rfl)
  simp only [qz]
  refine rg_new (cs := ?_) (ty := ?_) (by rfl) (fun w => ?_) (fun _ h => by cases h) (fun g4 => ?_); rotate_left 2
  focus (go_simp; rfl)
  simp only [qz]
  refine rf_storeR (n := 5) rfl rfl (by kernel_rfl) rfl rfl (UpdR.there _ (UpdR.here _ _ _ (Nat.le_of_ble_eq_true rfl))) (fun _ h => by cases h) ?_
  simp only [qz, Nat.reduceAdd]
  refine rf_storeR (n := 5) rfl rfl (by kernel_rfl) rfl rfl (UpdR.here _ _ _ (Nat.le_of_ble_eq_true rfl)) (fun _ h => by cases h) ?_
  simp only [qz, Nat.reduceAdd]
  refine rg_nil (ek_next (wk_seq (wk_seq ?_)))
  refine wk_region [0, 0] rfl (by kernel_rfl) ?_
  simp only [qy]
  refine rf_field (n := 0) (j := 0) rfl rfl rfl Try.underlying80 rfl (by kernel_rfl) rfl ?_
  simp only [qz]
  refine rf_load rfl rfl rfl Try.underlying3 rfl (fun w hw => (Kn.hd0 (Kn.tl (Kn.tl (Kn.tl hw)))).at rfl) ?_
  simp only [qz]
  refine rg_nil (ek_next (wk_block (wk_seq ?_)))
  refine wk_region [0, 0] rfl (by kernel_rfl) ?_
  simp only [qy]
  refine rfb_eql rfl rfl rfl rfl ?_
  intro x h1
  cases x
  · (try simp only [qd, ne_eq] at h1)
    simp only [qz]
    refine rg_assign ?_
    simp only [qz]
    refine rg_nil (ek_next (wk_cond_f rfl (wk_seq ?_)))
    refine wk_region [0, 0] rfl (by kernel_rfl) ?_
    simp only [qy]
    refine rfb_eql rfl rfl rfl rfl ?_
    intro x h2
    cases x
    · (try simp only [qd, ne_eq] at h2)
      simp only [qz]
      refine rg_assign ?_
      simp only [qz]
      refine rg_nil (ek_next (wk_cond_f rfl (wk_skip (ek_block (ek_next (wk_seq ?_))))))
      refine wk_region [0, 0, 0, 0, 1, 1, 1, 1] rfl (by kernel_rfl) ?_
      simp only [qy]
      refine rf_build (cs := fun a => #[a.eval (.const (.int .i64 1)), .int .i64 0, .int .i64 0, .int .i64 0]) rfl rfl (by kernel_rfl) ?_
      simp only [qz]
      refine rf_build (cs := fun a => #[cellAt (a.eval (.tmp 34)) 0, cellAt (a.eval (.tmp 34)) 1, cellAt (a.eval (.tmp 34)) 2, cellAt (a.eval (.tmp 34)) 3, a.eval (.const (.int .i64 1))]) rfl rfl (by kernel_rfl) ?_
      simp only [qz]
      refine rf_build (cs := fun a => #[a.eval (.const (.int .i64 0)), a.eval (.const (.int .i64 0)), a.eval (.const (.int .i64 1)), .int .i64 0]) rfl rfl (by kernel_rfl) ?_
      simp only [qz]
      refine rf_build (cs := fun a => #[cellAt (a.eval (.tmp 36)) 0, cellAt (a.eval (.tmp 36)) 1, cellAt (a.eval (.tmp 36)) 2, cellAt (a.eval (.tmp 36)) 3, a.eval (.const (.int .i64 1))]) rfl rfl (by kernel_rfl) ?_
      simp only [qz]
      refine rg_new (cs := ?_) (ty := ?_) (by rfl) (fun w => ?_) (fun _ h => by cases h) (fun g5 => ?_); rotate_left 2
      focus (go_simp; rfl)
      simp only [qz]
      refine rg_new (cs := ?_) (ty := ?_) (by rfl) (fun w => ?_) (fun _ h => by cases h) (fun g6 => ?_); rotate_left 2
      focus (go_simp; rfl)
      simp only [qz]
      refine rf_storeR (n := 5) rfl rfl (by kernel_rfl) rfl rfl (UpdR.there _ (UpdR.here _ _ _ (Nat.le_of_ble_eq_true rfl))) (fun _ h => by cases h) ?_
      simp only [qz, Nat.reduceAdd]
      refine rf_storeR (n := 5) rfl rfl (by kernel_rfl) rfl rfl (UpdR.here _ _ _ (Nat.le_of_ble_eq_true rfl)) (fun _ h => by cases h) ?_
      simp only [qz, Nat.reduceAdd]
      refine rg_nil (ek_next (wk_seq ?_))
      refine wk_region [0, 0, 0, 0, 1, 0, 1] rfl (by kernel_rfl) ?_
      simp only [qy]
      refine rf_loadR (n := 5) rfl rfl rfl Try.underlying45 rfl (by kernel_rfl) (fun w hw => Kn.hd0 (Kn.tl hw)) rfl rfl ?_
      simp only [qz]
      refine rf_loadR (n := 5) rfl rfl rfl Try.underlying45 rfl (by kernel_rfl) (fun w hw => Kn.hd0 hw) rfl rfl ?_
      simp only [qz]
      refine rf_loadR (n := 5) rfl rfl rfl Try.underlying45 rfl (by kernel_rfl) (fun w hw => Kn.hd0 hw) rfl rfl ?_
      simp only [qz]
      refine rf_loadR (n := 5) rfl rfl rfl Try.underlying45 rfl (by kernel_rfl) (fun w hw => Kn.hd0 (Kn.tl hw)) rfl rfl ?_
      simp only [qz]
      refine rg_newS (cs := ?_) (ty := ?_) (n := 4) (c := 4) (by rfl) (fun w => ?_) (fun _ h => by cases h) (fun g7 => ?_); rotate_left 2
      focus (go_simp; rfl)
      simp only [qz]
      refine rf_build (cs := fun a => #[a.eval (.const (.int .i64 2)), a.eval (.tmp 42)]) rfl rfl (by kernel_rfl) ?_
      simp only [qz]
      refine rf_storeR (n := 2) rfl rfl (by kernel_rfl) rfl rfl (UpdR.there _ (UpdR.there _ (UpdR.there _ (UpdR.there _ (UpdR.there _ (UpdR.here _ _ _ (Nat.le_of_ble_eq_true rfl))))))) (fun _ h => by cases h) ?_
      simp only [qz, Nat.reduceAdd]
      refine rg_nil (ek_next (wk_ret ?_))
      refine ek_ret (fun w hw => ⟨rfl, _, run_results1 rfl rfl (Kn.hd0 (Kn.tl (Kn.tl (Kn.tl (Kn.tl (Kn.tl hw)))))) Try.underlying38 rfl (by kernel_rfl), ?_⟩)
      (try simp only [qz])
      have e1 : ownN x = 2 := by (unfold ownN; rw [if_neg (by omega)])
      have e2 : ownL x = [halfN, sideN, sideN, halfN] := by (unfold ownL; rw [if_neg (by omega), if_neg (by omega)])
      rw [e1, e2]
      exact ⟨_, _, rfl, OwnN.wholeM (g := g7) (l := [halfN, sideN, sideN, halfN]) (by simp), hw.made (sc _ (sk _ (sk _ (sk _ (sk _ (sk _ (sk _ sn)))))))⟩
    (try simp only [qd, ne_eq] at h2)
    simp only [qz]
    refine rg_assign ?_
    simp only [qz]
    refine rg_nil (ek_next (wk_cond_t rfl (wk_seq ?_)))
    refine wk_region [0, 0, 0, 0, 1, 0, 1] rfl (by kernel_rfl) ?_
    simp only [qy]
    refine rf_loadR (n := 5) rfl rfl rfl Try.underlying45 rfl (by kernel_rfl) (fun w hw => Kn.hd0 (Kn.tl hw)) rfl rfl ?_
    simp only [qz]
    refine rf_loadR (n := 5) rfl rfl rfl Try.underlying45 rfl (by kernel_rfl) (fun w hw => Kn.hd0 hw) rfl rfl ?_
    simp only [qz]
    refine rf_loadR (n := 5) rfl rfl rfl Try.underlying45 rfl (by kernel_rfl) (fun w hw => Kn.hd0 hw) rfl rfl ?_
    simp only [qz]
    refine rf_loadR (n := 5) rfl rfl rfl Try.underlying45 rfl (by kernel_rfl) (fun w hw => Kn.hd0 (Kn.tl hw)) rfl rfl ?_
    simp only [qz]
    refine rg_newS (cs := ?_) (ty := ?_) (n := 4) (c := 4) (by rfl) (fun w => ?_) (fun _ h => by cases h) (fun g8 => ?_); rotate_left 2
    focus (go_simp; rfl)
    simp only [qz]
    refine rf_build (cs := fun a => #[a.eval (.const (.int .i64 2)), a.eval (.tmp 32)]) rfl rfl (by kernel_rfl) ?_
    simp only [qz]
    refine rf_storeR (n := 2) rfl rfl (by kernel_rfl) rfl rfl (UpdR.there _ (UpdR.there _ (UpdR.there _ (UpdR.here _ _ _ (Nat.le_of_ble_eq_true rfl))))) (fun _ h => by cases h) ?_
    simp only [qz, Nat.reduceAdd]
    refine rg_nil (ek_next (wk_ret (ek_block_ret (ek_then_ret ?_))))
    refine ek_ret (fun w hw => ⟨rfl, _, run_results1 rfl rfl (Kn.hd0 (Kn.tl (Kn.tl (Kn.tl hw)))) Try.underlying38 rfl (by kernel_rfl), ?_⟩)
    (try simp only [qz])
    have e1 : ownN x = 2 := by (unfold ownN; rw [if_neg (by omega)])
    have e2 : ownL x = [Nm.zero, Nm.one, Nm.one, Nm.zero] := by (unfold ownL; rw [if_neg (by omega), if_pos (by omega)])
    rw [e1, e2]
    exact ⟨_, _, rfl, OwnN.wholeM (g := g8) (l := [Nm.zero, Nm.one, Nm.one, Nm.zero]) (by simp), hw.made (sc _ (sk _ (sk _ (sk _ (sk _ sn)))))⟩
  (try simp only [qd, ne_eq] at h1)
  simp only [qz]
  refine rg_assign ?_
  simp only [qz]
  refine rg_nil (ek_next (wk_cond_t rfl (wk_seq ?_)))
  refine wk_region [0, 0, 0, 1, 0, 0, 0, 1, 1, 0] rfl (by kernel_rfl) ?_
  simp only [qy]
  refine rf_loadR (n := 5) rfl rfl rfl Try.underlying45 rfl (by kernel_rfl) (fun w hw => Kn.hd0 hw) rfl rfl ?_
  simp only [qz]
  refine rf_field (n := 0) (j := 2) rfl rfl rfl Try.underlying80 rfl (by kernel_rfl) rfl ?_
  simp only [qz]
  refine rf_load rfl rfl rfl Try.underlying3 rfl (fun w hw => (Kn.hd0 (Kn.tl (Kn.tl (Kn.tl hw)))).at rfl) ?_
  simp only [qz]
  apply rg_pure (by rfl) (by kernel_rfl)
  case hargs => (simp only [qm, qs, Act.eval]; exact rfl)
  case h => exact fun w hw => amTurn_ok Nm.one x.n one_ok w
  case hz => exact (fun _ h => by cases h)
  simp only [qz]
  refine rg_move ?_
  simp only [qz]
  refine rf_extract rfl rfl rfl rfl ?_
  simp only [qz]
  refine rf_extract rfl rfl rfl rfl ?_
  simp only [qz]
  refine rg_new (cs := ?_) (ty := ?_) (by rfl) (fun w => ?_) (fun _ h => by cases h) (fun g9 => ?_); rotate_left 2
  focus (go_simp; rfl)
  simp only [qz]
  refine rf_storeR (n := 5) rfl rfl (by kernel_rfl) rfl rfl (UpdR.here _ _ _ (Nat.le_of_ble_eq_true rfl)) (fun _ h => by cases h) ?_
  simp only [qz, Nat.reduceAdd]
  refine rg_assign ?_
  simp only [qz]
  refine rg_nil (ek_next (wk_seq ?_))
  refine wk_region [0, 1, 0, 1] rfl (by kernel_rfl) ?_
  simp only [qy]
  refine rf_loadR (n := 5) rfl rfl rfl Try.underlying45 rfl (by kernel_rfl) (fun w hw => Kn.hd0 hw) rfl rfl ?_
  simp only [qz]
  refine rg_newS (cs := ?_) (ty := ?_) (n := 1) (c := 1) (by rfl) (fun w => ?_) (fun _ h => by cases h) (fun g10 => ?_); rotate_left 2
  focus (go_simp; rfl)
  simp only [qz]
  refine rf_build (cs := fun a => #[a.eval (.const (.int .i64 1)), a.eval (.tmp 24)]) rfl rfl (by kernel_rfl) ?_
  simp only [qz]
  refine rf_storeR (n := 2) rfl rfl (by kernel_rfl) rfl rfl (UpdR.there _ (UpdR.there _ (UpdR.there _ (UpdR.there _ (UpdR.here _ _ _ (Nat.le_of_ble_eq_true rfl)))))) (fun _ h => by cases h) ?_
  simp only [qz, Nat.reduceAdd]
  refine rg_nil (ek_next (wk_ret (ek_block_ret (ek_then_ret ?_))))
  refine ek_ret (fun w hw => ⟨rfl, _, run_results1 rfl rfl (Kn.hd0 (Kn.tl (Kn.tl (Kn.tl (Kn.tl hw))))) Try.underlying38 rfl (by kernel_rfl), ?_⟩)
  (try simp only [qz])
  have e1 : ownN x = 1 := by (unfold ownN; rw [if_pos (by omega)])
  have e2 : ownL x = [Nm.turn (x.n % 8).toNat Nm.one] := by (unfold ownL; rw [if_pos (by omega)])
  rw [e1, e2]
  exact ⟨_, _, rfl, OwnN.wholeM (g := g10) (l := [Nm.turn (x.n % 8).toNat Nm.one]) (by simp), hw.made (sc _ (sk _ (sk _ (sk _ (sk _ (sk _ sn))))))⟩

end Go.Proofs.Ytccbinnlnkpplaa
namespace Go.Proofs.Ytccbinnlnkpplaa
set_option linter.all false
open Go.RowKit

set_option maxRecDepth 100000 in
set_option maxHeartbeats 1000000 in
theorem mplaced_any (N p m : Nat) (L : List Nm) (a : Option Addr) (c : Nat) (hN1 : 1 ≤ N) (hN6 : N ≤ 6) (hm1 : 1 ≤ m) (hpm : p + m ≤ N) (hL : Hid (L.length = m * m)) (w : World) (hA : AS w a (nms L)) : Calls Try.prog 132 #[.int .i64 N, .int .i64 ((p : Int) + 1), .agg #[.int .i64 m, .slice a L.length c]] w fun e w' => RetM1 w N (plcL N p m L) e w' := by
  obtain ⟨b, off, rfl, hlt, hcell⟩ := AS.openN hA (by rw [hL.out]; exact Nat.mul_pos (by omega) (by omega))
  have hz1 : 1 ≤ N * N := Nat.mul_pos (by omega) (by omega)
  have hidl := idM_len (N := N) (by omega) hN6
  obtain ⟨z0, hz0⟩ : ∃ r, idM N = r := ⟨_, rfl⟩
  go_enter Try.func132, Try.ntmps132
  refine wk_start ?_
  refine wk_seq ?_
  refine wk_region [1, 1] rfl (by kernel_rfl) ?_
  simp only [qy]
  refine rg_new (cs := ?_) (ty := ?_) (by rfl) (fun w => ?_) (fun _ h => by cases h) (fun g1 => ?_); rotate_left 2
  focus (go_simp; rfl)
  simp only [qz]
  refine rg_new (cs := ?_) (ty := ?_) (by rfl) (fun w => ?_) (fun _ h => by cases h) (fun g2 => ?_); rotate_left 2
  focus (go_simp; rfl)
  simp only [qz]
  refine rg_nil (ek_next (wk_seq ?_))
  refine wk_region [0, 1, 0, 0, 0, 1, 1, 0] rfl (by kernel_rfl) ?_
  simp only [qy]
  refine rg_move ?_
  simp only [qz]
  apply (rg_retM (n := (N : Int)) (zs := z0) (c := 0)) (by rfl) (by kernel_rfl)
  case hargs => (simp only [qm, qs, Act.eval]; exact rfl)
  case h => exact fun w hw => by have := identity_any N w; rw [ident_okM (by omega) hN6, Int.toNat_natCast] at this; rw [hz0] at this; exact this
  case hz => exact (fun _ h => by cases h)
  intro va3 vc3 u3 hO3
  simp only [qz]
  refine rg_move ?_
  simp only [qz]
  refine rf_extract rfl rfl rfl rfl ?_
  simp only [qz]
  refine rf_extract rfl rfl rfl rfl ?_
  simp only [qz]
  refine rg_new (cs := ?_) (ty := ?_) (by rfl) (fun w => ?_) (fun _ h => by cases h) (fun g4 => ?_); rotate_left 2
  focus (go_simp; rfl)
  simp only [qz]
  refine rf_storeR (n := 2) rfl rfl (by kernel_rfl) rfl rfl (UpdR.here _ _ _ (Nat.le_of_ble_eq_true rfl)) (fun _ h => by cases h) ?_
  simp only [qz, Nat.reduceAdd]
  refine rg_assign ?_
  simp only [qz]
  refine rg_nil (ek_next (wk_seq (wk_seq ?_)))
  have hzl : z0.length = N * N := by rw [← hz0]; exact hidl
  rw [hzl]
  clear hidl
  replace hzl := Lib.hid hzl
  replace hz0 := Lib.hid hz0
  refine wk_region [0, 0, 0] rfl (by kernel_rfl) ?_
  simp only [qy]
  refine rf_field (n := 0) (j := 0) rfl rfl rfl Try.underlying38 rfl (by kernel_rfl) rfl ?_
  simp only [qz]
  refine rf_load rfl rfl rfl Try.underlying3 rfl (fun w hw => (Kn.hd0 (Kn.tl (Kn.tlU (Kn.tl hw)))).at rfl) ?_
  simp only [qz]
  refine rg_move ?_
  simp only [qz]
  refine rg_nil (ek_next (wk_block ?_))
  refine wk_loopF [9, 10, 18, 19, 20, 21, 22, 23, 24, 25, 26, 27, 28, 29, 30, 31, 32, 33, 34, 35, 36, 37, 38, 39, 40, 41, 42, 43, 44, 45, 46, 47, 48, 49, 50, 51] (fun mz f s => ∃ (i : Nat) (u : List Blk), f 18 = .int .i64 i ∧ s = ((g4, .cells #[.int .i64 N, .slice va3 (N * N) vc3] 38) :: (u ++ ((g2, .cells #[.int .i64 0, .slice none 0 0] 38) :: ((g1, .cells #[.int .i64 m, .slice (some ⟨b, off, none⟩) L.length c] 38) :: [])))) ∧ mz = m - i ∧ i ≤ m ∧ OwnN u (.slice va3 (N * N) vc3) (plcS N p m L z0 (i * m))) ((fun (i : Nat) (u : List Blk) => m - i) (0) (u3)) ?_ (by kernel_rfl) ?_
  · exact ⟨0, u3, rfl, rfl, rfl, by omega, by rw [Nat.zero_mul]; show OwnN u3 (.slice va3 (N * N) vc3) z0; rw [← hzl.out]; exact hO3⟩
  rintro mz f1 s ⟨i, u, hs1_18, rfl, hn, hd1, hd2⟩
  simp only [Act.putF, List.foldl_cons, List.foldl_nil, hs1_18, Act.put, Act.eval, q1, q2, q3, q4, q5, q6, q7, q8, q9, q10, q11, q12, q13, q14, q15, q16, q17, q18, Nat.reduceAdd, Bool.not_true, Bool.not_false]
  clear hs1_18
  refine wk_seq ?_
  refine wk_region [0] rfl (by kernel_rfl) ?_
  simp only [qy]
  refine rfb_lss rfl rfl rfl rfl ?_
  intro x h1
  cases x
  · (try simp only [qd, ne_eq] at h1)
    simp only [qz]
    refine rg_nil (ek_next (wk_seq (wk_cond_f rfl (wk_exit (ek_then_exit (ek_then_exit (ek_block_exit (ek_next (wk_seq ?_)))))))))
    refine wk_region [0, 1] rfl (by kernel_rfl) ?_
    simp only [qy]
    refine rf_loadR (n := 2) rfl rfl rfl Try.underlying38 rfl (by kernel_rfl) (fun w hw => Kn.hd0 hw) rfl rfl ?_
    simp only [qz]
    refine rf_storeR (n := 2) rfl rfl (by kernel_rfl) rfl rfl (UpdR.there _ (UpdR.app _ (UpdR.here _ _ _ (Nat.le_of_ble_eq_true rfl)))) (fun _ h => by cases h) ?_
    simp only [qz, Nat.reduceAdd]
    refine rg_nil (ek_next (wk_ret ?_))
    refine ek_ret (fun w hw => ⟨rfl, _, run_results1 rfl rfl (Kn.hd0 (Kn.tlU (Kn.tl hw))) Try.underlying38 rfl (by kernel_rfl), ?_⟩)
    (try simp only [qz])
    obtain rfl : i = m := by omega
    have e1 : plcL N p i L = plcS N p i L z0 (i * i) := by (unfold plcL; rw [hz0.out])
    rw [e1]
    exact ⟨_, u, rfl, hd2, hw.made (List.Sublist.cons _ (List.sublist_append_left _ _))⟩
  (try simp only [qd, ne_eq] at h1)
  simp only [qz]
  refine rg_nil (ek_next (wk_seq (wk_cond_t rfl (wk_skip (ek_next (wk_seq (wk_block (wk_seq ?_))))))))
  refine wk_region [0, 0] rfl (by kernel_rfl) ?_
  simp only [qy]
  refine rg_move ?_
  simp only [qz]
  refine rg_assign ?_
  simp only [qz]
  refine rg_nil (ek_next (wk_seq ?_))
  refine wk_region [0, 0, 0] rfl (by kernel_rfl) ?_
  simp only [qy]
  refine rf_field (n := 0) (j := 0) rfl rfl rfl Try.underlying38 rfl (by kernel_rfl) rfl ?_
  simp only [qz]
  refine rf_load rfl rfl rfl Try.underlying3 rfl (fun w hw => (Kn.hd0 (Kn.tl (Kn.tlU (Kn.tl hw)))).at rfl) ?_
  simp only [qz]
  refine rg_move ?_
  simp only [qz]
  refine rg_nil (ek_next (wk_block ?_))
  refine wk_loopF [10, 23, 24, 25, 26, 27, 28, 29, 30, 31, 32, 33, 34, 35, 36, 37, 38, 39, 40, 41, 42, 43, 44, 45, 46, 47, 48, 49, 50] (fun mz f s => ∃ (k : Nat) (u2 : List Blk), f 23 = .int .i64 k ∧ s = ((g4, .cells #[.int .i64 N, .slice va3 (N * N) vc3] 38) :: (u2 ++ ((g2, .cells #[.int .i64 0, .slice none 0 0] 38) :: ((g1, .cells #[.int .i64 m, .slice (some ⟨b, off, none⟩) L.length c] 38) :: [])))) ∧ mz = m - k ∧ k ≤ m ∧ OwnN u2 (.slice va3 (N * N) vc3) (plcS N p m L z0 (i * m + k))) ((fun (k : Nat) (u2 : List Blk) => m - k) (0) (u)) ?_ (by kernel_rfl) ?_
  · exact ⟨0, u, rfl, rfl, rfl, by omega, hd2⟩
  rintro mz f2 s ⟨k, u2, hs2_23, rfl, hn, he1, he2⟩
  simp only [Act.putF, List.foldl_cons, List.foldl_nil, hs2_23, Act.put, Act.eval, q1, q2, q3, q4, q5, q6, q7, q8, q9, q10, q11, q12, q13, q14, q15, q16, q17, q18, Nat.reduceAdd, Bool.not_true, Bool.not_false]
  clear hs2_23
  refine wk_seq ?_
  refine wk_region [0] rfl (by kernel_rfl) ?_
  simp only [qy]
  refine rfb_lss rfl rfl rfl rfl ?_
  intro x h2
  cases x
  · (try simp only [qd, ne_eq] at h2)
    simp only [qz]
    refine rg_nil (ek_next (wk_seq (wk_cond_f rfl (wk_exit (ek_then_exit (ek_then_exit (ek_block_exit (ek_block (ek_next ?_)))))))))
    refine wk_region [0, 0] rfl (by kernel_rfl) ?_
    simp only [qy]
    refine rf_add rfl rfl rfl rfl (wrap_ok (by omega) (by omega)) ?_
    simp only [qz]
    refine rg_move ?_
    simp only [qz]
    refine rg_nil ?_
    obtain rfl : m = k := by omega
    refine ek_roundF (m - (i + 1)) (by omega) (by kernel_rfl) ?_
    exact ⟨i + 1, u2, rfl, by rfl, by rfl, (by omega), (by rw [show (i + 1) * m = i * m + m by rw [Nat.add_mul, Nat.one_mul]]; exact he2)⟩
  (try simp only [qd, ne_eq] at h2)
  simp only [qz]
  refine rg_nil (ek_next (wk_seq (wk_cond_t rfl (wk_skip (ek_next (wk_seq (wk_block (wk_seq ?_))))))))
  refine wk_region [0, 0] rfl (by kernel_rfl) ?_
  simp only [qy]
  refine rg_move ?_
  simp only [qz]
  refine rg_assign ?_
  simp only [qz]
  refine rg_nil (ek_next ?_)
  have hpl := plcS_len N p m L z0 (i * m + k)
  obtain ⟨go, capo, resto, hu, hvo, hco1, hco2, hco3⟩ := he2.openM (by rw [hpl, hzl.out]; omega)
  subst hu
  rw [hpl, hzl.out] at hvo hco1
  cases hvo
  have hix := ix_lt (N := N) (show p + i < N by omega) (show p + k < N by omega)
  have hmx := ix_lt (N := m) (show i < m by omega) (show k < m by omega)
  have hLm := hL.out
  have hm36 := Nat.mul_le_mul (show m ≤ 6 by omega) (show m ≤ 6 by omega)
  have hN36 := Nat.mul_le_mul hN6 hN6
  have hcst : (((p + i : Nat) : Int) * N) = (((p + i) * N : Nat) : Int) := (Int.natCast_mul _ _).symm
  have hcst2 : ((i : Int) * m) = ((i * m : Nat) : Int) := (Int.natCast_mul _ _).symm
  obtain ⟨ix, hixe⟩ : ∃ r, (p + i) * N + p + k = r := ⟨_, rfl⟩
  have hixl : ix < N * N := by omega
  obtain ⟨jx, hjxe⟩ : ∃ r, i * m + k = r := ⟨_, rfl⟩
  have hjxl : jx < L.length := by omega
  simp only [List.cons_append, List.nil_append]
  refine wk_draws_m (hz1 := (sc _ (sk _ (sc _ (sc _ sn))))) [(0, 0), (1, 0), (2, 0), (3, 0), (4, 0), (5, 0), (6, 0), (7, 0), (8, 0), (9, 0), (10, 0), (11, 0), (12, 0), (13, 0), (14, 0), (15, 0), (16, 0), (17, 0), (18, 0), (19, 0), (20, 0), (21, 0), (22, 0), (23, 0), (24, 2)] 24 (by kernel_rfl) (by kernel_rfl) (fun c d v a w h => by cases d <;> exact h) ?_
  simp only [List.map_cons, List.map_nil, List.getD_cons_zero, List.getD_cons_succ]
  refine rf_field (n := 0) (j := 1) rfl rfl rfl Try.underlying38 rfl (by kernel_rfl) rfl ?_
  simp only [qz]
  refine rf_load rfl rfl rfl Try.underlying36 rfl (fun w hw => (Kn.hd0 hw).at rfl) ?_
  simp only [qz]
  refine rg_move ?_
  simp only [qz]
  refine rf_sub (r := (p : Int)) rfl rfl rfl rfl (wrap_eqB (by omega) (by omega) (by omega)) ?_
  simp only [qz]
  refine rg_move ?_
  simp only [qz]
  refine rf_add (r := ((p + i : Nat) : Int)) rfl rfl rfl rfl (wrap_eqB (by omega) (by omega) (by omega)) ?_
  simp only [qz]
  refine rg_move ?_
  simp only [qz]
  refine rf_mul (r := (((p + i) * N : Nat) : Int)) rfl rfl rfl rfl (wrap_eqB hcst (by omega) (by omega)) ?_
  simp only [qz]
  refine rg_move ?_
  simp only [qz]
  refine rf_add (r := ((p + i) * N : Nat) + ((p : Int) + 1)) rfl rfl rfl rfl (wrap_eqB (by omega) (by omega) (by omega)) ?_
  simp only [qz]
  refine rf_sub (r := (((p + i) * N + p : Nat) : Int)) rfl rfl rfl rfl (wrap_eqB (by omega) (by omega) (by omega)) ?_
  simp only [qz]
  refine rg_move ?_
  simp only [qz]
  refine rf_add (r := ((ix : Nat) : Int)) rfl rfl rfl rfl (wrap_eqB (by omega) (by omega) (by omega)) ?_
  simp only [qz]
  refine rf_field (n := 0) (j := 1) rfl rfl rfl Try.underlying38 rfl (by kernel_rfl) rfl ?_
  simp only [qz]
  refine rf_load rfl rfl rfl Try.underlying36 rfl (fun w hw => (Kn.hd0 (Kn.tl (Kn.tl (Kn.tl hw)))).at rfl) ?_
  simp only [qz]
  refine rg_move ?_
  simp only [qz]
  refine rf_field (n := 0) (j := 0) rfl rfl rfl Try.underlying38 rfl (by kernel_rfl) rfl ?_
  simp only [qz]
  refine rf_load rfl rfl rfl Try.underlying3 rfl (fun w hw => (Kn.hd0 (Kn.tl (Kn.tl (Kn.tl hw)))).at rfl) ?_
  simp only [qz]
  refine rf_mul (r := ((i * m : Nat) : Int)) rfl rfl rfl rfl (wrap_eqB hcst2 (by omega) (by omega)) ?_
  simp only [qz]
  refine rg_move ?_
  simp only [qz]
  refine rf_add (r := ((jx : Nat) : Int)) rfl rfl rfl rfl (wrap_eqB (by omega) (by omega) (by omega)) ?_
  simp only [qz]
  refine rf_indexS (n := jx) (sz := 5) (j := off + jx * 5) rfl rfl rfl rfl Try.underlying36 (by kernel_rfl) (by omega) (by omega) rfl ?_
  simp only [qz]
  refine rf_loadC (n := 5) (vs := nmC (nm L jx)) rfl rfl rfl Try.underlying45 rfl (by kernel_rfl) rfl (fun w hw => atN_range ((hcell jx hjxl).kn hw hlt (by simp))) ?_
  simp only [qz]
  refine rf_indexS (n := ix) (sz := 5) (j := 0 + ix * 5) rfl rfl rfl rfl Try.underlying36 (by kernel_rfl) (by omega) (by omega) rfl ?_
  simp only [qz]
  have hsz := nm_szM (plcS N p m L z0 jx) ix (nm L jx) resto (by rw [← hjxe, hpl, hzl.out]; exact hixl)
  rw [hjxe]
  refine rf_storeRM (n := 5) (vs := nmC (nm L jx)) rfl rfl (by kernel_rfl) rfl rfl (UpdR.there _ (UpdR.here _ _ _ hsz)) (sc _ (sk _ (sc _ (sc _ sn)))) ?_
  have hstep : (plcS N p m L z0 jx).set ix (nm L jx) = plcS N p m L z0 (i * m + (k + 1)) := by
    rw [← Nat.add_assoc, plcS, hjxe, ← hixe, ← hjxe, ix_div (show k < m by omega), ix_mod (show k < m by omega)]
  rw [nm_flM _ _ _ _ (by rw [← hjxe, hpl, hzl.out]; exact hixl), hstep]
  have hON := OwnN.flM (g := go) (n := N * N) (l := plcS N p m L z0 (i * m + (k + 1))) (rest := resto) (by rw [plcS_len, hzl.out]) hco1 hco2 (by rw [List.length_append, El.flat_len, plcS_len, hzl.out] at hco3 ⊢; exact hco3)
  simp only [qz]
  refine rg_nil (ek_block (ek_next ?_))
  refine wk_region [0, 0] rfl (by kernel_rfl) ?_
  simp only [qy]
  refine rf_add rfl rfl rfl rfl (wrap_ok (by omega) (by omega)) ?_
  simp only [qz]
  refine rg_move ?_
  simp only [qz]
  refine rg_nil ?_
  refine ek_roundF (m - (k + 1)) (by omega) (by kernel_rfl) ?_
  exact ⟨k + 1, [(go, _)], rfl, by rfl, by rfl, (by omega), hON⟩

theorem mplaced_int (N p m : Nat) (z : Int) (L : List Nm) (a : Option Addr) (c : Nat) (hz : z = p + 1) (hN1 : 1 ≤ N) (hN6 : N ≤ 6) (hm1 : 1 ≤ m) (hpm : p + m ≤ N) (hL : Hid (L.length = m * m)) (w : World) (hA : AS w a (nms L)) : Calls Try.prog 132 #[.int .i64 N, .int .i64 z, .agg #[.int .i64 m, .slice a L.length c]] w fun e w' => RetM1 w N (plcL N p m L) e w' := by
  subst hz
  exact mplaced_any N p m L a c hN1 hN6 hm1 hpm hL w hA
end Go.Proofs.Ytccbinnlnkpplaa
namespace Go.Proofs.Ytccbinnlnkpplaa
set_option linter.all false
open Go.RowKit

theorem fit_own {N : Nat} {x : It} (h : fitB N x = true) : 1 ≤ x.at_ ∧ (x.at_ - 1).toNat + ownN x ≤ N ∧ 1 ≤ ownN x ∧ ownN x ≤ 2 ∧ x.at_ = ((x.at_ - 1).toNat : Int) + 1 := by
  unfold fitB at h
  rw [decide_eq_true_eq] at h
  obtain ⟨h1, h2, h3⟩ := h
  unfold wd at h1 h3
  unfold ownN
  by_cases hk : x.kind = 1
  · rw [if_pos hk] at h1 h3 ⊢
    split at h1
    · next hn => rw [if_pos hn] at h3; omega
    exact absurd rfl h1
  rw [if_neg hk] at h1 h3 ⊢
  split at h1
  · next hn =>
    rw [if_pos hn] at h3
    split at h1
    · next hm => rw [if_pos hm] at h3; omega
    exact absurd rfl h1
  exact absurd rfl h1
theorem itemE_zero {n : Int} {xs : List It} (h : itemE n xs = 0) : validI n xs = true := by
  unfold itemE at h
  split at h
  · split at h
    · assumption
    cases h
  cases h
theorem ownL_len (x : It) : (ownL x).length = ownN x * ownN x := by
  unfold ownL ownN
  by_cases hk : x.kind = 1
  · rw [if_pos hk, if_pos hk]; rfl
  rw [if_neg hk, if_neg hk]
  split <;> rfl
theorem itL_len {N : Nat} (h1 : 1 ≤ N) (h6 : N ≤ 6) (x : It) : (itL N x).length = N * N := by
  unfold itL plcL
  rw [plcS_len, idM_len h1 h6]
theorem mulM_code {n m : Int} {xs ys : List Nm} {c : Int} (h : mulM n m xs ys = .error c) : c ≠ 0 := by
  unfold mulM at h
  split at h
  · split at h
    · obtain ⟨i, hi, he⟩ := gather_err_mem h
      have := prodsR_code he
      omega
    cases h; decide
  cases h; decide
theorem matS_code {N : Nat} {xs : List It} : ∀ {j : Nat} {c : Int}, matS N xs j = .error c → c ≠ 0
  | 0, c, h => by cases h
  | j + 1, c, h => by
    simp only [matS] at h
    split at h
    · next c' hc => cases h; exact matS_code hc
    · exact mulM_code h
theorem rC_ok {r : LR} (hc : ∀ c, r = .error c → c ≠ 0) (h : rC r = 0) : ∃ l, r = .ok l := by
  cases r with
  | ok l => exact ⟨l, rfl⟩
  | error c => exact absurd h (hc c rfl)
theorem matS_len {N : Nat} {xs : List It} (h1 : 1 ≤ N) (h6 : N ≤ 6) : ∀ {j : Nat} {l : List Nm}, matS N xs j = .ok l → l.length = N * N
  | 0, l, h => by cases h; exact idM_len h1 h6
  | j + 1, l, h => by
    simp only [matS] at h
    split at h
    · cases h
    · unfold mulM at h
      split at h
      · rw [if_pos rfl, Int.toNat_natCast] at h
        exact made_len h
      · cases h
theorem itAt_range {w : World} {b off : Nat} {i : It} (h : ItAt w b off i) : w.rangeAt b off [.int .i64 i.kind, .int .i64 i.at_, .int .i64 i.n, .string i.name] := by
  intro j v hj
  match j, hj with
  | 0, hj => injection hj with hj; subst hj; exact h.c0
  | 1, hj => injection hj with hj; subst hj; exact h.c1
  | 2, hj => injection hj with hj; subst hj; exact h.c2
  | 3, hj => injection hj with hj; subst hj; exact h.c3
  | n + 4, hj => cases hj
theorem run_lookup_noneM (s : ByteArray) (w : World) : (Instr.lookup 148 (.map none) (.string s) true).run Try.prog w = .ok (.tuple #[.agg #[.int .i64 0, .slice none 0 0], .bool false]) w := by
  kernel_rfl
section
variable {R : Option Nat} {ops : Array Oper} {Q : Exit → Act → World → Prop} {B : World} {F : List Nat} {s0 : Option (List Blk × List Blk)}
variable {l : List (Oper × Nat)} {a : Act} {s : List Blk} {d : Option Tmp} {t : TypeId} {p : String} {af : Array Edge} {gd : Option (Nat × Bool)} {m : Nat}
theorem rf_lookM {x y : Operand} {nm_ : ByteArray} (hm : soft03 m = true) (hg : Region.wanted ⟨d, .lookup 148 x y true, t, p, af, gd⟩ (yielded ops a.tmps) = true)
    (hx : a.eval x = .map none) (hy : a.eval y = .string nm_) (h : Rg R Try.prog ops Q B F s0 l (a.put d (.tuple #[.agg #[.int .i64 0, .slice none 0 0], .bool false])) s) : Rg R Try.prog ops Q B F s0 ((⟨d, .lookup 148 x y true, t, p, af, gd⟩, m) :: l) a s := by
  refine rg_any hm hg (fun w => ?_) h
  unfold Yld
  have := run_lookup_noneM nm_ w
  simp [execOp, hx, hy, this]
end
set_option maxRecDepth 100000 in
set_option maxHeartbeats 1000000 in
theorem mcheck_any (n : Int) (xs : List It) (a : Option Addr) (c : Nat) (w : World) (hA : AS w a (its xs)) : Calls Try.prog 73 #[.int .i64 n, .slice a xs.length c] w fun e w' => e = .returned (.int .i64 (itemE n xs)) ∧ Below w.heap.size w w' := by
  go_enter Try.func73, Try.ntmps73
  refine wk_start ?_
  refine wk_seq ?_
  refine wk_region [0] rfl (by kernel_rfl) ?_
  simp only [qy]
  refine rg_assign ?_
  simp only [qz]
  refine rg_nil (ek_next (wk_seq (wk_block (wk_seq ?_))))
  refine wk_region [0, 1, 0, 0] rfl (by kernel_rfl) ?_
  simp only [qy]
  refine rg_move ?_
  simp only [qz]
  apply rg_pureb (by rfl) (by kernel_rfl)
  case hargs => (simp only [qm, qs, Act.eval]; exact rfl)
  case h => exact fun w hw => between_mesh 1 n 6 w
  case hz => exact (fun _ h => by cases h)
  intro x h1
  cases x
  · (try simp only [qd, ne_eq] at h1)
    simp only [qz]
    have hbt := betB_false h1
    clear h1
    refine rf_not rfl rfl rfl ?_
    simp only [qz]
    refine rg_assign ?_
    simp only [qz]
    refine rg_nil (ek_next (wk_cond_t rfl (wk_seq ?_)))
    refine wk_region [0] rfl (by kernel_rfl) ?_
    simp only [qy]
    refine rg_assign ?_
    simp only [qz]
    refine rg_nil (ek_next (wk_ret (ek_block_ret (ek_then_ret ?_))))
    refine ek_ret (fun w hw => ⟨rfl, _, res_t _ rfl, ?_⟩)
    (try simp only [qz])
    exact ⟨by unfold itemE; rw [if_neg hbt], hw.below⟩
  (try simp only [qd, ne_eq] at h1)
  simp only [qz]
  have hbt := betB_true h1
  clear h1
  refine rf_not rfl rfl rfl ?_
  simp only [qz]
  refine rg_assign ?_
  simp only [qz]
  refine rg_nil (ek_next (wk_cond_f rfl (wk_seq ?_)))
  refine wk_region [0, 0, 1, 0, 0] rfl (by kernel_rfl) ?_
  simp only [qy]
  refine rg_move ?_
  simp only [qz]
  refine rg_move ?_
  simp only [qz]
  apply rg_pureb (by rfl) (by kernel_rfl)
  case hargs => (simp only [qm, qs, Act.eval]; exact rfl)
  case h => exact fun w hw => mvalidI_any xs a c n w (hA.kn0 hw)
  case hz => exact (fun _ h => by cases h)
  intro x h2
  cases x
  · (try simp only [qd, ne_eq] at h2)
    simp only [qz]
    refine rf_not rfl rfl rfl ?_
    simp only [qz]
    refine rg_assign ?_
    simp only [qz]
    refine rg_nil (ek_next (wk_cond_t rfl (wk_seq ?_)))
    refine wk_region [0] rfl (by kernel_rfl) ?_
    simp only [qy]
    refine rg_assign ?_
    simp only [qz]
    refine rg_nil (ek_next (wk_ret (ek_block_ret (ek_then_ret ?_))))
    refine ek_ret (fun w hw => ⟨rfl, _, res_t _ rfl, ?_⟩)
    (try simp only [qz])
    exact ⟨by unfold itemE; rw [if_pos hbt, if_neg (by rw [h2]; decide)], hw.below⟩
  (try simp only [qd, ne_eq] at h2)
  simp only [qz]
  refine rf_not rfl rfl rfl ?_
  simp only [qz]
  refine rg_assign ?_
  simp only [qz]
  refine rg_nil (ek_next (wk_cond_f rfl (wk_skip (ek_block (ek_next (wk_seq ?_))))))
  refine wk_region [0] rfl (by kernel_rfl) ?_
  simp only [qy]
  refine rg_assign ?_
  simp only [qz]
  refine rg_nil (ek_next (wk_ret ?_))
  refine ek_ret (fun w hw => ⟨rfl, _, res_t _ rfl, ?_⟩)
  (try simp only [qz])
  exact ⟨by unfold itemE; rw [if_pos hbt, if_pos h2], hw.below⟩

set_option maxRecDepth 100000 in
set_option maxHeartbeats 1000000 in
theorem made_items (N : Nat) (xs : List It) (a : Option Addr) (c : Nat) (hN1 : 1 ≤ N) (hN6 : N ≤ 6) (hlx : xs.length ≤ 5000) (hfit : ∀ j, j < xs.length → fitB N (it xs j) = true) (w : World) (hA : AS w a (its xs)) : Calls Try.prog 74 #[.int .i64 N, .slice a xs.length c, .map none] w fun e w' => RetM w (rN N (matS N xs xs.length)) (rL (matS N xs xs.length)) (rC (matS N xs xs.length)) e w' := by
  go_enter Try.func74, Try.ntmps74
  refine wk_start ?_
  refine wk_seq ?_
  refine wk_region [1, 0] rfl (by kernel_rfl) ?_
  simp only [qy]
  refine rg_new (cs := ?_) (ty := ?_) (by rfl) (fun w => ?_) (fun _ h => by cases h) (fun g1 => ?_); rotate_left 2
  focus (go_simp; rfl)
  simp only [qz]
  refine rg_assign ?_
  simp only [qz]
  refine rg_nil (ek_next (wk_seq ?_))
  refine wk_region [0, 1, 0, 0, 0, 1, 1, 0] rfl (by kernel_rfl) ?_
  simp only [qy]
  refine rg_move ?_
  simp only [qz]
  apply (rg_retM (n := (N : Int)) (zs := idM N) (c := 0)) (by rfl) (by kernel_rfl)
  case hargs => (simp only [qm, qs, Act.eval]; exact rfl)
  case h => exact fun w hw => by have := identity_any N w; rw [ident_okM hN1 hN6, Int.toNat_natCast] at this; exact this
  case hz => exact (fun _ h => by cases h)
  intro va2 vc2 u2 hO2
  simp only [qz]
  refine rg_move ?_
  simp only [qz]
  refine rf_extract rfl rfl rfl rfl ?_
  simp only [qz]
  refine rf_extract rfl rfl rfl rfl ?_
  simp only [qz]
  refine rg_new (cs := ?_) (ty := ?_) (by rfl) (fun w => ?_) (fun _ h => by cases h) (fun g3 => ?_); rotate_left 2
  focus (go_simp; rfl)
  simp only [qz]
  refine rf_storeR (n := 2) rfl rfl (by kernel_rfl) rfl rfl (UpdR.here _ _ _ (Nat.le_of_ble_eq_true rfl)) (fun _ h => by cases h) ?_
  simp only [qz, Nat.reduceAdd]
  refine rg_assign ?_
  simp only [qz]
  refine rg_nil (ek_next (wk_seq (wk_seq ?_)))
  refine wk_region [0, 0, 0] rfl (by kernel_rfl) ?_
  simp only [qy]
  refine rg_move ?_
  simp only [qz]
  refine rf_len rfl rfl rfl Try.underlying32 ?_
  simp only [qz]
  refine rg_move ?_
  simp only [qz]
  refine rg_nil (ek_next (wk_block ?_))
  refine wk_loopF [7, 9, 11, 12, 13, 21, 22, 23, 24, 25, 26, 27, 28, 29, 30, 31, 32, 33, 34, 35, 36, 37, 38, 39, 40, 41, 42, 43, 44, 45, 46, 47, 48, 49, 50] (fun mz f s => ∃ (i : Nat) (r : LR) (va : Option Addr) (vc : Nat) (u : List Blk), f 9 = .int .i64 (rC r) ∧ f 21 = .int .i64 i ∧ s = ((g3, .cells #[.int .i64 (rN N r), .slice va (rL r).length vc] 38) :: (u ++ ((g1, .cells #[.int .i64 0, .slice none 0 0] 38) :: []))) ∧ mz = xs.length - i ∧ i ≤ xs.length ∧ Hid (matS N xs i = r) ∧ OwnN u (.slice va (rL r).length vc) (rL r)) ((fun (i : Nat) (r : LR) (va : Option Addr) (vc : Nat) (u : List Blk) => xs.length - i) (0) (.ok (idM N)) (va2) (vc2) (u2)) ?_ (by kernel_rfl) ?_
  · exact ⟨0, .ok (idM N), va2, vc2, u2, rfl, rfl, rfl, rfl, by omega, Lib.hid rfl, hO2⟩
  rintro mz f1 s ⟨i, r, va, vc, u, hs1_9, hs1_21, rfl, hn, hd1, hd2, hd3⟩
  simp only [Act.putF, List.foldl_cons, List.foldl_nil, hs1_9, hs1_21, Act.put, Act.eval, q1, q2, q3, q4, q5, q6, q7, q8, q9, q10, q11, q12, q13, q14, q15, q16, q17, q18, Nat.reduceAdd, Bool.not_true, Bool.not_false]
  clear hs1_9 hs1_21
  refine wk_seq ?_
  refine wk_region [0] rfl (by kernel_rfl) ?_
  simp only [qy]
  refine rfb_lss rfl rfl rfl rfl ?_
  intro x h1
  cases x
  · (try simp only [qd, ne_eq] at h1)
    simp only [qz]
    refine rg_nil (ek_next (wk_seq (wk_cond_f rfl (wk_exit (ek_then_exit (ek_then_exit (ek_block_exit (ek_next (wk_seq ?_)))))))))
    refine wk_region [0, 0, 1, 0] rfl (by kernel_rfl) ?_
    simp only [qy]
    refine rf_loadR (n := 2) rfl rfl rfl Try.underlying38 rfl (by kernel_rfl) (fun w hw => Kn.hd0 hw) rfl rfl ?_
    simp only [qz]
    refine rg_move ?_
    simp only [qz]
    refine rf_storeR (n := 2) rfl rfl (by kernel_rfl) rfl rfl (UpdR.there _ (UpdR.app _ (UpdR.here _ _ _ (Nat.le_of_ble_eq_true rfl)))) (fun _ h => by cases h) ?_
    simp only [qz, Nat.reduceAdd]
    refine rg_assign ?_
    simp only [qz]
    refine rg_nil (ek_next (wk_ret ?_))
    refine ek_ret (fun w hw => ⟨rfl, _, run_results2 rfl rfl (Kn.hd0 (Kn.tlU (Kn.tl hw))) Try.underlying38 rfl (by kernel_rfl), ?_⟩)
    (try simp only [qz])
    obtain rfl : i = xs.length := by omega
    rw [hd2.out]
    exact ⟨_, u, rfl, hd3, hw.made (List.Sublist.cons _ (List.sublist_append_left _ _))⟩
  (try simp only [qd, ne_eq] at h1)
  simp only [qz]
  refine rg_nil (ek_next (wk_seq (wk_cond_t rfl (wk_skip (ek_next (wk_seq (wk_block (wk_seq ?_))))))))
  obtain ⟨b, off, rfl, hlt, hcell⟩ := AS.openT hA (by omega)
  obtain ⟨x, hx⟩ : ∃ x, it xs i = x := ⟨_, rfl⟩
  have hit := hcell i (by omega)
  have hfx := hfit i (by omega)
  rw [hx] at hit hfx
  have hfo := fit_own hfx
  replace hx := Lib.hid hx
  refine wk_region [0, 0, 1, 1] rfl (by kernel_rfl) ?_
  simp only [qy]
  refine rf_indexS (n := i) (sz := 4) (j := off + i * 4) rfl rfl rfl rfl Try.underlying32 (by kernel_rfl) (by omega) (by omega) rfl ?_
  simp only [qz]
  refine rf_loadC (n := 4) (vs := itC x) rfl rfl rfl Try.underlying80 rfl (by kernel_rfl) rfl (fun w hw => itAt_range (hit.kn hw hlt (by simp))) ?_
  simp only [qz]
  refine rg_new (cs := ?_) (ty := ?_) (by rfl) (fun w => ?_) (fun _ h => by cases h) (fun g4 => ?_); rotate_left 2
  focus (go_simp; rfl)
  simp only [qz]
  refine rf_storeR (n := 4) rfl rfl (by kernel_rfl) rfl rfl (UpdR.here _ _ _ (Nat.le_of_ble_eq_true rfl)) (fun _ h => by cases h) ?_
  simp only [qz, Nat.reduceAdd]
  refine rg_nil (ek_next (wk_seq (wk_seq ?_)))
  refine wk_region [0, 0] rfl (by kernel_rfl) ?_
  simp only [qy]
  refine rg_move ?_
  simp only [qz]
  refine rfb_neq rfl rfl rfl rfl ?_
  intro x h2
  cases x
  · (try simp only [qd, ne_eq] at h2)
    simp only [qz]
    obtain ⟨l, hr⟩ := rC_ok (fun c h => matS_code (hd2.out.trans h)) (by simpa using h2)
    subst hr
    clear h2
    have hll := matS_len hN1 hN6 hd2.out
    have hil := itL_len hN1 hN6 x
    have hN36 := Nat.mul_le_mul hN6 hN6
    simp only [rN, rL, rC] at hd3 ⊢
    refine rg_nil (ek_next (wk_cond_f rfl (wk_skip (ek_next (wk_seq ?_)))))
    refine wk_region [0, 0, 0, 0, 0, 0, 0, 1, 1, 0] rfl (by kernel_rfl) ?_
    simp only [qy]
    refine rg_move ?_
    simp only [qz]
    refine rf_field (n := 0) (j := 3) rfl rfl rfl Try.underlying80 rfl (by kernel_rfl) rfl ?_
    simp only [qz]
    refine rf_load rfl rfl rfl Try.underlying9 rfl (fun w hw => (Kn.hd0 hw).at rfl) ?_
    simp only [qz]
    refine rf_lookM rfl rfl rfl rfl ?_
    simp only [qz]
    refine rg_move ?_
    simp only [qz]
    refine rf_extract rfl rfl rfl rfl ?_
    simp only [qz]
    refine rf_extract rfl rfl rfl rfl ?_
    simp only [qz]
    refine rg_new (cs := ?_) (ty := ?_) (by rfl) (fun w => ?_) (fun _ h => by cases h) (fun g5 => ?_); rotate_left 2
    focus (go_simp; rfl)
    simp only [qz]
    refine rf_storeR (n := 2) rfl rfl (by kernel_rfl) rfl rfl (UpdR.here _ _ _ (Nat.le_of_ble_eq_true rfl)) (fun _ h => by cases h) ?_
    simp only [qz, Nat.reduceAdd]
    refine rg_assign ?_
    simp only [qz]
    refine rg_nil (ek_next (wk_seq (wk_seq ?_)))
    refine wk_region [0, 0] rfl (by kernel_rfl) ?_
    simp only [qy]
    refine rg_move ?_
    simp only [qz]
    refine rf_not rfl rfl rfl ?_
    simp only [qz]
    refine rg_nil (ek_next (wk_cond_t rfl ?_))
    refine wk_region [0, 1, 1] rfl (by kernel_rfl) ?_
    simp only [qy]
    refine rf_loadR (n := 4) rfl rfl rfl Try.underlying80 rfl (by kernel_rfl) (fun w hw => Kn.hd0 (Kn.tl hw)) rfl rfl ?_
    simp only [qz]
    apply rg_retM1 (by rfl) (by kernel_rfl)
    case hargs => (simp only [qm, qs, Act.eval]; exact rfl)
    case h => exact fun w hw => own_any x w
    case hz => exact (fun _ h => by cases h)
    intro va6 vc6 u6 hO6
    simp only [qz]
    refine rf_storeR (n := 2) rfl rfl (by kernel_rfl) rfl rfl (UpdR.app _ (UpdR.here _ _ _ (Nat.le_of_ble_eq_true rfl))) (fun _ h => by cases h) ?_
    simp only [qz, Nat.reduceAdd]
    refine rg_nil (ek_next ?_)
    refine wk_draws_m (hz1 := (List.Sublist.append_left (sc _ (sc _ (sk _ (List.Sublist.append_left (sc _ sn) _)))) _)) [(0, 0), (1, 0), (2, 0), (3, 0), (5, 0), (4, 1), (6, 1), (7, 0), (8, 0), (9, 3), (10, 2), (11, 0)] 10 (by kernel_rfl) (by kernel_rfl) (fun c d v a w h => by cases d <;> exact h) ?_
    simp only [List.map_cons, List.map_nil, List.getD_cons_zero, List.getD_cons_succ]
    refine rg_move ?_
    simp only [qz]
    refine rf_field (n := 0) (j := 1) rfl rfl rfl Try.underlying80 rfl (by kernel_rfl) rfl ?_
    simp only [qz]
    refine rf_load rfl rfl rfl Try.underlying3 rfl (fun w hw => (Kn.hd0 (Kn.tl (Kn.tlU hw))).at rfl) ?_
    simp only [qz]
    refine rf_loadR (n := 2) rfl rfl rfl Try.underlying38 rfl (by kernel_rfl) (fun w hw => Kn.hd0 (Kn.tlU hw)) rfl rfl ?_
    simp only [qz]
    refine rf_loadR (n := 2) rfl rfl rfl Try.underlying38 rfl (by kernel_rfl) (fun w hw => Kn.hd0 (Kn.tl (Kn.tl (Kn.tlU hw)))) rfl rfl ?_
    simp only [qz]
    apply (rg_retM1 (n := (N : Int)) (zs := itL N x)) (by rfl) (by kernel_rfl)
    case hargs => (simp only [qm, qs, Act.eval]; exact rfl)
    case h => exact fun w hw => mplaced_int N (x.at_ - 1).toNat (ownN x) x.at_ (ownL x) va6 vc6 hfo.2.2.2.2 hN1 hN6 hfo.2.2.1 hfo.2.1 (Lib.hid (ownL_len x)) w (hO6.asM (hw.perm (List.Perm.refl _)))
    case hz => exact (fun _ h => by cases h; exact (List.Sublist.append_left (sc _ (sc _ (sc _ (List.Sublist.append_left (sc _ sn) _)))) _))
    intro va7 vc7 u7 hO7
    simp only [qz]
    apply (rg_retM (n := rN N (mulM N N (itL N x) l)) (zs := rL (mulM N N (itL N x) l)) (c := rC (mulM N N (itL N x) l))) (by rfl) (by kernel_rfl)
    case hargs => (simp only [qm, qs, Act.eval]; exact rfl)
    case h => exact fun w hw => by have := mul_any N N (itL N x) l va7 va vc7 vc (by omega) (by omega) w (hO7.asM (hw.perm (List.Perm.refl _))) (hd3.asM (hw.perm ((((((((((((List.Perm.refl _).cons _).trans (List.perm_middle (l₁ := u)).symm).cons _).trans (List.perm_middle (l₁ := u)).symm).cons _).trans (List.perm_middle (l₁ := u)).symm).append_left _).trans (List.perm_append_comm_assoc u6 u _)).append_left _).trans (List.perm_append_comm_assoc u7 u _)).trans ((List.Perm.refl _).append_left _)))); rw [Int.toNat_natCast] at this; exact this
    case hz => exact (fun _ h => by cases h; exact ((List.Sublist.append_left (sc _ (sc _ (sc _ (List.Sublist.append_left (sc _ sn) _)))) _).trans (List.sublist_append_right _ _)))
    intro va8 vc8 u8 hO8
    simp only [qz]
    refine rg_move ?_
    simp only [qz]
    refine rf_extract rfl rfl rfl rfl ?_
    simp only [qz]
    refine rf_extract rfl rfl rfl rfl ?_
    simp only [qz]
    refine rf_storeRM (n := 2) rfl rfl (by kernel_rfl) rfl rfl (UpdR.app _ (UpdR.app _ (UpdR.app _ (UpdR.there _ (UpdR.there _ (UpdR.here _ _ _ (Nat.le_of_ble_eq_true rfl))))))) (((List.Sublist.append_left (sc _ (sc _ (sk _ (List.Sublist.append_left (sc _ sn) _)))) _).trans (List.sublist_append_right _ _)).trans (List.sublist_append_right _ _)) ?_
    simp only [qz, Nat.reduceAdd]
    refine rg_assign ?_
    simp only [qz]
    refine rg_nil (ek_block (ek_next ?_))
    refine wk_region [0, 0] rfl (by kernel_rfl) ?_
    simp only [qy]
    refine rf_add rfl rfl rfl rfl (wrap_ok (by omega) (by omega)) ?_
    simp only [qz]
    refine rg_move ?_
    simp only [qz]
    refine rg_nil ?_
    refine ek_sub (List.Sublist.append_left (((sk _ (sk _ (sc _ ((sc _ sn).trans (List.sublist_append_right _ _))))).trans (List.sublist_append_right _ _)).trans (List.sublist_append_right _ _)) _) ?_
    refine ek_perm ((((List.Perm.refl _).append_left _).trans (List.perm_middle (l₁ := u8))).trans ((List.Perm.refl _).cons _)) ?_
    refine ek_roundF (xs.length - (i + 1)) (by omega) (by kernel_rfl) ?_
    exact ⟨i + 1, mulM N N (itL N x) l, va8, vc8, u8, rfl, rfl, by rfl, by rfl, (by omega), (Lib.hid (by rw [matS, hd2.out, hx.out])), hO8⟩
  (try simp only [qd, ne_eq] at h2)
  simp only [qz]
  refine rg_nil (ek_next (wk_cond_t rfl (wk_seq ?_)))
  refine wk_region [0, 0, 1, 0] rfl (by kernel_rfl) ?_
  simp only [qy]
  refine rf_build (cs := fun a => #[.int .i64 0, .slice none 0 0]) rfl rfl (by kernel_rfl) ?_
  simp only [qz]
  refine rg_move ?_
  simp only [qz]
  refine rf_storeR (n := 2) rfl rfl (by kernel_rfl) rfl rfl (UpdR.there _ (UpdR.there _ (UpdR.app _ (UpdR.here _ _ _ (Nat.le_of_ble_eq_true rfl))))) (fun _ h => by cases h) ?_
  simp only [qz, Nat.reduceAdd]
  refine rg_assign ?_
  simp only [qz]
  refine rg_nil (ek_next (wk_ret (ek_then_ret (ek_block_ret (ek_then_ret (ek_then_ret (ek_block_ret (ek_then_ret ?_))))))))
  refine ek_ret (fun w hw => ⟨rfl, _, run_results2 rfl rfl (Kn.hd0 (Kn.tlU (Kn.tl (Kn.tl hw)))) Try.underlying38 rfl (by kernel_rfl), ?_⟩)
  (try simp only [qz])
  cases r with
  | ok l => exact absurd rfl h2
  | error cc =>
    rw [matS_err hd2.out xs.length (by omega)]
    exact ⟨.slice none 0 0, [], rfl, OwnG.nil, .nil hw.below⟩

set_option maxRecDepth 100000 in
set_option maxHeartbeats 1000000 in
theorem matrixOf_any (n : Int) (xs : List It) (a : Option Addr) (c : Nat) (w : World) (hA : AS w a (its xs)) : Calls Try.prog 37 #[.int .i64 n, .slice a xs.length c] w fun e w' => RetM w (rN n.toNat (matO n xs)) (rL (matO n xs)) (rC (matO n xs)) e w' := by
  go_enter Try.func37, Try.ntmps37
  refine wk_start ?_
  refine wk_seq ?_
  refine wk_region [1, 0] rfl (by kernel_rfl) ?_
  simp only [qy]
  refine rg_new (cs := ?_) (ty := ?_) (by rfl) (fun w => ?_) (fun _ h => by cases h) (fun g1 => ?_); rotate_left 2
  focus (go_simp; rfl)
  simp only [qz]
  refine rg_assign ?_
  simp only [qz]
  refine rg_nil (ek_next (wk_seq (wk_seq ?_)))
  refine wk_region [0, 0, 1, 0] rfl (by kernel_rfl) ?_
  simp only [qy]
  refine rg_move ?_
  simp only [qz]
  refine rg_move ?_
  simp only [qz]
  apply rg_pure (by rfl) (by kernel_rfl)
  case hargs => (simp only [qm, qs, Act.eval]; exact rfl)
  case h => exact fun w hw => mcheck_any n xs a c w (hA.kn0 hw)
  case hz => exact (fun _ h => by cases h)
  simp only [qz]
  refine rg_assign ?_
  simp only [qz]
  refine rg_nil (ek_next (wk_seq ?_))
  refine wk_region [0, 0] rfl (by kernel_rfl) ?_
  simp only [qy]
  refine rg_move ?_
  simp only [qz]
  refine rfb_neq rfl rfl rfl rfl ?_
  intro x h1
  cases x
  · (try simp only [qd, ne_eq] at h1)
    simp only [qz]
    have hie : itemE n xs = 0 := by simpa using h1
    refine rg_nil (ek_next (wk_cond_f rfl (wk_skip (ek_next (wk_seq ?_)))))
    refine wk_region [0, 0, 1, 0, 0, 1, 0] rfl (by kernel_rfl) ?_
    simp only [qy]
    refine rg_move ?_
    simp only [qz]
    refine rg_move ?_
    simp only [qz]
    obtain ⟨hn1, hn6, hl5, hft⟩ := validB_all (n := n) (xs := xs) (itemE_zero hie)
    obtain ⟨N, rfl⟩ : ∃ N : Nat, n = N := ⟨n.toNat, by omega⟩
    have hmo : matO (N : Int) xs = matS N xs xs.length := by (unfold matO; rw [if_pos hie, Int.toNat_natCast])
    replace hmo := Lib.hid hmo
    apply rg_retM (by rfl) (by kernel_rfl)
    case hargs => (simp only [qm, qs, Act.eval]; exact rfl)
    case h => exact fun w hw => made_items N xs a c (by omega) (by omega) hl5 hft w (hA.kn0 hw)
    case hz => exact (fun _ h => by cases h)
    intro va2 vc2 u2 hO2
    simp only [qz]
    refine rf_extract rfl rfl rfl rfl ?_
    simp only [qz]
    refine rf_extract rfl rfl rfl rfl ?_
    simp only [qz]
    refine rf_storeR (n := 2) rfl rfl (by kernel_rfl) rfl rfl (UpdR.app _ (UpdR.here _ _ _ (Nat.le_of_ble_eq_true rfl))) (fun _ h => by cases h) ?_
    simp only [qz, Nat.reduceAdd]
    refine rg_assign ?_
    simp only [qz]
    refine rg_nil (ek_next (wk_ret ?_))
    refine ek_ret (fun w hw => ⟨rfl, _, run_results2 rfl rfl (Kn.hd0 (Kn.tlU hw)) Try.underlying38 rfl (by kernel_rfl), ?_⟩)
    (try simp only [qz])
    rw [hmo.out, Int.toNat_natCast]
    exact ⟨_, u2, rfl, hO2, hw.made (List.sublist_append_left _ _)⟩
  (try simp only [qd, ne_eq] at h1)
  simp only [qz]
  have hie : itemE n xs ≠ 0 := by simpa using h1
  refine rg_nil (ek_next (wk_cond_t rfl (wk_seq ?_)))
  refine wk_region [0, 0, 1, 0] rfl (by kernel_rfl) ?_
  simp only [qy]
  refine rf_build (cs := fun a => #[.int .i64 0, .slice none 0 0]) rfl rfl (by kernel_rfl) ?_
  simp only [qz]
  refine rg_move ?_
  simp only [qz]
  refine rf_storeR (n := 2) rfl rfl (by kernel_rfl) rfl rfl (UpdR.here _ _ _ (Nat.le_of_ble_eq_true rfl)) (fun _ h => by cases h) ?_
  simp only [qz, Nat.reduceAdd]
  refine rg_assign ?_
  simp only [qz]
  refine rg_nil (ek_next (wk_ret (ek_then_ret ?_)))
  refine ek_ret (fun w hw => ⟨rfl, _, run_results2 rfl rfl (Kn.hd0 hw) Try.underlying38 rfl (by kernel_rfl), ?_⟩)
  (try simp only [qz])
  have hmo : matO n xs = .error (itemE n xs) := by (unfold matO; rw [if_neg hie])
  rw [hmo]
  exact ⟨.slice none 0 0, [], rfl, OwnG.nil, .nil hw.below⟩

end Go.Proofs.Ytccbinnlnkpplaa
namespace Go.Proofs.Ytccbinnlnkpplaa
set_option linter.all false

theorem empD : (⟨#[]⟩ : ByteArray).toList.isEmpty = true := by
  unfold ByteArray.toList
  unfold ByteArray.toList.loop
  rfl
theorem mk_of_val {x z : Nm} (hz : z.Ok) (hx : 0 ≤ x.k) (hv : x.val = z.val) : x.mk' = .ok z := by
  have h := nf_eq hx hz.k0 (eqv_val hx hz.k0 hv)
  have h2 : z.nf = z := nf_self hz.nf
  unfold Nm.mk'
  rw [h, h2]
  rw [if_pos (small_yes hz.k1 hz.fit)]
theorem mul_of_val {x y z : Nm} (hx : x.Ok) (hy : y.Ok) (hz : z.Ok) (hv : x.val * y.val = z.val) : x.mul y = .ok z :=
  mk_of_val hz (mulR_k hx.k0 hy.k0) (by rw [val_mulR hx.k0 hy.k0]; exact hv)
theorem add_of_val {x y z : Nm} (hx : x.Ok) (hy : y.Ok) (hz : z.Ok) (hv : x.val + y.val = z.val) : x.add y = .ok z :=
  mk_of_val hz (addR_k hx.k0) (by rw [val_addR hx.k0 hy.k0]; exact hv)
/-- A sum of products of which at most the one at i is not 0. -/
theorem prodsR_one {x y : Nat → Nm} {i : Nat} {p : Nm} (hp : p.Ok) (hi : (x i).mul (y i) = .ok p) (h0 : ∀ j, j ≠ i → (x j).mul (y j) = .ok Nm.zero) : ∀ m, prodsR x y m = .ok (if i < m then p else Nm.zero)
  | 0 => by rw [if_neg (by omega)]; rfl
  | m + 1 => by
    simp only [prodsR, prodsR_one hp hi h0 m]
    by_cases h1 : m = i
    · subst h1
      rw [hi, if_neg (by omega), if_pos (by omega)]
      exact add_of_val zero_ok hp hp (by rw [val_zero, Q4.zero_add])
    · rw [h0 m h1]
      by_cases h2 : i < m
      · rw [if_pos h2, if_pos (by omega)]
        exact add_of_val hp zero_ok hp (by rw [val_zero, Q4.add_zero])
      · rw [if_neg h2, if_neg (by omega)]
        exact add_of_val zero_ok zero_ok zero_ok (by rw [val_zero, Q4.add_zero])
theorem it_snoc_lt {L : List It} {x : It} {j : Nat} (h : j < L.length) : it (L ++ [x]) j = it L j := by
  unfold it
  rw [List.getD_eq_getElem?_getD, List.getD_eq_getElem?_getD, List.getElem?_append_left h]
theorem it_snoc (L : List It) (x : It) : it (L ++ [x]) L.length = x := by
  unfold it
  rw [List.getD_eq_getElem?_getD, List.getElem?_append_right (Nat.le_refl _)]
  simp
theorem matS_snoc {N : Nat} {L : List It} {x : It} : ∀ j, j ≤ L.length → matS N (L ++ [x]) j = matS N L j
  | 0, _ => rfl
  | j + 1, h => by
    have ih := matS_snoc (N := N) (L := L) (x := x) j (by omega)
    rw [matS, matS, ih, it_snoc_lt (by omega)]
end Go.Proofs.Ytccbinnlnkpplaa
namespace Go.Proofs.Ytccbinnlnkpplaa
set_option linter.all false
open Go.RowKit

/-! ### Sums -/
def Sm : Nat → (Nat → Nat) → Nat
  | 0, _ => 0
  | n + 1, f => Sm n f + f n
theorem Sm_congr : ∀ {n : Nat} {f g : Nat → Nat}, (∀ i, i < n → f i = g i) → Sm n f = Sm n g
  | 0, _, _, _ => rfl
  | n + 1, f, g, h => by simp only [Sm]; rw [Sm_congr (fun i hi => h i (by omega)), h n (by omega)]
theorem Sm_add (f g : Nat → Nat) : ∀ n, Sm n (fun i => f i + g i) = Sm n f + Sm n g
  | 0 => rfl
  | n + 1 => by simp only [Sm]; rw [Sm_add f g n]; omega
theorem Sm_zero : ∀ n, Sm n (fun _ => 0) = 0
  | 0 => rfl
  | n + 1 => by simp only [Sm]; rw [Sm_zero n]
theorem Sm_swap (f : Nat → Nat → Nat) (m : Nat) : ∀ n, Sm n (fun i => Sm m (fun j => f i j)) = Sm m (fun j => Sm n (fun i => f i j))
  | 0 => by simp only [Sm]; exact (Sm_zero m).symm
  | n + 1 => by simp only [Sm]; rw [Sm_swap f m n, Sm_add]
theorem Sm_upd {f g : Nat → Nat} {k : Nat} (h : ∀ i, i ≠ k → f i = g i) : ∀ n, k < n → Sm n f + g k = Sm n g + f k
  | 0, hk => by omega
  | n + 1, hk => by
    simp only [Sm]
    by_cases e : k = n
    · subst e
      rw [Sm_congr (fun i hi => h i (by omega) : ∀ i, i < k → f i = g i)]
      omega
    · have := Sm_upd h n (by omega)
      rw [h n (fun e' => e e'.symm)]
      omega
theorem Sm_perm : ∀ (n : Nat) (p : Nat → Nat), (∀ i, i < n → p i < n) → (∀ i j, i < n → j < n → p i = p j → i = j) →
    (∀ h : Nat → Nat, Sm n (fun i => h (p i)) = Sm n h) ∧ ∀ a, a < n → ∃ i, i < n ∧ p i = a
  | 0, _, _, _ => ⟨fun _ => rfl, fun a ha => by omega⟩
  | n + 1, p, hlt, hinj => by
    by_cases hn : p n = n
    · have hlt' : ∀ i, i < n → p i < n := fun i hi => by
        have h1 := hlt i (by omega)
        have h2 : p i ≠ n := fun e => by have := hinj i n (by omega) (by omega) (by omega); omega
        omega
      obtain ⟨ih1, ih2⟩ := Sm_perm n p hlt' (fun i j hi hj => hinj i j (by omega) (by omega))
      refine ⟨fun h => by simp only [Sm]; rw [ih1 h, hn], fun a ha => ?_⟩
      by_cases e : a = n
      · exact ⟨n, by omega, by omega⟩
      · obtain ⟨i, hi, hp⟩ := ih2 a (by omega)
        exact ⟨i, by omega, hp⟩
    · have hm : p n < n := by have := hlt n (by omega); omega
      have hi0 : ∃ k, k < n ∧ p k = n := by
        refine Classical.byContradiction fun hno => ?_
        have hlt' : ∀ i, i < n → p i < n := fun i hi => by
          have h1 := hlt i (by omega)
          have h2 : p i ≠ n := fun e => hno ⟨i, hi, e⟩
          omega
        obtain ⟨_, ih2⟩ := Sm_perm n p hlt' (fun i j hi hj => hinj i j (by omega) (by omega))
        obtain ⟨i, hi, hp⟩ := ih2 (p n) hm
        have := hinj i n (by omega) (by omega) hp
        omega
      obtain ⟨k, hk, hpk⟩ := hi0
      have hlt' : ∀ i, i < n → (fun i => if i = k then p n else p i) i < n := fun i hi => by
        by_cases e : i = k
        · simp only [e, if_true]; exact hm
        · simp only [e, if_false]
          have h1 := hlt i (by omega)
          have h2 : p i ≠ n := fun e' => e (hinj i k (by omega) (by omega) (by omega))
          omega
      have hinj' : ∀ i j, i < n → j < n → (fun i => if i = k then p n else p i) i = (fun i => if i = k then p n else p i) j → i = j := fun i j hi hj e => by
        by_cases e1 : i = k <;> by_cases e2 : j = k
        · omega
        · simp only [e1, e2, if_true, if_false] at e; have := hinj n j (by omega) (by omega) e; omega
        · simp only [e1, e2, if_true, if_false] at e; have := hinj i n (by omega) (by omega) e; omega
        · simp only [e1, e2, if_false] at e; exact hinj i j (by omega) (by omega) e
      obtain ⟨ih1, ih2⟩ := Sm_perm n _ hlt' hinj'
      refine ⟨fun h => ?_, fun a ha => ?_⟩
      · have h1 := ih1 h
        have h2 := Sm_upd (f := fun i => h (p i)) (g := fun i => h (if i = k then p n else p i)) (k := k) (fun i hi => by simp only [hi, if_false]) n hk
        simp only [if_true, hpk] at h2
        simp only [Sm]
        omega
      · by_cases e : a = n
        · exact ⟨k, by omega, by omega⟩
        · obtain ⟨i, hi, hp⟩ := ih2 a (by omega)
          by_cases e1 : i = k
          · simp only [e1, if_true] at hp; exact ⟨n, by omega, hp⟩
          · simp only [e1, if_false] at hp; exact ⟨i, by omega, hp⟩

/-! ### A permutation as a function -/
def pf (xs : List Int) (i : Nat) : Nat := (ix xs i).toNat
theorem Perm.pf_lt {xs : List Int} (h : Perm xs) {i : Nat} (hi : i < xs.length) : pf xs i < xs.length := by
  have := (h.2.2 i hi).1; unfold pf; omega
theorem Perm.ix_pf {xs : List Int} (h : Perm xs) {i : Nat} (hi : i < xs.length) : ix xs i = (pf xs i : Int) := by
  have := (h.2.2 i hi).1; unfold pf; omega
theorem Perm.inj {xs : List Int} (h : Perm xs) {i j : Nat} (hi : i < xs.length) (hj : j < xs.length) (e : pf xs i = pf xs j) : i = j := by
  have h1 := h.ix_pf hi
  have h2 := h.ix_pf hj
  rcases Nat.lt_trichotomy i j with h3 | h3 | h3
  · exact absurd (by rw [h1, h2, e]) ((h.2.2 j hj).2 i h3)
  · exact h3
  · exact absurd (by rw [h1, h2, e]) ((h.2.2 i hi).2 j h3)
theorem Perm.sm {xs : List Int} (h : Perm xs) (g : Nat → Nat) : Sm xs.length (fun i => g (pf xs i)) = Sm xs.length g :=
  (Sm_perm _ _ (fun i hi => h.pf_lt hi) (fun i j hi hj e => h.inj hi hj e)).1 g
theorem Perm.hit {xs : List Int} (h : Perm xs) {a : Nat} (ha : a < xs.length) : ∃ i, i < xs.length ∧ pf xs i = a :=
  (Sm_perm _ _ (fun i hi => h.pf_lt hi) (fun i j hi hj e => h.inj hi hj e)).2 a ha

theorem invTo_at {xs : List Int} (h : Perm xs) : ∀ k, k ≤ xs.length → ∀ j, j < k → ix (invTo xs k) (pf xs j) = j
  | 0, _, j, hj => by omega
  | k + 1, hk, j, hj => by
    simp only [invTo]
    show ix ((invTo xs k).set (pf xs k) (k : Int)) (pf xs j) = j
    rw [ix_set _ (by rw [invTo_len]; exact h.pf_lt (by omega))]
    by_cases e : j = k
    · subst e; rw [if_pos rfl]
    · rw [if_neg (fun e' => e (h.inj (by omega) (by omega) e')), invTo_at h k (by omega) j (by omega)]
theorem invL_len (xs : List Int) : (invL xs).length = xs.length := invTo_len xs _
theorem invL_at {xs : List Int} (h : Perm xs) {j : Nat} (hj : j < xs.length) : ix (invL xs) (pf xs j) = j := invTo_at h _ (Nat.le_refl _) j hj
theorem Perm.inv {xs : List Int} (h : Perm xs) : Perm (invL xs) := by
  refine ⟨by rw [invL_len]; exact h.1, by rw [invL_len]; exact h.2.1, ?_⟩
  rw [invL_len]
  intro a ha
  obtain ⟨i, hi, rfl⟩ := h.hit ha
  rw [invL_at h hi, invL_len]
  refine ⟨⟨by omega, by omega⟩, fun b hb e => ?_⟩
  have hbl : b < xs.length := by omega
  obtain ⟨j, hj, rfl⟩ := h.hit hbl
  rw [invL_at h hj] at e
  have : j = i := by omega
  subst this
  omega

/-! ### Inversions as a sum -/
def one (b : Bool) : Nat := if b then 1 else 0
theorem filter_sum (x : Int) : ∀ (l : List Int), (l.filter fun y => decide (x < y)).length = Sm l.length (fun i => one (decide (x < ix l i))) := by
  intro l
  have key : ∀ k, k ≤ l.length → ((l.take k).filter fun y => decide (x < y)).length = Sm k (fun i => one (decide (x < ix l i))) := by
    intro k
    induction k with
    | zero => intro _; simp [Sm]
    | succ k ih =>
      intro hk
      have hk' : k < l.length := by omega
      rw [List.take_succ_eq_append_getElem hk', List.filter_append, List.length_append, ih (by omega)]
      simp only [Sm]
      rw [ix_get _ _ hk']
      by_cases hx : x < l[k] <;> simp [one, hx, List.filter_cons]
  have := key l.length (Nat.le_refl _)
  rwa [List.take_length] at this
theorem ix_take (l : List Int) {i k : Nat} (hi : i < k) (hk : k ≤ l.length) : ix (l.take k) i = ix l i := by
  have h1 : i < (l.take k).length := by rw [List.length_take]; omega
  have h2 : i < l.length := by omega
  rw [ix_get _ _ h1, ix_get _ _ h2, List.getElem_take]
theorem invs_sum (l : List Int) : invs l = Sm l.length (fun j => Sm j (fun i => one (decide (ix l j < ix l i)))) := by
  have key : ∀ k, k ≤ l.length → invs (l.take k) = Sm k (fun j => Sm j (fun i => one (decide (ix l j < ix l i)))) := by
    intro k
    induction k with
    | zero => intro _; simp [Sm, invs]
    | succ k ih =>
      intro hk
      have hk' : k < l.length := by omega
      rw [List.take_succ_eq_append_getElem hk', invs_snoc, ih (by omega), filter_sum]
      simp only [Sm, List.length_take, Nat.min_eq_left (Nat.le_of_lt hk')]
      rw [ix_get _ _ hk']
      refine congrArg _ (Sm_congr fun i hi => ?_)
      rw [ix_take l hi (by omega)]
  have := key l.length (Nat.le_refl _)
  rwa [List.take_length] at this
theorem Sm_below {f : Nat → Nat} {j : Nat} : ∀ {n : Nat}, j ≤ n → Sm j f = Sm n (fun i => if i < j then f i else 0)
  | 0, h => by obtain rfl : j = 0 := by omega
               rfl
  | n + 1, h => by
    simp only [Sm]
    by_cases e : j = n + 1
    · subst e
      rw [if_pos (by omega)]
      simp only [Sm]
      rw [Sm_congr (fun i hi => by rw [if_pos (by omega)] : ∀ i, i < n → (if i < n + 1 then f i else 0) = f i)]
    · rw [Sm_below (n := n) (by omega), if_neg (by omega)]; rfl
theorem invs_square (l : List Int) : invs l = Sm l.length (fun j => Sm l.length (fun i => one (decide (i < j) && decide (ix l j < ix l i)))) := by
  rw [invs_sum]
  refine Sm_congr fun j hj => ?_
  rw [Sm_below (Nat.le_of_lt hj)]
  refine Sm_congr fun i _ => ?_
  by_cases h : i < j <;> simp [one, h]
theorem invs_inv {xs : List Int} (h : Perm xs) : invs (invL xs) = invs xs := by
  rw [invs_square, invs_square, invL_len]
  rw [← h.sm (fun j => Sm xs.length (fun i => one (decide (i < j) && decide (ix (invL xs) j < ix (invL xs) i))))]
  have e1 : ∀ j, j < xs.length → Sm xs.length (fun i => one (decide (i < pf xs j) && decide (ix (invL xs) (pf xs j) < ix (invL xs) i))) =
      Sm xs.length (fun i => one (decide (pf xs i < pf xs j) && decide (j < i))) := by
    intro j hj
    rw [← h.sm (fun i => one (decide (i < pf xs j) && decide (ix (invL xs) (pf xs j) < ix (invL xs) i)))]
    refine Sm_congr fun i hi => ?_
    rw [invL_at h hj, invL_at h hi]
    congr 2
    exact decide_eq_decide.2 (by omega)
  rw [Sm_congr e1, Sm_swap (fun j i => one (decide (pf xs i < pf xs j) && decide (j < i)))]
  refine Sm_congr fun i hi => Sm_congr fun j hj => ?_
  rw [h.ix_pf hi, h.ix_pf hj, Bool.and_comm]
  congr 2
  exact decide_eq_decide.2 (by omega)
theorem compL_len (xs ys : List Int) : (compL xs ys).length = ys.length := compTo_len xs ys _
theorem compTo_at (xs ys : List Int) : ∀ k j, j < k → ix (compTo xs ys k) j = ix xs (ix ys j).toNat
  | 0, j, hj => by omega
  | k + 1, j, hj => by
    simp only [compTo]
    rw [ix_app, compTo_len]
    by_cases e : j = k
    · rw [if_pos e, e]
    · rw [if_neg e, compTo_at xs ys k j (by omega)]
theorem comp_inv {xs : List Int} (h : Perm xs) {i : Nat} (hi : i < xs.length) : ix (compL (invL xs) xs) i = i := by
  unfold compL
  rw [compTo_at _ _ _ _ hi]
  exact invL_at h hi
end Go.Proofs.Ytccbinnlnkpplaa
namespace Go.Proofs.Ytccbinnlnkpplaa
set_option linter.all false
open Go.RowKit

/-- 0, 1, .. as far as it is laid. -/
def idTo (m : Nat) : Nat → List Int
  | 0 => List.replicate m 0
  | k + 1 => (idTo m k).set k k
theorem idTo_len (m : Nat) : ∀ k, (idTo m k).length = m
  | 0 => by simp [idTo]
  | k + 1 => by simp [idTo, idTo_len m k]
theorem idTo_at (m : Nat) : ∀ k, k ≤ m → ∀ j, j < k → ix (idTo m k) j = j
  | 0, _, j, hj => by omega
  | k + 1, hk, j, hj => by
    simp only [idTo]
    rw [ix_set _ (by rw [idTo_len]; omega)]
    by_cases e : j = k
    · rw [if_pos e, e]
    · rw [if_neg e, idTo_at m k (by omega) j (by omega)]
/-- Whose light is on which guide behind k items. -/
def atTo (m : Nat) (xs : List It) : Nat → List Int
  | 0 => idTo m m
  | k + 1 => swapAt (atTo m xs k) ((it xs k).at_ - 1).toNat
theorem atTo_len (m : Nat) (xs : List It) : ∀ k, (atTo m xs k).length = m
  | 0 => idTo_len m m
  | k + 1 => by rw [atTo, swapAt_len, atTo_len m xs k]
theorem swapAt_ix {l : List Int} {k : Nat} (h : k + 1 < l.length) (j : Nat) : ix (swapAt l k) j = if j = k then ix l (k + 1) else if j = k + 1 then ix l k else ix l j := by
  rw [← swapAt_set l k h, ix_set _ (by simp; omega)]
  by_cases e1 : j = k + 1
  · rw [if_pos e1, if_neg (by omega), if_pos e1]
  · rw [if_neg e1, ix_set _ (by omega), if_neg e1]
theorem swapAt_Perm {l : List Int} {k : Nat} (h : k + 1 < l.length) (hp : Perm l) : Perm (swapAt l k) := by
  obtain ⟨h1, h2, h3⟩ := hp
  refine ⟨by rw [swapAt_len]; exact h1, by rw [swapAt_len]; exact h2, ?_⟩
  have hne : ∀ i j, i < l.length → j < l.length → i ≠ j → ix l i ≠ ix l j := fun i j hi hj hij => by
    rcases Nat.lt_or_gt_of_ne hij with h | h
    · exact (h3 j hj).2 i h
    · exact fun e => (h3 i hi).2 j h e.symm
  have hr : ∀ i, i < l.length → 0 ≤ ix l i ∧ ix l i < l.length := fun i hi => (h3 i hi).1
  rw [swapAt_len]
  intro i hi
  rw [swapAt_len, swapAt_ix h]
  constructor
  · split
    · exact hr _ h
    · split
      · exact hr _ (by omega)
      · exact hr _ hi
  · intro j hj
    rw [swapAt_ix h]
    split <;> split <;> (try split) <;> (try split) <;> first | omega | exact hne _ _ (by omega) (by omega) (by omega)
theorem swapAt_two {l : List Int} {k : Nat} (h : k + 1 < l.length) : swapAt (swapAt l k) k = l := by
  apply ext_ix (by rw [swapAt_len, swapAt_len])
  intro j hj
  rw [swapAt_ix (by rw [swapAt_len]; exact h), swapAt_ix h (k + 1), swapAt_ix h k, swapAt_ix h j]
  by_cases e1 : j = k
  · subst e1; simp
  · by_cases e2 : j = k + 1
    · subst e2; simp
    · simp [e1, e2]
theorem invs_swap2 {l : List Int} {k : Nat} (h : k + 1 < l.length) (hp : Perm l) : invs (swapAt l k) = invs l + 1 ∨ invs (swapAt l k) + 1 = invs l := by
  have hne : ix l k ≠ ix l (k + 1) := (hp.2.2 (k + 1) h).2 k (by omega)
  rcases Int.lt_or_gt_of_ne hne with h1 | h1
  · left
    have := invs_swap (swapAt l k) k (by rw [swapAt_len]; exact h) (by rw [swapAt_ix h, swapAt_ix h, if_neg (by omega), if_pos rfl, if_pos rfl]; exact h1)
    rw [swapAt_two h] at this
    omega
  · right
    exact invs_swap l k h h1

/-- An item that crosses, right on m guides. -/
def Crs (m : Nat) (i : It) : Prop := 1 ≤ i.at_ ∧ i.at_ + 1 ≤ m
theorem crs_of {m : Nat} {i : It} (h : fitB m i = true) (hk : i.kind = 3) : Crs m i := by
  have h' := of_decide_eq_true h
  have hw : wd i = 2 ∨ wd i = 0 := by unfold wd; rw [if_neg (by omega), if_pos (by omega)]; split <;> simp
  unfold Crs
  omega
theorem id_perm {m : Nat} (h1 : 1 ≤ m) (h2 : m ≤ 64) : Perm (idTo m m) := by
  refine ⟨by rw [idTo_len]; exact h1, by rw [idTo_len]; exact h2, ?_⟩
  rw [idTo_len]
  intro i hi
  rw [idTo_at m m (Nat.le_refl _) i hi, idTo_len]
  refine ⟨⟨by omega, by omega⟩, fun j hj => ?_⟩
  rw [idTo_at m m (Nat.le_refl _) j (by omega)]
  omega
theorem id_invs (m : Nat) : invs (idTo m m) = 0 := by
  refine up_invs _ fun j hj => ?_
  rw [idTo_len] at hj
  rw [idTo_at m m (Nat.le_refl _) j (by omega), idTo_at m m (Nat.le_refl _) (j + 1) (by omega)]
  omega
theorem atTo_perm {m : Nat} (h1 : 1 ≤ m) (h2 : m ≤ 64) {xs : List It} : ∀ k, (∀ j, j < k → Crs m (it xs j)) → Perm (atTo m xs k)
  | 0, _ => id_perm h1 h2
  | k + 1, h => by
    have hc := h k (by omega)
    unfold Crs at hc
    exact swapAt_Perm (by rw [atTo_len]; omega) (atTo_perm h1 h2 k fun j hj => h j (by omega))
theorem atTo_invs {m : Nat} (h1 : 1 ≤ m) (h2 : m ≤ 64) {xs : List It} : ∀ k, (∀ j, j < k → Crs m (it xs j)) → invs (atTo m xs k) ≤ k ∧ (k - invs (atTo m xs k)) % 2 = 0
  | 0, _ => by rw [atTo, id_invs]; omega
  | k + 1, h => by
    have hc := h k (by omega)
    unfold Crs at hc
    obtain ⟨i1, i2⟩ := atTo_invs h1 h2 k fun j hj => h j (by omega)
    have := invs_swap2 (l := atTo m xs k) (k := ((it xs k).at_ - 1).toNat) (by rw [atTo_len]; omega) (atTo_perm h1 h2 k fun j hj => h j (by omega))
    rw [atTo]
    omega

/-- Where the light of guide g is behind k items. -/
def pos (xs : List It) (g : Int) : Nat → Int
  | 0 => g
  | k + 1 => if pos xs g k = (it xs k).at_ then (it xs k).at_ + 1 else if pos xs g k = (it xs k).at_ + 1 then (it xs k).at_ else pos xs g k
def outTo (xs : List It) : Nat → List Int
  | 0 => []
  | k + 1 => outTo xs k ++ [pos xs (k + 1) xs.length - 1]
theorem outTo_len (xs : List It) : ∀ k, (outTo xs k).length = k
  | 0 => rfl
  | k + 1 => by simp [outTo, outTo_len xs k]
theorem outTo_at (xs : List It) : ∀ k j, j < k → ix (outTo xs k) j = pos xs (j + 1) xs.length - 1
  | 0, j, hj => by omega
  | k + 1, j, hj => by
    simp only [outTo]
    rw [ix_app, outTo_len]
    by_cases e : j = k
    · rw [if_pos e, e]
    · rw [if_neg e, outTo_at xs k j (by omega)]
theorem pos_range {m : Nat} {xs : List It} {g : Int} (hg : 1 ≤ g ∧ g ≤ m) : ∀ k, (∀ j, j < k → Crs m (it xs j)) → 1 ≤ pos xs g k ∧ pos xs g k ≤ m
  | 0, _ => hg
  | k + 1, h => by
    have hc := h k (by omega)
    unfold Crs at hc
    have := pos_range hg k fun j hj => h j (by omega)
    simp only [pos]
    split
    · omega
    · split <;> omega
theorem pos_at {m : Nat} {xs : List It} {g : Int} (hg : 1 ≤ g ∧ g ≤ m) : ∀ k, (∀ j, j < k → Crs m (it xs j)) → ix (atTo m xs k) (pos xs g k - 1).toNat = g - 1
  | 0, _ => by
    simp only [atTo, pos]
    rw [idTo_at m m (Nat.le_refl _) _ (by omega)]
    omega
  | k + 1, h => by
    have hc := h k (by omega)
    unfold Crs at hc
    have hr := pos_range (m := m) (xs := xs) hg k fun j hj => h j (by omega)
    have ih := pos_at (m := m) (xs := xs) hg k fun j hj => h j (by omega)
    have hq : pos xs g (k + 1) = if pos xs g k = (it xs k).at_ then (it xs k).at_ + 1 else if pos xs g k = (it xs k).at_ + 1 then (it xs k).at_ else pos xs g k := rfl
    rw [atTo, swapAt_ix (by rw [atTo_len]; omega)]
    by_cases e1 : pos xs g k = (it xs k).at_
    · rw [if_pos e1] at hq
      rw [if_neg (by omega), if_pos (by omega), ← ih, e1]
    · rw [if_neg e1] at hq
      by_cases e2 : pos xs g k = (it xs k).at_ + 1
      · rw [if_pos e2] at hq
        rw [if_pos (by omega), ← ih, e2]
        congr 1; omega
      · rw [if_neg e2] at hq
        rw [if_neg (by omega), if_neg (by omega), hq, ih]
theorem out_inv {m : Nat} (h1 : 1 ≤ m) (h2 : m ≤ 64) {xs : List It} (h : ∀ j, j < xs.length → Crs m (it xs j)) : outTo xs m = invL (atTo m xs xs.length) := by
  have hp := atTo_perm h1 h2 xs.length h
  apply ext_ix (by rw [outTo_len, invL_len, atTo_len])
  intro j hj
  rw [outTo_len] at hj
  rw [outTo_at _ _ _ hj]
  have hr := pos_range (m := m) (xs := xs) (g := (j : Int) + 1) ⟨by omega, by omega⟩ xs.length h
  have hat := pos_at (m := m) (xs := xs) (g := (j : Int) + 1) ⟨by omega, by omega⟩ xs.length h
  have hpf : pf (atTo m xs xs.length) (pos xs (j + 1) xs.length - 1).toNat = j := by unfold pf; omega
  have := invL_at hp (j := (pos xs (j + 1) xs.length - 1).toNat) (by rw [atTo_len]; omega)
  rw [hpf] at this
  omega
end Go.Proofs.Ytccbinnlnkpplaa
namespace Go.Proofs.Ytccbinnlnkpplaa
set_option linter.all false
open Go.RowKit

def crossB (xs : List It) : Bool := xs.all fun i => decide (i.kind = 3)
def isP (n : Int) (xs : List It) : Bool := validI n xs && crossB xs
def permZ (n : Int) (xs : List It) : List Int := if isP n xs = true then invL (atTo n.toNat xs xs.length) else []
theorem itemE_valid {n : Int} {xs : List It} (h : itemE n xs = 0) : validI n xs = true := by
  unfold itemE at h
  split at h
  · split at h
    · assumption
    · cases h
  · cases h
theorem itemE_bad {n : Int} {xs : List It} (h : ¬ itemE n xs = 0) : isP n xs = false := by
  unfold isP
  cases hv : validI n xs
  · rfl
  · refine absurd ?_ h
    obtain ⟨h1, h2, _⟩ := validB_all hv
    unfold itemE
    rw [if_pos ⟨h1, h2⟩, if_pos hv]
theorem permZ_bad {n : Int} {xs : List It} (h : isP n xs = false) : permZ n xs = [] := by unfold permZ; rw [h]; rfl
theorem isP_no {n : Int} {xs : List It} {k : Nat} (hk : k < xs.length) (h : (it xs k).kind ≠ 3) : isP n xs = false := by
  unfold isP crossB; rw [not_all_it hk (decide_eq_false h)]; exact Bool.and_false _
theorem isP_ok {n : Int} {xs : List It} (hv : validI n xs = true) (h : ∀ j, j < xs.length → (it xs j).kind = 3) : isP n xs = true := by
  unfold isP crossB; rw [hv, all_it (fun j hj => decide_eq_true (h j hj))]; rfl
theorem permZ_ok {n : Int} {m : Nat} {xs : List It} (hn : n = m) (h : isP n xs = true) : permZ n xs = invL (atTo m xs xs.length) := by
  unfold permZ; rw [if_pos h]; subst hn; rfl
theorem as_row {w : World} {g e : Nat} {zs : List Int} {rest : List Value} (h : Hd w g e (ints zs ++ rest).toArray) : AS w (some ⟨g, 0, none⟩) (ints zs) := fun _ => ⟨g, 0, rfl, h.lt, fun j hj => by
  rw [Nat.zero_add, h.cell, List.getElem?_toArray, List.getElem?_append_left hj]⟩
theorem row_nil (zs : List Int) : (ints zs).toArray = (ints zs ++ []).toArray := by rw [List.append_nil]

set_option maxRecDepth 100000 in
set_option maxHeartbeats 2000000 in
theorem permOfS (xs : List It) (a : Option Addr) (c : Nat) (n : Int) (w : World) (hA : AS w a (its xs)) : Calls Try.prog 21 #[.int .i64 n, slV a xs.length c] w fun e w' => RetI w (fun v => .tuple #[v, .bool (isP n xs), .int .i64 (itemE n xs)]) (fun zs => zs = permZ n xs) e w' := by
  go_enter Try.func21, Try.ntmps21
  refine wk_start ?_
  refine wk_seq ?_
  refine wk_region [0, 0, 0] rfl (by kernel_rfl) ?_
  simp only [List.zip_cons_cons, List.zip_nil_right]
  refine rg_assign ?_
  simp only [Act.put, Act.eval, qs]
  refine rg_assign ?_
  simp only [Act.put, Act.eval, qs]
  refine rg_assign ?_
  simp only [Act.put, Act.eval, qs]
  refine rg_nil ?_
  refine ek_next ?_
  refine wk_seq ?_
  refine wk_seq ?_
  refine wk_region [0, 0, 1, 0] rfl (by kernel_rfl) ?_
  simp only [List.zip_cons_cons, List.zip_nil_right]
  refine rg_move ?_
  simp only [Act.put, Act.eval, qs]
  refine rg_move ?_
  simp only [Act.put, Act.eval, qs]
  apply rg_pure (by rfl) (by kernel_rfl)
  case hargs => (simp only [qm, qs, Act.eval]; exact rfl)
  case h => exact fun w hw => check_any xs a c n w (hA.kn0 hw)
  case hz => exact (fun _ h => by cases h)
  simp only [Act.put, Act.eval, qs]
  refine rg_assign ?_
  simp only [Act.put, Act.eval, qs]
  refine rg_nil ?_
  refine ek_next ?_
  refine wk_seq ?_
  refine wk_region [0, 0] rfl (by kernel_rfl) ?_
  simp only [List.zip_cons_cons, List.zip_nil_right]
  refine rg_move ?_
  simp only [Act.put, Act.eval, qs]
  apply rg_softb
  case hy => (intro w hw; go_simp; (try go_bits); exact Yld.mk _ _)
  intro x h1
  cases x
  · (try simp only [decide_eq_true_eq, decide_eq_false_iff_not, Int.not_lt, Int.not_le, beq_iff_eq, beq_eq_false_iff_ne, bne_iff_ne, bne_eq_false_iff_eq, ne_eq, Bool.not_eq_true', Bool.not_eq_false'] at h1)
    simp only [Act.put, Act.eval, qs]
    have hv := Lib.hid (itemE_valid h1)
    have hE := Lib.hid h1
    clear h1
    obtain ⟨hn1, hn2, hlen5, hfit⟩ := validB_all hv.out
    obtain ⟨m, rfl⟩ : ∃ m : Nat, n = m := ⟨n.toNat, by omega⟩
    refine rg_nil ?_
    refine ek_next ?_
    refine wk_cond_f rfl ?_
    refine wk_skip ?_
    refine ek_next ?_
    refine wk_seq ?_
    refine wk_region [0, 1, 0] rfl (by kernel_rfl) ?_
    simp only [List.zip_cons_cons, List.zip_nil_right]
    refine rg_move ?_
    simp only [Act.put, Act.eval, qs]
    refine rg_makeI (n := m) (by rfl) rfl rfl (by omega) (fun _ h => by cases h) (fun g1 => ?_)
    simp only [Act.put, Act.eval, qs]
    refine rg_assign ?_
    simp only [Act.put, Act.eval, qs]
    refine rg_nil ?_
    refine ek_next ?_
    refine wk_seq ?_
    refine wk_seq ?_
    refine wk_region [0, 0, 0] rfl (by kernel_rfl) ?_
    simp only [List.zip_cons_cons, List.zip_nil_right]
    refine rg_move ?_
    simp only [Act.put, Act.eval, qs]
    apply rg_soft
    case hy => (intro w hw; go_simp; (try go_bits); exact Yld.mk _ _)
    simp only [Act.put, Act.eval, qs]
    refine rg_move ?_
    simp only [Act.put, Act.eval, qs]
    refine rg_nil ?_
    refine ek_next ?_
    refine wk_block ?_
    refine wk_loopS [9, 22, 23, 24, 25, 26, 27, 28, 29] (fun mz vs s => ∃ (k : Nat) (j9 j23 j24 j25 j26 j27 j28 j29 : Value), vs = [j9, .int .i64 k, j23, j24, j25, j26, j27, j28, j29] ∧ s = ((g1, .cells (ints (idTo m k)).toArray 3) :: []) ∧ mz = m - k ∧ k ≤ m) ((fun (k : Nat) => m - k) (0)) ?_ (by kernel_rfl) ?_
    · dsimp only [Act.vals, List.map, Array.getD, List.size_toArray, List.length_cons, List.length_nil, Nat.reduceAdd, Nat.reduceLT, ↓reduceDIte, Array.getInternal, List.getElem_toArray, List.getElem_cons_zero, List.getElem_cons_succ]
      exact ⟨0, _, _, _, _, _, _, _, _, rfl, rfl, rfl, by omega⟩
    rintro mz vs s ⟨k, j9, j23, j24, j25, j26, j27, j28, j29, rfl, rfl, hn, hb1⟩
    simp only [Act.puts, Act.vals, List.zip_cons_cons, List.zip_nil_right, List.foldl_cons, List.foldl_nil, List.map_cons, List.map_nil, Act.put, Act.eval, List.setIfInBounds_toArray, List.set_cons_zero, List.set_cons_succ, Array.getD_eq_getD_getElem?, List.getElem?_toArray, List.getElem?_cons_zero, List.getElem?_cons_succ, Option.getD_some]
    refine wk_seq ?_
    refine wk_region [0] rfl (by kernel_rfl) ?_
    simp only [List.zip_cons_cons, List.zip_nil_right]
    apply rg_softb
    case hy => (intro w hw; go_simp; (try go_bits); exact Yld.mk _ _)
    intro x h2
    cases x
    · (try simp only [decide_eq_true_eq, decide_eq_false_iff_not, Int.not_lt, Int.not_le, beq_iff_eq, beq_eq_false_iff_ne, bne_iff_ne, bne_eq_false_iff_eq, ne_eq, Bool.not_eq_true', Bool.not_eq_false'] at h2)
      simp only [Act.put, Act.eval, qs]
      obtain rfl : m = k := by omega
      rw [row_nil]
      refine rg_nil ?_
      refine ek_next ?_
      refine wk_seq ?_
      refine wk_cond_f rfl ?_
      refine wk_exit ?_
      refine ek_then_exit ?_
      refine ek_then_exit ?_
      refine ek_block_exit ?_
      refine ek_next ?_
      refine wk_seq ?_
      refine wk_seq ?_
      refine wk_region [0, 0, 0] rfl (by kernel_rfl) ?_
      simp only [List.zip_cons_cons, List.zip_nil_right]
      refine rg_move ?_
      simp only [Act.put, Act.eval, qs]
      apply rg_soft
      case hy => (intro w hw; go_simp; (try go_bits); exact Yld.mk _ _)
      simp only [Act.put, Act.eval, qs]
      refine rg_move ?_
      simp only [Act.put, Act.eval, qs]
      refine rg_nil ?_
      refine ek_next ?_
      refine wk_block ?_
      refine wk_loopS [4, 5, 6, 11, 32, 33, 34, 35, 36, 37, 38, 39, 40, 41, 42, 43, 44, 45, 46, 47, 48, 49, 50, 51, 52, 53, 54, 55, 56, 57, 58, 59] (fun mz vs s => ∃ (k : Nat) (j4 j5 j6 j11 j33 j34 j35 j36 j37 j38 j39 j40 j41 j42 j43 j44 j45 j46 j47 j48 j49 j50 j51 j52 j53 j54 j55 j56 j57 j58 j59 : Value), vs = [j4, j5, j6, j11, .int .i64 k, j33, j34, j35, j36, j37, j38, j39, j40, j41, j42, j43, j44, j45, j46, j47, j48, j49, j50, j51, j52, j53, j54, j55, j56, j57, j58, j59] ∧ s = ((g1, .cells (ints (atTo m xs k) ++ []).toArray 3) :: []) ∧ mz = xs.length - k ∧ k ≤ xs.length ∧ ∀ j, j < k → (it xs j).kind = 3) ((fun (k : Nat) => xs.length - k) (0)) ?_ (by kernel_rfl) ?_
      · dsimp only [Act.vals, List.map, Array.getD, List.size_toArray, List.length_cons, List.length_nil, Nat.reduceAdd, Nat.reduceLT, ↓reduceDIte, Array.getInternal, List.getElem_toArray, List.getElem_cons_zero, List.getElem_cons_succ]
        exact ⟨0, _, _, _, _, _, _, _, _, _, _, _, _, _, _, _, _, _, _, _, _, _, _, _, _, _, _, _, _, _, _, _, rfl, rfl, rfl, by omega, fun i hi => by omega⟩
      rintro mz vs s ⟨k, j4, j5, j6, j11, j33, j34, j35, j36, j37, j38, j39, j40, j41, j42, j43, j44, j45, j46, j47, j48, j49, j50, j51, j52, j53, j54, j55, j56, j57, j58, j59, rfl, rfl, hn, hc1, hc2⟩
      simp only [Act.puts, Act.vals, List.zip_cons_cons, List.zip_nil_right, List.foldl_cons, List.foldl_nil, List.map_cons, List.map_nil, Act.put, Act.eval, List.setIfInBounds_toArray, List.set_cons_zero, List.set_cons_succ, Array.getD_eq_getD_getElem?, List.getElem?_toArray, List.getElem?_cons_zero, List.getElem?_cons_succ, Option.getD_some]
      refine wk_seq ?_
      refine wk_region [0] rfl (by kernel_rfl) ?_
      simp only [List.zip_cons_cons, List.zip_nil_right]
      apply rg_softb
      case hy => (intro w hw; go_simp; (try go_bits); exact Yld.mk _ _)
      intro x h3
      cases x
      · (try simp only [decide_eq_true_eq, decide_eq_false_iff_not, Int.not_lt, Int.not_le, beq_iff_eq, beq_eq_false_iff_ne, bne_iff_ne, bne_eq_false_iff_eq, ne_eq, Bool.not_eq_true', Bool.not_eq_false'] at h3)
        simp only [Act.put, Act.eval, qs]
        have hkl : k = xs.length := by omega
        refine rg_nil ?_
        refine ek_next ?_
        refine wk_seq ?_
        refine wk_cond_f rfl ?_
        refine wk_exit ?_
        refine ek_then_exit ?_
        refine ek_then_exit ?_
        refine ek_block_exit ?_
        refine ek_next ?_
        refine wk_seq ?_
        refine wk_region [0, 1, 0, 0, 0] rfl (by kernel_rfl) ?_
        simp only [List.zip_cons_cons, List.zip_nil_right]
        refine rg_move ?_
        simp only [Act.put, Act.eval, qs]
        apply rg_retI (by rfl) (by kernel_rfl)
        case hargs => (simp only [qm, qs, Act.eval]; exact rfl)
        case h => exact fun w hw => (by have h := invert_any (atTo m xs k) (some ⟨g1, 0, none⟩) m (by rw [atTo_len]; omega) (by subst hkl; exact atTo_perm (by omega) (by omega) _ (fun j hj => crs_of (hfit j hj) (hc2 j hj))) w (as_row (Kn.hd0 hw)); rw [atTo_len] at h; exact h)
        case hz => exact (fun _ h => by cases h)
        intro v2 u2 z2 hO2 hT2
        simp only [Act.put, Act.eval, qs]
        refine rg_assign ?_
        simp only [Act.put, Act.eval, qs]
        refine rg_assign ?_
        simp only [Act.put, Act.eval, qs]
        refine rg_assign ?_
        simp only [Act.put, Act.eval, qs]
        refine rg_nil ?_
        refine ek_next ?_
        refine wk_ret ?_
        refine ek_ret (fun w hw => ⟨rfl, _, res_ttt _ _ _ rfl, ?_⟩)
        (try simp only [Act.put, Act.eval, qs])
        exact ⟨v2, u2, _, (by simp only [isP_ok hv.out (fun j hj => hc2 j (by omega)), hE.out]), hO2, (by rw [hT2, permZ_ok rfl (isP_ok hv.out (fun j hj => hc2 j (by omega))), hkl]), hw.made (by simp)⟩
      · (try simp only [decide_eq_true_eq, decide_eq_false_iff_not, Int.not_lt, Int.not_le, beq_iff_eq, beq_eq_false_iff_ne, bne_iff_ne, bne_eq_false_iff_eq, ne_eq, Bool.not_eq_true', Bool.not_eq_false'] at h3)
        simp only [Act.put, Act.eval, qs]
        obtain ⟨b, off, rfl, hlt, hcell⟩ := AS.openT hA (by omega)
        have hck := hcell k (by omega)
        refine rg_nil ?_
        refine ek_next ?_
        refine wk_seq ?_
        refine wk_cond_t rfl ?_
        refine wk_skip ?_
        refine ek_next ?_
        refine wk_seq ?_
        refine wk_block ?_
        refine wk_seq ?_
        refine wk_region [0, 0, 1, 1] rfl (by kernel_rfl) ?_
        simp only [List.zip_cons_cons, List.zip_nil_right]
        apply rg_soft
        case hy => (intro w hw; go_simp; (try go_bits); exact Yld.mk _ _)
        simp only [Act.put, Act.eval, qs]
        apply rg_soft
        case hy => (intro w hw; obtain ⟨hi0, hi1, hi2, hi3⟩ := hck.kn hw hlt (by simp); go_simp; (try go_bits); exact Yld.mk _ _)
        simp only [Act.put, Act.eval, qs]
        refine rg_new (cs := ?_) (ty := ?_) (by rfl) (fun w => ?_) (fun _ h => by cases h) (fun g3 => ?_); rotate_left 2
        focus (go_simp; rfl)
        simp only [Act.put, Act.eval, qs]
        apply rg_store
        case hr => (intro w hw; obtain ⟨hcg3, hfg3⟩ := (Kn.hd0 hw).facts; refine ⟨_, by (go_simp; (try go_bits); exact Dne.mk _), ?_⟩; repeat (first | with_reducible exact hw | with_reducible apply Kn.put (Upd.here _ _ _)))
        case hz => (intro z hz; cases hz)
        simp only [Act.put, Act.eval, qs]
        refine rg_nil ?_
        refine ek_next ?_
        refine wk_seq ?_
        refine wk_seq ?_
        refine wk_region [0, 0, 0] rfl (by kernel_rfl) ?_
        simp only [List.zip_cons_cons, List.zip_nil_right]
        apply rg_soft
        case hy => (intro w hw; go_simp; (try go_bits); exact Yld.mk _ _)
        simp only [Act.put, Act.eval, qs]
        apply rg_soft
        case hy => (intro w hw; obtain ⟨hcg3, hfg3⟩ := (Kn.hd0 hw).facts; go_simp; (try go_bits); exact Yld.mk _ _)
        simp only [Act.put, Act.eval, qs]
        apply rg_softb
        case hy => (intro w hw; go_simp; (try go_bits); exact Yld.mk _ _)
        intro x h4
        cases x
        · (try simp only [decide_eq_true_eq, decide_eq_false_iff_not, Int.not_lt, Int.not_le, beq_iff_eq, beq_eq_false_iff_ne, bne_iff_ne, bne_eq_false_iff_eq, ne_eq, Bool.not_eq_true', Bool.not_eq_false'] at h4)
          simp only [Act.put, Act.eval, qs]
          have hk3 := Lib.hid (show (it xs k).kind = 3 by omega)
          have hcr := crs_of (hfit k (by omega)) hk3.out
          unfold Crs at hcr
          clear h4
          obtain ⟨q, hq⟩ : ∃ q : Nat, (it xs k).at_ = (q : Int) + 1 := ⟨((it xs k).at_ - 1).toNat, by omega⟩
          simp only [hq]
          replace hq := Lib.hid hq
          have hcr1 : q + 1 < m := by (have := hq.out; omega)
          have hcr0 : q < m := by omega
          have hcr2 : (0 : Int) ≤ (q : Int) + 1 ∧ (q : Int) + 1 < (m : Int) := by omega
          clear hcr hck
          have hk1 : q + 1 < (atTo m xs k).length := by (rw [atTo_len]; omega)
          refine rg_nil ?_
          refine ek_next ?_
          refine wk_cond_f rfl ?_
          refine wk_skip ?_
          refine ek_next ?_
          refine wk_draws_m (hz1 := (List.Sublist.cons₂ _ (List.Sublist.cons _ List.Sublist.slnil))) [(0, 0), (1, 0), (2, 0), (3, 0), (4, 3), (5, 3), (6, 3), (7, 0), (8, 0), (9, 0), (10, 0), (11, 0), (12, 3), (13, 3), (14, 3), (15, 3), (16, 3), (17, 0), (18, 0), (19, 2), (20, 0), (21, 1)] 19 (by kernel_rfl) (by kernel_rfl) (fun c d v a w h => by cases d <;> exact h) ?_
          simp only [List.map_cons, List.map_nil, List.getD_cons_zero, List.getD_cons_succ]
          refine rg_move ?_
          simp only [Act.put, Act.eval, qs]
          apply rg_soft
          case hy => (intro w hw; go_simp; (try go_bits); exact Yld.mk _ _)
          simp only [Act.put, Act.eval, qs]
          apply rg_soft
          case hy => (intro w hw; obtain ⟨hcg3, hfg3⟩ := (Kn.hd0 hw).facts; go_simp; (try go_bits); exact Yld.mk _ _)
          simp only [Act.put, Act.eval, qs]
          apply rg_soft
          case hy => (intro w hw; go_simp; (try go_bits); exact Yld.mk _ _)
          simp only [Act.put, Act.eval, qs]
          refine rg_moveP ?_
          simp only [Act.put, Act.eval, qs]
          apply rg_softP
          case hy => (intro w hw; go_simp; (try go_bits); exact Yld.mk _ _)
          simp only [Act.put, Act.eval, qs]
          apply rg_softP
          case hy => (intro w hw; obtain ⟨hcg3, hfg3⟩ := (Kn.hd0 hw).facts; go_simp; (try go_bits); exact Yld.mk _ _)
          simp only [Act.put, Act.eval, qs]
          refine rg_move ?_
          simp only [Act.put, Act.eval, qs]
          apply rg_soft
          case hy => (intro w hw; go_simp; (try go_bits); exact Yld.mk _ _)
          simp only [Act.put, Act.eval, qs]
          apply rg_soft
          case hy => (intro w hw; obtain ⟨hcg3, hfg3⟩ := (Kn.hd0 hw).facts; go_simp; (try go_bits); exact Yld.mk _ _)
          simp only [Act.put, Act.eval, qs]
          apply rg_soft
          case hy => (intro w hw; go_simp; (try go_bits); exact Yld.mk _ _)
          simp only [Act.put, Act.eval, qs]
          apply rg_soft
          case hy => (intro w hw; (first | have hcg := fun i (hi : i < (atTo m xs k).length) => row_cell (Kn.hd0 (Kn.tl hw)) hi | have hcg := fun i (hi : i < (atTo m xs k).length) => row_cell2 (Kn.hd0 (Kn.tl hw)) hi); have hfg := (Kn.hd0 (Kn.tl hw)).free; (try have hcg0 := hcg q (by omega)); (try have hcg1 := hcg (q + 1) (by omega)); clear hcg; go_simp; (try go_bits); exact Yld.mk _ _)
          simp only [Act.put, Act.eval, qs]
          refine rg_moveP ?_
          simp only [Act.put, Act.eval, qs]
          apply rg_softP
          case hy => (intro w hw; go_simp; (try go_bits); exact Yld.mk _ _)
          simp only [Act.put, Act.eval, qs]
          apply rg_softP
          case hy => (intro w hw; obtain ⟨hcg3, hfg3⟩ := (Kn.hd0 hw).facts; go_simp; (try go_bits); exact Yld.mk _ _)
          simp only [Act.put, Act.eval, qs]
          apply rg_softP
          case hy => (intro w hw; go_simp; (try go_bits); exact Yld.mk _ _)
          simp only [Act.put, Act.eval, qs]
          apply rg_softP
          case hy => (intro w hw; go_simp; (try go_bits); exact Yld.mk _ _)
          simp only [Act.put, Act.eval, qs]
          apply rg_soft
          case hy => (intro w hw; (first | have hcg := fun i (hi : i < (atTo m xs k).length) => row_cell (Kn.hd0 (Kn.tl hw)) hi | have hcg := fun i (hi : i < (atTo m xs k).length) => row_cell2 (Kn.hd0 (Kn.tl hw)) hi); have hfg := (Kn.hd0 (Kn.tl hw)).free; (try have hcg0 := hcg q (by omega)); (try have hcg1 := hcg (q + 1) (by omega)); clear hcg; go_simp; (try go_bits); exact Yld.mk _ _)
          simp only [Act.put, Act.eval, qs]
          apply rg_soft
          case hy => (intro w hw; go_simp; (try go_bits); exact Yld.mk _ _)
          simp only [Act.put, Act.eval, qs]
          apply rg_storeM
          case hr => (intro w hw; (first | have hcg := fun i (hi : i < (atTo m xs k).length) => row_cell (Kn.hd0 (Kn.tl hw)) hi | have hcg := fun i (hi : i < (atTo m xs k).length) => row_cell2 (Kn.hd0 (Kn.tl hw)) hi); have hfg := (Kn.hd0 (Kn.tl hw)).free; (try have hcg0 := hcg q (by omega)); (try have hcg1 := hcg (q + 1) (by omega)); clear hcg; refine ⟨_, by (go_simp; (try go_bits); exact Dne.mk _), ?_⟩; repeat (first | with_reducible exact hw | with_reducible apply Kn.put (Upd.there _ (Upd.here _ _ _))))
          case hz => exact (List.Sublist.cons₂ _ (List.Sublist.cons _ List.Sublist.slnil))
          simp only [Act.put, Act.eval, qs]
          apply rg_soft
          case hy => (intro w hw; go_simp; (try go_bits); exact Yld.mk _ _)
          simp only [Act.put, Act.eval, qs]
          apply rg_store
          case hr => (intro w hw; (first | have hcg := fun i (hi : i < (atTo m xs k).length) => row_cell (Kn.hd0 (Kn.tl hw)) hi | have hcg := fun i (hi : i < (atTo m xs k).length) => row_cell2 (Kn.hd0 (Kn.tl hw)) hi); have hfg := (Kn.hd0 (Kn.tl hw)).free; (try have hcg0 := hcg q (by omega)); (try have hcg1 := hcg (q + 1) (by omega)); clear hcg; refine ⟨_, by (go_simp; (try go_bits); exact Dne.mk _), ?_⟩; repeat (first | with_reducible exact hw | with_reducible apply Kn.put (Upd.there _ (Upd.here _ _ _))))
          case hz => (intro z hz; cases hz; exact (List.Sublist.cons₂ _ (List.Sublist.cons _ List.Sublist.slnil)))
          simp only [Act.put, Act.eval, qs]
          refine rg_nil ?_
          refine ek_block ?_
          refine ek_next ?_
          refine wk_region [0, 0] rfl (by kernel_rfl) ?_
          simp only [List.zip_cons_cons, List.zip_nil_right]
          apply rg_soft
          case hy => (intro w hw; go_simp; (try go_bits); exact Yld.mk _ _)
          simp only [Act.put, Act.eval, qs]
          refine rg_move ?_
          simp only [Act.put, Act.eval, qs]
          refine rg_nil ?_
          refine ek_sub (List.Sublist.cons _ (List.Sublist.cons₂ _ List.Sublist.slnil)) ?_
          refine ek_roundS (xs.length - (k + 1)) (by omega) (by kernel_rfl) ?_
          dsimp only [Act.vals, List.map, Array.getD, List.size_toArray, List.length_cons, List.length_nil, Nat.reduceAdd, Nat.reduceLT, ↓reduceDIte, Array.getInternal, List.getElem_toArray, List.getElem_cons_zero, List.getElem_cons_succ]
          exact ⟨k + 1, _, _, _, _, _, _, _, _, _, _, _, _, _, _, _, _, _, _, _, _, _, _, _, _, _, _, _, _, _, _, _, by rfl, by (rw [atTo, show ((it xs k).at_ - 1).toNat = q from (by have := hq.out; omega), ← swapAt_set _ q hk1, row_set _ _ (by omega), row_set _ _ (by simp; omega)]), by rfl, by omega, fun j hj => if e : j = k then e ▸ hk3.out else hc2 j (by omega)⟩
        · (try simp only [decide_eq_true_eq, decide_eq_false_iff_not, Int.not_lt, Int.not_le, beq_iff_eq, beq_eq_false_iff_ne, bne_iff_ne, bne_eq_false_iff_eq, ne_eq, Bool.not_eq_true', Bool.not_eq_false'] at h4)
          simp only [Act.put, Act.eval, qs]
          refine rg_nil ?_
          refine ek_next ?_
          refine wk_cond_t rfl ?_
          refine wk_seq ?_
          refine wk_region [0, 0, 0] rfl (by kernel_rfl) ?_
          simp only [List.zip_cons_cons, List.zip_nil_right]
          refine rg_assign ?_
          simp only [Act.put, Act.eval, qs]
          refine rg_assign ?_
          simp only [Act.put, Act.eval, qs]
          refine rg_assign ?_
          simp only [Act.put, Act.eval, qs]
          refine rg_nil ?_
          refine ek_next ?_
          refine wk_ret ?_
          refine ek_then_ret ?_
          refine ek_block_ret ?_
          refine ek_then_ret ?_
          refine ek_then_ret ?_
          refine ek_block_ret ?_
          refine ek_then_ret ?_
          refine ek_ret (fun w hw => ⟨rfl, _, res_ttt _ _ _ rfl, ?_⟩)
          (try simp only [Act.put, Act.eval, qs])
          exact ⟨.slice none 0 0, [], [], (by simp only [isP_no (by omega : k < xs.length) h4, hE.out]), .nil, (by rw [permZ_bad (isP_no (by omega : k < xs.length) h4)]), hw.made (by simp)⟩
    · (try simp only [decide_eq_true_eq, decide_eq_false_iff_not, Int.not_lt, Int.not_le, beq_iff_eq, beq_eq_false_iff_ne, bne_iff_ne, bne_eq_false_iff_eq, ne_eq, Bool.not_eq_true', Bool.not_eq_false'] at h2)
      simp only [Act.put, Act.eval, qs]
      have hpl : k < (idTo m k).length := by (rw [idTo_len]; omega)
      refine rg_nil ?_
      refine ek_next ?_
      refine wk_seq ?_
      refine wk_cond_t rfl ?_
      refine wk_skip ?_
      refine ek_next ?_
      refine wk_seq ?_
      refine wk_block ?_
      refine wk_seq ?_
      refine wk_region [0, 0] rfl (by kernel_rfl) ?_
      simp only [List.zip_cons_cons, List.zip_nil_right]
      refine rg_move ?_
      simp only [Act.put, Act.eval, qs]
      refine rg_assign ?_
      simp only [Act.put, Act.eval, qs]
      refine rg_nil ?_
      refine ek_next ?_
      refine wk_region [0, 0, 0, 0, 1] rfl (by kernel_rfl) ?_
      simp only [List.zip_cons_cons, List.zip_nil_right]
      refine rg_move ?_
      simp only [Act.put, Act.eval, qs]
      refine rg_move ?_
      simp only [Act.put, Act.eval, qs]
      refine rg_move ?_
      simp only [Act.put, Act.eval, qs]
      apply rg_soft
      case hy => (intro w hw; go_simp; (try go_bits); exact Yld.mk _ _)
      simp only [Act.put, Act.eval, qs]
      apply rg_store
      case hr => (intro w hw; have hcg1 := ints_cell (Kn.hd0 hw) hpl; have hfg1 := (Kn.hd0 hw).free; refine ⟨_, by (go_simp; (try go_bits); exact Dne.mk _), ?_⟩; repeat (first | with_reducible exact hw | with_reducible apply Kn.put (Upd.here _ _ _)))
      case hz => (intro z hz; cases hz)
      simp only [Act.put, Act.eval, qs]
      refine rg_nil ?_
      refine ek_block ?_
      refine ek_next ?_
      refine wk_region [0, 0] rfl (by kernel_rfl) ?_
      simp only [List.zip_cons_cons, List.zip_nil_right]
      apply rg_soft
      case hy => (intro w hw; go_simp; (try go_bits); exact Yld.mk _ _)
      simp only [Act.put, Act.eval, qs]
      refine rg_move ?_
      simp only [Act.put, Act.eval, qs]
      refine rg_nil ?_
      refine ek_roundS (m - (k + 1)) (by omega) (by kernel_rfl) ?_
      dsimp only [Act.vals, List.map, Array.getD, List.size_toArray, List.length_cons, List.length_nil, Nat.reduceAdd, Nat.reduceLT, ↓reduceDIte, Array.getInternal, List.getElem_toArray, List.getElem_cons_zero, List.getElem_cons_succ]
      exact ⟨k + 1, _, _, _, _, _, _, _, _, by rfl, by (simp only [ints, idTo, List.map_set]), by rfl, by omega⟩
  · (try simp only [decide_eq_true_eq, decide_eq_false_iff_not, Int.not_lt, Int.not_le, beq_iff_eq, beq_eq_false_iff_ne, bne_iff_ne, bne_eq_false_iff_eq, ne_eq, Bool.not_eq_true', Bool.not_eq_false'] at h1)
    simp only [Act.put, Act.eval, qs]
    refine rg_nil ?_
    refine ek_next ?_
    refine wk_cond_t rfl ?_
    refine wk_seq ?_
    refine wk_region [0, 0, 0, 0] rfl (by kernel_rfl) ?_
    simp only [List.zip_cons_cons, List.zip_nil_right]
    refine rg_move ?_
    simp only [Act.put, Act.eval, qs]
    refine rg_assign ?_
    simp only [Act.put, Act.eval, qs]
    refine rg_assign ?_
    simp only [Act.put, Act.eval, qs]
    refine rg_assign ?_
    simp only [Act.put, Act.eval, qs]
    refine rg_nil ?_
    refine ek_next ?_
    refine wk_ret ?_
    refine ek_then_ret ?_
    refine ek_ret (fun w hw => ⟨rfl, _, res_ttt _ _ _ rfl, ?_⟩)
    (try simp only [Act.put, Act.eval, qs])
    exact ⟨.slice none 0 0, [], [], (by simp only [itemE_bad h1]), .nil, (by rw [permZ_bad (itemE_bad h1)]), hw.made (by simp)⟩

end Go.Proofs.Ytccbinnlnkpplaa
