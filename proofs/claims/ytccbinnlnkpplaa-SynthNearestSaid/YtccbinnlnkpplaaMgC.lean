/- Several texts in one. -/
import Derived.Test.YtccbinnlnkpplaaMt3
import Derived.Test.YtccbinnlnkpplaaMt1
import Derived.Test.YtccbinnlnkpplaaMgB
import Derived.Test.YtccbinnlnkpplaaAmTn
import Derived.Test.YtccbinnlnkpplaaSq
import Derived.Test.YtccbinnlnkpplaaMg
import Derived.Test.YtccbinnlnkpplaaAm6
import Derived.Test.YtccbinnlnkpplaaMt2a
import Derived.Test.YtccbinnlnkpplaaMgE
import Derived.Test.YtccbinnlnkpplaaBoP0
namespace Go.Proofs.Ytccbinnlnkpplaa
set_option linter.all false

/-- The matrix of an item on its own guides: rows, elements. -/
def ownN (x : It) : Nat := if x.kind = 1 then 1 else 2
def halfN : Nm := ⟨1, 0, 0, 0, 1⟩
def sideN : Nm := ⟨0, 0, 1, 0, 1⟩
def ownL (x : It) : List Nm := if x.kind = 1 then [Nm.turn (x.n % 8).toNat Nm.one] else if x.kind = 3 then [Nm.zero, Nm.one, Nm.one, Nm.zero] else [halfN, sideN, sideN, halfN]
/-- A matrix of m rows on the guides from p on, after t of its elements. -/
def plcS (N p m : Nat) (L l : List Nm) : Nat → List Nm
  | 0 => l
  | t + 1 => (plcS N p m L l t).set ((p + t / m) * N + p + t % m) (nm L t)
def idM (N : Nat) : List Nm := rL (identR N)
def plcL (N p m : Nat) (L : List Nm) : List Nm := plcS N p m L (idM N) (m * m)
def itL (N : Nat) (x : It) : List Nm := plcL N (x.at_ - 1).toNat (ownN x) (ownL x)
/-- What the first items make. -/
def matS (N : Nat) (xs : List It) : Nat → LR
  | 0 => .ok (idM N)
  | j + 1 => match matS N xs j with
    | .error c => .error c
    | .ok l => mulM N N (itL N (it xs j)) l
def matO (n : Int) (xs : List It) : LR := if itemE n xs = 0 then matS n.toNat xs xs.length else .error (itemE n xs)
theorem plcS_len (N p m : Nat) (L l : List Nm) : ∀ t, (plcS N p m L l t).length = l.length
  | 0 => rfl
  | t + 1 => by rw [plcS, List.length_set, plcS_len N p m L l t]
theorem idM_len {N : Nat} (h1 : 1 ≤ N) (h6 : N ≤ 6) : (idM N).length = N * N := by
  unfold idM identR
  rw [if_pos (by omega), Int.toNat_natCast]
  show (rL (gather _ _)).length = _
  have : ∃ l, gather (fun t => idR (t / N) (t % N)) (N * N) = .ok l := ⟨_, gather_pure (fun t => if t / N = t % N then Nm.one else Nm.zero) (N * N)⟩
  obtain ⟨l, hl⟩ := this
  rw [hl]
  exact gather_len hl
theorem matS_err {N : Nat} {xs : List It} {j : Nat} {c : Int} (h : matS N xs j = .error c) : ∀ m, j ≤ m → matS N xs m = .error c := by
  intro m hm
  induction m with
  | zero => obtain rfl : j = 0 := by omega
            exact h
  | succ m ih =>
    rcases (by omega : j = m + 1 ∨ j ≤ m) with rfl | hm
    · exact h
    · simp only [matS, ih hm]
end Go.Proofs.Ytccbinnlnkpplaa
namespace Go.Proofs.Ytccbinnlnkpplaa
set_option linter.all false
open Go.RowKit

theorem OwnN.openM {u : List Blk} {v : Value} {l : List Nm} (h : OwnN u v l) (hn : 0 < l.length) : ∃ g cap rest, u = [(g, .cells (NmE.flat l ++ rest).toArray 45)] ∧ v = .slice (some ⟨g, 0, none⟩) l.length cap ∧ l.length ≤ cap ∧ cap ≤ maxLen ∧ (NmE.flat l ++ rest).length = cap * 5 := by
  obtain ⟨hl, ⟨rfl, rfl, h0⟩ | ⟨g, cap, cur, rfl, rfl, hc, hm, hs, ht⟩⟩ := h
  · omega
  refine ⟨g, cap, cur.toList.drop (l.length * 5), ?_, rfl, hc, hm, ?_⟩
  · rw [← ht, List.take_append_drop]
  rw [← ht, List.take_append_drop]; simpa using hs
theorem OwnN.flM {g n cap : Nat} {l : List Nm} {rest : List Value} (h : l.length = n) (hc : n ≤ cap) (hm : cap ≤ maxLen) (hs : (NmE.flat l ++ rest).length = cap * 5) : OwnN [(g, .cells (NmE.flat l ++ rest).toArray 45)] (.slice (some ⟨g, 0, none⟩) n cap) l := by
  subst h
  have hfl := NmE.flat_len l
  exact ⟨hfl, .inr ⟨g, cap, _, rfl, rfl, hc, hm, by simpa using hs, by simp [← hfl]⟩⟩
theorem OwnN.wholeM {g : Nat} {l : List Nm} (h : l.length ≤ 1000000) : OwnN [(g, .cells (nms l).toArray 45)] (.slice (some ⟨g, 0, none⟩) l.length l.length) l :=
  Own.whole (cur := (nms l).toArray) (by simpa using NmE.flat_len l) (by simp only [maxLen]; omega)
theorem nm_flM (xs : List Nm) (k : Nat) (y : Nm) (rest : List Value) (hk : k < xs.length) : setMany (NmE.flat xs ++ rest).toArray (0 + k * 5) (nmC y) = (NmE.flat (xs.set k y) ++ rest).toArray := fl_set (E := NmE) (rest := rest) hk
theorem nm_szM (xs : List Nm) (k : Nat) (y : Nm) (rest : List Value) (hk : k < xs.length) : 0 + k * 5 + (nmC y).length ≤ (NmE.flat xs ++ rest).toArray.size := fl_size (E := NmE) (rest := rest) (y := y) hk
theorem OwnN.asM {u s : List Blk} {av : Option Addr} {m cv : Nat} {xs : List Nm} {B w : World} {F : List Nat} (h : OwnN u (.slice av m cv) xs) (K : Kn B F (u ++ s) w) : AS w av (nms xs) := by
  obtain ⟨a, cap, e, hA⟩ := h.as K
  cases e
  exact hA
theorem ident_okM {N : Nat} (h1 : 1 ≤ N) (h6 : N ≤ 6) : identR N = .ok (idM N) := by
  unfold idM identR
  rw [if_pos (by omega), Int.toNat_natCast]
  have : ∃ l, madeR N idR = .ok l := ⟨_, gather_pure (fun t => if t / N = t % N then Nm.one else Nm.zero) (N * N)⟩
  obtain ⟨l, hl⟩ := this
  rw [hl]
  rfl
end Go.Proofs.Ytccbinnlnkpplaa
namespace Go.Proofs.Ytccbinnlnkpplaa
set_option linter.all false
open Go.RowKit

set_option maxRecDepth 100000 in
set_option maxHeartbeats 1000000 in
theorem own_any (x : It) (w : World) : Calls Try.prog 130 #[.agg #[.int .i64 x.kind, .int .i64 x.at_, .int .i64 x.n, .string x.name]] w fun e w' => RetM1 w (ownN x) (ownL x) e w' := by
  go_enter Try.func130, Try.ntmps130
  refine wk_start ?_
  refine wk_seq ?_
  refine wk_region [1, 1] rfl (by kernel_rfl) ?_
  simp only [qy]
  refine rg_new (cs := ?_) (ty := ?_) (by rfl) (fun w => ?_) (fun _ h => by cases h) (fun g1 => ?_); rotate_left 2
  focus (go_simp; rfl)
  simp only [qz]
  refine rg_new (cs := ?_) (ty := ?_) (by rfl) (fun w => ?_) (fun _ h => by cases h) (fun g2 => ?_); rotate_left 2
  focus (go_simp; rfl)
  simp only [qz]
  refine rg_nil (ek_next (wk_seq ?_))
  refine wk_region [0, 0, 0, 1, 1, 1, 1] rfl (by kernel_rfl) ?_
  simp only [qy]
  refine rf_build (cs := fun a => #[.int .i64 0, .int .i64 0, .int .i64 0, .int .i64 0, .int .i64 0]) rfl rfl (by kernel_rfl) ?_
  simp only [qz]
  refine rf_build (cs := fun a => #[a.eval (.const (.int .i64 1)), .int .i64 0, .int .i64 0, .int .i64 0]) rfl rfl (by kernel_rfl) ?_
  simp only [qz]
  refine rf_build (cs := fun a => #[cellAt (a.eval (.tmp 10)) 0, cellAt (a.eval (.tmp 10)) 1, cellAt (a.eval (.tmp 10)) 2, cellAt (a.eval (.tmp 10)) 3, .int .i64 0]) rfl rfl (by kernel_rfl) ?_
  simp only [qz]
  refine rg_new (cs := ?_) (ty := ?_) (by rfl) (fun w => ?_) (fun _ h => by cases h) (fun g3 => ?_); rotate_left 2
  focus (go_simp; rfl)
  simp only [qz]
  refine rg_new (cs := ?_) (ty := ?_) (by rfl) (fun w => ?_) (fun _ h => by cases h) (fun g4 => ?_); rotate_left 2
  focus (go_simp; rfl)
  simp only [qz]
  refine rf_storeR (n := 5) rfl rfl (by kernel_rfl) rfl rfl (UpdR.there _ (UpdR.here _ _ _ (Nat.le_of_ble_eq_true rfl))) (fun _ h => by cases h) ?_
  simp only [qz, Nat.reduceAdd]
  refine rf_storeR (n := 5) rfl rfl (by kernel_rfl) rfl rfl (UpdR.here _ _ _ (Nat.le_of_ble_eq_true rfl)) (fun _ h => by cases h) ?_
  simp only [qz, Nat.reduceAdd]
  refine rg_nil (ek_next (wk_seq (wk_seq ?_)))
  refine wk_region [0, 0] rfl (by kernel_rfl) ?_
  simp only [qy]
  refine rf_field (n := 0) (j := 0) rfl rfl rfl Try.underlying80 rfl (by kernel_rfl) rfl ?_
  simp only [qz]
  refine rf_load rfl rfl rfl Try.underlying3 rfl (fun w hw => (Kn.hd0 (Kn.tl (Kn.tl (Kn.tl hw)))).at rfl) ?_
  simp only [qz]
  refine rg_nil (ek_next (wk_block (wk_seq ?_)))
  refine wk_region [0, 0] rfl (by kernel_rfl) ?_
  simp only [qy]
  refine rfb_eql rfl rfl rfl rfl ?_
  intro x h1
  cases x
  · (try simp only [qd, ne_eq] at h1)
    simp only [qz]
    refine rg_assign ?_
    simp only [qz]
    refine rg_nil (ek_next (wk_cond_f rfl (wk_seq ?_)))
    refine wk_region [0, 0] rfl (by kernel_rfl) ?_
    simp only [qy]
    refine rfb_eql rfl rfl rfl rfl ?_
    intro x h2
    cases x
    · (try simp only [qd, ne_eq] at h2)
      simp only [qz]
      refine rg_assign ?_
      simp only [qz]
      refine rg_nil (ek_next (wk_cond_f rfl (wk_skip (ek_block (ek_next (wk_seq ?_))))))
      refine wk_region [0, 0, 0, 0, 1, 1, 1, 1] rfl (by kernel_rfl) ?_
      simp only [qy]
      refine rf_build (cs := fun a => #[a.eval (.const (.int .i64 1)), .int .i64 0, .int .i64 0, .int .i64 0]) rfl rfl (by kernel_rfl) ?_
      simp only [qz]
      refine rf_build (cs := fun a => #[cellAt (a.eval (.tmp 34)) 0, cellAt (a.eval (.tmp 34)) 1, cellAt (a.eval (.tmp 34)) 2, cellAt (a.eval (.tmp 34)) 3, a.eval (.const (.int .i64 1))]) rfl rfl (by kernel_rfl) ?_
      simp only [qz]
      refine rf_build (cs := fun a => #[a.eval (.const (.int .i64 0)), a.eval (.const (.int .i64 0)), a.eval (.const (.int .i64 1)), .int .i64 0]) rfl rfl (by kernel_rfl) ?_
      simp only [qz]
      refine rf_build (cs := fun a => #[cellAt (a.eval (.tmp 36)) 0, cellAt (a.eval (.tmp 36)) 1, cellAt (a.eval (.tmp 36)) 2, cellAt (a.eval (.tmp 36)) 3, a.eval (.const (.int .i64 1))]) rfl rfl (by kernel_rfl) ?_
      simp only [qz]
      refine rg_new (cs := ?_) (ty := ?_) (by rfl) (fun w => ?_) (fun _ h => by cases h) (fun g5 => ?_); rotate_left 2
      focus (go_simp; rfl)
      simp only [qz]
      refine rg_new (cs := ?_) (ty := ?_) (by rfl) (fun w => ?_) (fun _ h => by cases h) (fun g6 => ?_); rotate_left 2
      focus (go_simp; rfl)
      simp only [qz]
      refine rf_storeR (n := 5) rfl rfl (by kernel_rfl) rfl rfl (UpdR.there _ (UpdR.here _ _ _ (Nat.le_of_ble_eq_true rfl))) (fun _ h => by cases h) ?_
      simp only [qz, Nat.reduceAdd]
      refine rf_storeR (n := 5) rfl rfl (by kernel_rfl) rfl rfl (UpdR.here _ _ _ (Nat.le_of_ble_eq_true rfl)) (fun _ h => by cases h) ?_
      simp only [qz, Nat.reduceAdd]
      refine rg_nil (ek_next (wk_seq ?_))
      refine wk_region [0, 0, 0, 0, 1, 0, 1] rfl (by kernel_rfl) ?_
      simp only [qy]
      refine rf_loadR (n := 5) rfl rfl rfl Try.underlying45 rfl (by kernel_rfl) (fun w hw => Kn.hd0 (Kn.tl hw)) rfl rfl ?_
      simp only [qz]
      refine rf_loadR (n := 5) rfl rfl rfl Try.underlying45 rfl (by kernel_rfl) (fun w hw => Kn.hd0 hw) rfl rfl ?_
      simp only [qz]
      refine rf_loadR (n := 5) rfl rfl rfl Try.underlying45 rfl (by kernel_rfl) (fun w hw => Kn.hd0 hw) rfl rfl ?_
      simp only [qz]
      refine rf_loadR (n := 5) rfl rfl rfl Try.underlying45 rfl (by kernel_rfl) (fun w hw => Kn.hd0 (Kn.tl hw)) rfl rfl ?_
      simp only [qz]
      refine rg_newS (cs := ?_) (ty := ?_) (n := 4) (c := 4) (by rfl) (fun w => ?_) (fun _ h => by cases h) (fun g7 => ?_); rotate_left 2
      focus (go_simp; rfl)
      simp only [qz]
      refine rf_build (cs := fun a => #[a.eval (.const (.int .i64 2)), a.eval (.tmp 42)]) rfl rfl (by kernel_rfl) ?_
      simp only [qz]
      refine rf_storeR (n := 2) rfl rfl (by kernel_rfl) rfl rfl (UpdR.there _ (UpdR.there _ (UpdR.there _ (UpdR.there _ (UpdR.there _ (UpdR.here _ _ _ (Nat.le_of_ble_eq_true rfl))))))) (fun _ h => by cases h) ?_
      simp only [qz, Nat.reduceAdd]
      refine rg_nil (ek_next (wk_ret ?_))
      refine ek_ret (fun w hw => ⟨rfl, _, run_results1 rfl rfl (Kn.hd0 (Kn.tl (Kn.tl (Kn.tl (Kn.tl (Kn.tl hw)))))) Try.underlying38 rfl (by kernel_rfl), ?_⟩)
      (try simp only [qz])
      have e1 : ownN x = 2 := by (unfold ownN; rw [if_neg (by omega)])
      have e2 : ownL x = [halfN, sideN, sideN, halfN] := by (unfold ownL; rw [if_neg (by omega), if_neg (by omega)])
      rw [e1, e2]
      exact ⟨_, _, rfl, OwnN.wholeM (g := g7) (l := [halfN, sideN, sideN, halfN]) (by simp), hw.made (sc _ (sk _ (sk _ (sk _ (sk _ (sk _ (sk _ sn)))))))⟩
    (try simp only [qd, ne_eq] at h2)
    simp only [qz]
    refine rg_assign ?_
    simp only [qz]
    refine rg_nil (ek_next (wk_cond_t rfl (wk_seq ?_)))
    refine wk_region [0, 0, 0, 0, 1, 0, 1] rfl (by kernel_rfl) ?_
    simp only [qy]
    refine rf_loadR (n := 5) rfl rfl rfl Try.underlying45 rfl (by kernel_rfl) (fun w hw => Kn.hd0 (Kn.tl hw)) rfl rfl ?_
    simp only [qz]
    refine rf_loadR (n := 5) rfl rfl rfl Try.underlying45 rfl (by kernel_rfl) (fun w hw => Kn.hd0 hw) rfl rfl ?_
    simp only [qz]
    refine rf_loadR (n := 5) rfl rfl rfl Try.underlying45 rfl (by kernel_rfl) (fun w hw => Kn.hd0 hw) rfl rfl ?_
    simp only [qz]
    refine rf_loadR (n := 5) rfl rfl rfl Try.underlying45 rfl (by kernel_rfl) (fun w hw => Kn.hd0 (Kn.tl hw)) rfl rfl ?_
    simp only [qz]
    refine rg_newS (cs := ?_) (ty := ?_) (n := 4) (c := 4) (by rfl) (fun w => ?_) (fun _ h => by cases h) (fun g8 => ?_); rotate_left 2
    focus (go_simp; rfl)
    simp only [qz]
    refine rf_build (cs := fun a => #[a.eval (.const (.int .i64 2)), a.eval (.tmp 32)]) rfl rfl (by kernel_rfl) ?_
    simp only [qz]
    refine rf_storeR (n := 2) rfl rfl (by kernel_rfl) rfl rfl (UpdR.there _ (UpdR.there _ (UpdR.there _ (UpdR.here _ _ _ (Nat.le_of_ble_eq_true rfl))))) (fun _ h => by cases h) ?_
    simp only [qz, Nat.reduceAdd]
    refine rg_nil (ek_next (wk_ret (ek_block_ret (ek_then_ret ?_))))
    refine ek_ret (fun w hw => ⟨rfl, _, run_results1 rfl rfl (Kn.hd0 (Kn.tl (Kn.tl (Kn.tl hw)))) Try.underlying38 rfl (by kernel_rfl), ?_⟩)
    (try simp only [qz])
    have e1 : ownN x = 2 := by (unfold ownN; rw [if_neg (by omega)])
    have e2 : ownL x = [Nm.zero, Nm.one, Nm.one, Nm.zero] := by (unfold ownL; rw [if_neg (by omega), if_pos (by omega)])
    rw [e1, e2]
    exact ⟨_, _, rfl, OwnN.wholeM (g := g8) (l := [Nm.zero, Nm.one, Nm.one, Nm.zero]) (by simp), hw.made (sc _ (sk _ (sk _ (sk _ (sk _ sn)))))⟩
  (try simp only [qd, ne_eq] at h1)
  simp only [qz]
  refine rg_assign ?_
  simp only [qz]
  refine rg_nil (ek_next (wk_cond_t rfl (wk_seq ?_)))
  refine wk_region [0, 0, 0, 1, 0, 0, 0, 1, 1, 0] rfl (by kernel_rfl) ?_
  simp only [qy]
  refine rf_loadR (n := 5) rfl rfl rfl Try.underlying45 rfl (by kernel_rfl) (fun w hw => Kn.hd0 hw) rfl rfl ?_
  simp only [qz]
  refine rf_field (n := 0) (j := 2) rfl rfl rfl Try.underlying80 rfl (by kernel_rfl) rfl ?_
  simp only [qz]
  refine rf_load rfl rfl rfl Try.underlying3 rfl (fun w hw => (Kn.hd0 (Kn.tl (Kn.tl (Kn.tl hw)))).at rfl) ?_
  simp only [qz]
  apply rg_pure (by rfl) (by kernel_rfl)
  case hargs => (simp only [qm, qs, Act.eval]; exact rfl)
  case h => exact fun w hw => amTurn_ok Nm.one x.n one_ok w
  case hz => exact (fun _ h => by cases h)
  simp only [qz]
  refine rg_move ?_
  simp only [qz]
  refine rf_extract rfl rfl rfl rfl ?_
  simp only [qz]
  refine rf_extract rfl rfl rfl rfl ?_
  simp only [qz]
  refine rg_new (cs := ?_) (ty := ?_) (by rfl) (fun w => ?_) (fun _ h => by cases h) (fun g9 => ?_); rotate_left 2
  focus (go_simp; rfl)
  simp only [qz]
  refine rf_storeR (n := 5) rfl rfl (by kernel_rfl) rfl rfl (UpdR.here _ _ _ (Nat.le_of_ble_eq_true rfl)) (fun _ h => by cases h) ?_
  simp only [qz, Nat.reduceAdd]
  refine rg_assign ?_
  simp only [qz]
  refine rg_nil (ek_next (wk_seq ?_))
  refine wk_region [0, 1, 0, 1] rfl (by kernel_rfl) ?_
  simp only [qy]
  refine rf_loadR (n := 5) rfl rfl rfl Try.underlying45 rfl (by kernel_rfl) (fun w hw => Kn.hd0 hw) rfl rfl ?_
  simp only [qz]
  refine rg_newS (cs := ?_) (ty := ?_) (n := 1) (c := 1) (by rfl) (fun w => ?_) (fun _ h => by cases h) (fun g10 => ?_); rotate_left 2
  focus (go_simp; rfl)
  simp only [qz]
  refine rf_build (cs := fun a => #[a.eval (.const (.int .i64 1)), a.eval (.tmp 24)]) rfl rfl (by kernel_rfl) ?_
  simp only [qz]
  refine rf_storeR (n := 2) rfl rfl (by kernel_rfl) rfl rfl (UpdR.there _ (UpdR.there _ (UpdR.there _ (UpdR.there _ (UpdR.here _ _ _ (Nat.le_of_ble_eq_true rfl)))))) (fun _ h => by cases h) ?_
  simp only [qz, Nat.reduceAdd]
  refine rg_nil (ek_next (wk_ret (ek_block_ret (ek_then_ret ?_))))
  refine ek_ret (fun w hw => ⟨rfl, _, run_results1 rfl rfl (Kn.hd0 (Kn.tl (Kn.tl (Kn.tl (Kn.tl hw))))) Try.underlying38 rfl (by kernel_rfl), ?_⟩)
  (try simp only [qz])
  have e1 : ownN x = 1 := by (unfold ownN; rw [if_pos (by omega)])
  have e2 : ownL x = [Nm.turn (x.n % 8).toNat Nm.one] := by (unfold ownL; rw [if_pos (by omega)])
  rw [e1, e2]
  exact ⟨_, _, rfl, OwnN.wholeM (g := g10) (l := [Nm.turn (x.n % 8).toNat Nm.one]) (by simp), hw.made (sc _ (sk _ (sk _ (sk _ (sk _ (sk _ sn))))))⟩

end Go.Proofs.Ytccbinnlnkpplaa
namespace Go.Proofs.Ytccbinnlnkpplaa
set_option linter.all false
open Go.RowKit

set_option maxRecDepth 100000 in
set_option maxHeartbeats 1000000 in
theorem mplaced_any (N p m : Nat) (L : List Nm) (a : Option Addr) (c : Nat) (hN1 : 1 ≤ N) (hN6 : N ≤ 6) (hm1 : 1 ≤ m) (hpm : p + m ≤ N) (hL : Hid (L.length = m * m)) (w : World) (hA : AS w a (nms L)) : Calls Try.prog 132 #[.int .i64 N, .int .i64 ((p : Int) + 1), .agg #[.int .i64 m, .slice a L.length c]] w fun e w' => RetM1 w N (plcL N p m L) e w' := by
  obtain ⟨b, off, rfl, hlt, hcell⟩ := AS.openN hA (by rw [hL.out]; exact Nat.mul_pos (by omega) (by omega))
  have hz1 : 1 ≤ N * N := Nat.mul_pos (by omega) (by omega)
  have hidl := idM_len (N := N) (by omega) hN6
  obtain ⟨z0, hz0⟩ : ∃ r, idM N = r := ⟨_, rfl⟩
  go_enter Try.func132, Try.ntmps132
  refine wk_start ?_
  refine wk_seq ?_
  refine wk_region [1, 1] rfl (by kernel_rfl) ?_
  simp only [qy]
  refine rg_new (cs := ?_) (ty := ?_) (by rfl) (fun w => ?_) (fun _ h => by cases h) (fun g1 => ?_); rotate_left 2
  focus (go_simp; rfl)
  simp only [qz]
  refine rg_new (cs := ?_) (ty := ?_) (by rfl) (fun w => ?_) (fun _ h => by cases h) (fun g2 => ?_); rotate_left 2
  focus (go_simp; rfl)
  simp only [qz]
  refine rg_nil (ek_next (wk_seq ?_))
  refine wk_region [0, 1, 0, 0, 0, 1, 1, 0] rfl (by kernel_rfl) ?_
  simp only [qy]
  refine rg_move ?_
  simp only [qz]
  apply (rg_retM (n := (N : Int)) (zs := z0) (c := 0)) (by rfl) (by kernel_rfl)
  case hargs => (simp only [qm, qs, Act.eval]; exact rfl)
  case h => exact fun w hw => by have := identity_any N w; rw [ident_okM (by omega) hN6, Int.toNat_natCast] at this; rw [hz0] at this; exact this
  case hz => exact (fun _ h => by cases h)
  intro va3 vc3 u3 hO3
  simp only [qz]
  refine rg_move ?_
  simp only [qz]
  refine rf_extract rfl rfl rfl rfl ?_
  simp only [qz]
  refine rf_extract rfl rfl rfl rfl ?_
  simp only [qz]
  refine rg_new (cs := ?_) (ty := ?_) (by rfl) (fun w => ?_) (fun _ h => by cases h) (fun g4 => ?_); rotate_left 2
  focus (go_simp; rfl)
  simp only [qz]
  refine rf_storeR (n := 2) rfl rfl (by kernel_rfl) rfl rfl (UpdR.here _ _ _ (Nat.le_of_ble_eq_true rfl)) (fun _ h => by cases h) ?_
  simp only [qz, Nat.reduceAdd]
  refine rg_assign ?_
  simp only [qz]
  refine rg_nil (ek_next (wk_seq (wk_seq ?_)))
  have hzl : z0.length = N * N := by rw [← hz0]; exact hidl
  rw [hzl]
  clear hidl
  replace hzl := Lib.hid hzl
  replace hz0 := Lib.hid hz0
  refine wk_region [0, 0, 0] rfl (by kernel_rfl) ?_
  simp only [qy]
  refine rf_field (n := 0) (j := 0) rfl rfl rfl Try.underlying38 rfl (by kernel_rfl) rfl ?_
  simp only [qz]
  refine rf_load rfl rfl rfl Try.underlying3 rfl (fun w hw => (Kn.hd0 (Kn.tl (Kn.tlU (Kn.tl hw)))).at rfl) ?_
  simp only [qz]
  refine rg_move ?_
  simp only [qz]
  refine rg_nil (ek_next (wk_block ?_))
  refine wk_loopF [9, 10, 18, 19, 20, 21, 22, 23, 24, 25, 26, 27, 28, 29, 30, 31, 32, 33, 34, 35, 36, 37, 38, 39, 40, 41, 42, 43, 44, 45, 46, 47, 48, 49, 50, 51] (fun mz f s => ∃ (i : Nat) (u : List Blk), f 18 = .int .i64 i ∧ s = ((g4, .cells #[.int .i64 N, .slice va3 (N * N) vc3] 38) :: (u ++ ((g2, .cells #[.int .i64 0, .slice none 0 0] 38) :: ((g1, .cells #[.int .i64 m, .slice (some ⟨b, off, none⟩) L.length c] 38) :: [])))) ∧ mz = m - i ∧ i ≤ m ∧ OwnN u (.slice va3 (N * N) vc3) (plcS N p m L z0 (i * m))) ((fun (i : Nat) (u : List Blk) => m - i) (0) (u3)) ?_ (by kernel_rfl) ?_
  · exact ⟨0, u3, rfl, rfl, rfl, by omega, by rw [Nat.zero_mul]; show OwnN u3 (.slice va3 (N * N) vc3) z0; rw [← hzl.out]; exact hO3⟩
  rintro mz f1 s ⟨i, u, hs1_18, rfl, hn, hd1, hd2⟩
  simp only [Act.putF, List.foldl_cons, List.foldl_nil, hs1_18, Act.put, Act.eval, q1, q2, q3, q4, q5, q6, q7, q8, q9, q10, q11, q12, q13, q14, q15, q16, q17, q18, Nat.reduceAdd, Bool.not_true, Bool.not_false]
  clear hs1_18
  refine wk_seq ?_
  refine wk_region [0] rfl (by kernel_rfl) ?_
  simp only [qy]
  refine rfb_lss rfl rfl rfl rfl ?_
  intro x h1
  cases x
  · (try simp only [qd, ne_eq] at h1)
    simp only [qz]
    refine rg_nil (ek_next (wk_seq (wk_cond_f rfl (wk_exit (ek_then_exit (ek_then_exit (ek_block_exit (ek_next (wk_seq ?_)))))))))
    refine wk_region [0, 1] rfl (by kernel_rfl) ?_
    simp only [qy]
    refine rf_loadR (n := 2) rfl rfl rfl Try.underlying38 rfl (by kernel_rfl) (fun w hw => Kn.hd0 hw) rfl rfl ?_
    simp only [qz]
    refine rf_storeR (n := 2) rfl rfl (by kernel_rfl) rfl rfl (UpdR.there _ (UpdR.app _ (UpdR.here _ _ _ (Nat.le_of_ble_eq_true rfl)))) (fun _ h => by cases h) ?_
    simp only [qz, Nat.reduceAdd]
    refine rg_nil (ek_next (wk_ret ?_))
    refine ek_ret (fun w hw => ⟨rfl, _, run_results1 rfl rfl (Kn.hd0 (Kn.tlU (Kn.tl hw))) Try.underlying38 rfl (by kernel_rfl), ?_⟩)
    (try simp only [qz])
    obtain rfl : i = m := by omega
    have e1 : plcL N p i L = plcS N p i L z0 (i * i) := by (unfold plcL; rw [hz0.out])
    rw [e1]
    exact ⟨_, u, rfl, hd2, hw.made (List.Sublist.cons _ (List.sublist_append_left _ _))⟩
  (try simp only [qd, ne_eq] at h1)
  simp only [qz]
  refine rg_nil (ek_next (wk_seq (wk_cond_t rfl (wk_skip (ek_next (wk_seq (wk_block (wk_seq ?_))))))))
  refine wk_region [0, 0] rfl (by kernel_rfl) ?_
  simp only [qy]
  refine rg_move ?_
  simp only [qz]
  refine rg_assign ?_
  simp only [qz]
  refine rg_nil (ek_next (wk_seq ?_))
  refine wk_region [0, 0, 0] rfl (by kernel_rfl) ?_
  simp only [qy]
  refine rf_field (n := 0) (j := 0) rfl rfl rfl Try.underlying38 rfl (by kernel_rfl) rfl ?_
  simp only [qz]
  refine rf_load rfl rfl rfl Try.underlying3 rfl (fun w hw => (Kn.hd0 (Kn.tl (Kn.tlU (Kn.tl hw)))).at rfl) ?_
  simp only [qz]
  refine rg_move ?_
  simp only [qz]
  refine rg_nil (ek_next (wk_block ?_))
  refine wk_loopF [10, 23, 24, 25, 26, 27, 28, 29, 30, 31, 32, 33, 34, 35, 36, 37, 38, 39, 40, 41, 42, 43, 44, 45, 46, 47, 48, 49, 50] (fun mz f s => ∃ (k : Nat) (u2 : List Blk), f 23 = .int .i64 k ∧ s = ((g4, .cells #[.int .i64 N, .slice va3 (N * N) vc3] 38) :: (u2 ++ ((g2, .cells #[.int .i64 0, .slice none 0 0] 38) :: ((g1, .cells #[.int .i64 m, .slice (some ⟨b, off, none⟩) L.length c] 38) :: [])))) ∧ mz = m - k ∧ k ≤ m ∧ OwnN u2 (.slice va3 (N * N) vc3) (plcS N p m L z0 (i * m + k))) ((fun (k : Nat) (u2 : List Blk) => m - k) (0) (u)) ?_ (by kernel_rfl) ?_
  · exact ⟨0, u, rfl, rfl, rfl, by omega, hd2⟩
  rintro mz f2 s ⟨k, u2, hs2_23, rfl, hn, he1, he2⟩
  simp only [Act.putF, List.foldl_cons, List.foldl_nil, hs2_23, Act.put, Act.eval, q1, q2, q3, q4, q5, q6, q7, q8, q9, q10, q11, q12, q13, q14, q15, q16, q17, q18, Nat.reduceAdd, Bool.not_true, Bool.not_false]
  clear hs2_23
  refine wk_seq ?_
  refine wk_region [0] rfl (by kernel_rfl) ?_
  simp only [qy]
  refine rfb_lss rfl rfl rfl rfl ?_
  intro x h2
  cases x
  · (try simp only [qd, ne_eq] at h2)
    simp only [qz]
    refine rg_nil (ek_next (wk_seq (wk_cond_f rfl (wk_exit (ek_then_exit (ek_then_exit (ek_block_exit (ek_block (ek_next ?_)))))))))
    refine wk_region [0, 0] rfl (by kernel_rfl) ?_
    simp only [qy]
    refine rf_add rfl rfl rfl rfl (wrap_ok (by omega) (by omega)) ?_
    simp only [qz]
    refine rg_move ?_
    simp only [qz]
    refine rg_nil ?_
    obtain rfl : m = k := by omega
    refine ek_roundF (m - (i + 1)) (by omega) (by kernel_rfl) ?_
    exact ⟨i + 1, u2, rfl, by rfl, by rfl, (by omega), (by rw [show (i + 1) * m = i * m + m by rw [Nat.add_mul, Nat.one_mul]]; exact he2)⟩
  (try simp only [qd, ne_eq] at h2)
  simp only [qz]
  refine rg_nil (ek_next (wk_seq (wk_cond_t rfl (wk_skip (ek_next (wk_seq (wk_block (wk_seq ?_))))))))
  refine wk_region [0, 0] rfl (by kernel_rfl) ?_
  simp only [qy]
  refine rg_move ?_
  simp only [qz]
  refine rg_assign ?_
  simp only [qz]
  refine rg_nil (ek_next ?_)
  have hpl := plcS_len N p m L z0 (i * m + k)
  obtain ⟨go, capo, resto, hu, hvo, hco1, hco2, hco3⟩ := he2.openM (by rw [hpl, hzl.out]; omega)
  subst hu
  rw [hpl, hzl.out] at hvo hco1
  cases hvo
  have hix := ix_lt (N := N) (show p + i < N by omega) (show p + k < N by omega)
  have hmx := ix_lt (N := m) (show i < m by omega) (show k < m by omega)
  have hLm := hL.out
  have hm36 := Nat.mul_le_mul (show m ≤ 6 by omega) (show m ≤ 6 by omega)
  have hN36 := Nat.mul_le_mul hN6 hN6
  have hcst : (((p + i : Nat) : Int) * N) = (((p + i) * N : Nat) : Int) := (Int.natCast_mul _ _).symm
  have hcst2 : ((i : Int) * m) = ((i * m : Nat) : Int) := (Int.natCast_mul _ _).symm
  obtain ⟨ix, hixe⟩ : ∃ r, (p + i) * N + p + k = r := ⟨_, rfl⟩
  have hixl : ix < N * N := by omega
  obtain ⟨jx, hjxe⟩ : ∃ r, i * m + k = r := ⟨_, rfl⟩
  have hjxl : jx < L.length := by omega
  simp only [List.cons_append, List.nil_append]
  refine wk_draws_m (hz1 := (sc _ (sk _ (sc _ (sc _ sn))))) [(0, 0), (1, 0), (2, 0), (3, 0), (4, 0), (5, 0), (6, 0), (7, 0), (8, 0), (9, 0), (10, 0), (11, 0), (12, 0), (13, 0), (14, 0), (15, 0), (16, 0), (17, 0), (18, 0), (19, 0), (20, 0), (21, 0), (22, 0), (23, 0), (24, 2)] 24 (by kernel_rfl) (by kernel_rfl) (fun c d v a w h => by cases d <;> exact h) ?_
  simp only [List.map_cons, List.map_nil, List.getD_cons_zero, List.getD_cons_succ]
  refine rf_field (n := 0) (j := 1) rfl rfl rfl Try.underlying38 rfl (by kernel_rfl) rfl ?_
  simp only [qz]
  refine rf_load rfl rfl rfl Try.underlying36 rfl (fun w hw => (Kn.hd0 hw).at rfl) ?_
  simp only [qz]
  refine rg_move ?_
  simp only [qz]
  refine rf_sub (r := (p : Int)) rfl rfl rfl rfl (wrap_eqB (by omega) (by omega) (by omega)) ?_
  simp only [qz]
  refine rg_move ?_
  simp only [qz]
  refine rf_add (r := ((p + i : Nat) : Int)) rfl rfl rfl rfl (wrap_eqB (by omega) (by omega) (by omega)) ?_
  simp only [qz]
  refine rg_move ?_
  simp only [qz]
  refine rf_mul (r := (((p + i) * N : Nat) : Int)) rfl rfl rfl rfl (wrap_eqB hcst (by omega) (by omega)) ?_
  simp only [qz]
  refine rg_move ?_
  simp only [qz]
  refine rf_add (r := ((p + i) * N : Nat) + ((p : Int) + 1)) rfl rfl rfl rfl (wrap_eqB (by omega) (by omega) (by omega)) ?_
  simp only [qz]
  refine rf_sub (r := (((p + i) * N + p : Nat) : Int)) rfl rfl rfl rfl (wrap_eqB (by omega) (by omega) (by omega)) ?_
  simp only [qz]
  refine rg_move ?_
  simp only [qz]
  refine rf_add (r := ((ix : Nat) : Int)) rfl rfl rfl rfl (wrap_eqB (by omega) (by omega) (by omega)) ?_
  simp only [qz]
  refine rf_field (n := 0) (j := 1) rfl rfl rfl Try.underlying38 rfl (by kernel_rfl) rfl ?_
  simp only [qz]
  refine rf_load rfl rfl rfl Try.underlying36 rfl (fun w hw => (Kn.hd0 (Kn.tl (Kn.tl (Kn.tl hw)))).at rfl) ?_
  simp only [qz]
  refine rg_move ?_
  simp only [qz]
  refine rf_field (n := 0) (j := 0) rfl rfl rfl Try.underlying38 rfl (by kernel_rfl) rfl ?_
  simp only [qz]
  refine rf_load rfl rfl rfl Try.underlying3 rfl (fun w hw => (Kn.hd0 (Kn.tl (Kn.tl (Kn.tl hw)))).at rfl) ?_
  simp only [qz]
  refine rf_mul (r := ((i * m : Nat) : Int)) rfl rfl rfl rfl (wrap_eqB hcst2 (by omega) (by omega)) ?_
  simp only [qz]
  refine rg_move ?_
  simp only [qz]
  refine rf_add (r := ((jx : Nat) : Int)) rfl rfl rfl rfl (wrap_eqB (by omega) (by omega) (by omega)) ?_
  simp only [qz]
  refine rf_indexS (n := jx) (sz := 5) (j := off + jx * 5) rfl rfl rfl rfl Try.underlying36 (by kernel_rfl) (by omega) (by omega) rfl ?_
  simp only [qz]
  refine rf_loadC (n := 5) (vs := nmC (nm L jx)) rfl rfl rfl Try.underlying45 rfl (by kernel_rfl) rfl (fun w hw => atN_range ((hcell jx hjxl).kn hw hlt (by simp))) ?_
  simp only [qz]
  refine rf_indexS (n := ix) (sz := 5) (j := 0 + ix * 5) rfl rfl rfl rfl Try.underlying36 (by kernel_rfl) (by omega) (by omega) rfl ?_
  simp only [qz]
  have hsz := nm_szM (plcS N p m L z0 jx) ix (nm L jx) resto (by rw [← hjxe, hpl, hzl.out]; exact hixl)
  rw [hjxe]
  refine rf_storeRM (n := 5) (vs := nmC (nm L jx)) rfl rfl (by kernel_rfl) rfl rfl (UpdR.there _ (UpdR.here _ _ _ hsz)) (sc _ (sk _ (sc _ (sc _ sn)))) ?_
  have hstep : (plcS N p m L z0 jx).set ix (nm L jx) = plcS N p m L z0 (i * m + (k + 1)) := by
    rw [← Nat.add_assoc, plcS, hjxe, ← hixe, ← hjxe, ix_div (show k < m by omega), ix_mod (show k < m by omega)]
  rw [nm_flM _ _ _ _ (by rw [← hjxe, hpl, hzl.out]; exact hixl), hstep]
  have hON := OwnN.flM (g := go) (n := N * N) (l := plcS N p m L z0 (i * m + (k + 1))) (rest := resto) (by rw [plcS_len, hzl.out]) hco1 hco2 (by rw [List.length_append, El.flat_len, plcS_len, hzl.out] at hco3 ⊢; exact hco3)
  simp only [qz]
  refine rg_nil (ek_block (ek_next ?_))
  refine wk_region [0, 0] rfl (by kernel_rfl) ?_
  simp only [qy]
  refine rf_add rfl rfl rfl rfl (wrap_ok (by omega) (by omega)) ?_
  simp only [qz]
  refine rg_move ?_
  simp only [qz]
  refine rg_nil ?_
  refine ek_roundF (m - (k + 1)) (by omega) (by kernel_rfl) ?_
  exact ⟨k + 1, [(go, _)], rfl, by rfl, by rfl, (by omega), hON⟩

theorem mplaced_int (N p m : Nat) (z : Int) (L : List Nm) (a : Option Addr) (c : Nat) (hz : z = p + 1) (hN1 : 1 ≤ N) (hN6 : N ≤ 6) (hm1 : 1 ≤ m) (hpm : p + m ≤ N) (hL : Hid (L.length = m * m)) (w : World) (hA : AS w a (nms L)) : Calls Try.prog 132 #[.int .i64 N, .int .i64 z, .agg #[.int .i64 m, .slice a L.length c]] w fun e w' => RetM1 w N (plcL N p m L) e w' := by
  subst hz
  exact mplaced_any N p m L a c hN1 hN6 hm1 hpm hL w hA
end Go.Proofs.Ytccbinnlnkpplaa
namespace Go.Proofs.Ytccbinnlnkpplaa
set_option linter.all false
open Go.RowKit

theorem fit_own {N : Nat} {x : It} (h : fitB N x = true) : 1 ≤ x.at_ ∧ (x.at_ - 1).toNat + ownN x ≤ N ∧ 1 ≤ ownN x ∧ ownN x ≤ 2 ∧ x.at_ = ((x.at_ - 1).toNat : Int) + 1 := by
  unfold fitB at h
  rw [decide_eq_true_eq] at h
  obtain ⟨h1, h2, h3⟩ := h
  unfold wd at h1 h3
  unfold ownN
  by_cases hk : x.kind = 1
  · rw [if_pos hk] at h1 h3 ⊢
    split at h1
    · next hn => rw [if_pos hn] at h3; omega
    exact absurd rfl h1
  rw [if_neg hk] at h1 h3 ⊢
  split at h1
  · next hn =>
    rw [if_pos hn] at h3
    split at h1
    · next hm => rw [if_pos hm] at h3; omega
    exact absurd rfl h1
  exact absurd rfl h1
theorem itemE_zero {n : Int} {xs : List It} (h : itemE n xs = 0) : validI n xs = true := by
  unfold itemE at h
  split at h
  · split at h
    · assumption
    cases h
  cases h
theorem ownL_len (x : It) : (ownL x).length = ownN x * ownN x := by
  unfold ownL ownN
  by_cases hk : x.kind = 1
  · rw [if_pos hk, if_pos hk]; rfl
  rw [if_neg hk, if_neg hk]
  split <;> rfl
theorem itL_len {N : Nat} (h1 : 1 ≤ N) (h6 : N ≤ 6) (x : It) : (itL N x).length = N * N := by
  unfold itL plcL
  rw [plcS_len, idM_len h1 h6]
theorem mulM_code {n m : Int} {xs ys : List Nm} {c : Int} (h : mulM n m xs ys = .error c) : c ≠ 0 := by
  unfold mulM at h
  split at h
  · split at h
    · obtain ⟨i, hi, he⟩ := gather_err_mem h
      have := prodsR_code he
      omega
    cases h; decide
  cases h; decide
theorem matS_code {N : Nat} {xs : List It} : ∀ {j : Nat} {c : Int}, matS N xs j = .error c → c ≠ 0
  | 0, c, h => by cases h
  | j + 1, c, h => by
    simp only [matS] at h
    split at h
    · next c' hc => cases h; exact matS_code hc
    · exact mulM_code h
theorem rC_ok {r : LR} (hc : ∀ c, r = .error c → c ≠ 0) (h : rC r = 0) : ∃ l, r = .ok l := by
  cases r with
  | ok l => exact ⟨l, rfl⟩
  | error c => exact absurd h (hc c rfl)
theorem matS_len {N : Nat} {xs : List It} (h1 : 1 ≤ N) (h6 : N ≤ 6) : ∀ {j : Nat} {l : List Nm}, matS N xs j = .ok l → l.length = N * N
  | 0, l, h => by cases h; exact idM_len h1 h6
  | j + 1, l, h => by
    simp only [matS] at h
    split at h
    · cases h
    · unfold mulM at h
      split at h
      · rw [if_pos rfl, Int.toNat_natCast] at h
        exact made_len h
      · cases h
theorem itAt_range {w : World} {b off : Nat} {i : It} (h : ItAt w b off i) : w.rangeAt b off [.int .i64 i.kind, .int .i64 i.at_, .int .i64 i.n, .string i.name] := by
  intro j v hj
  match j, hj with
  | 0, hj => injection hj with hj; subst hj; exact h.c0
  | 1, hj => injection hj with hj; subst hj; exact h.c1
  | 2, hj => injection hj with hj; subst hj; exact h.c2
  | 3, hj => injection hj with hj; subst hj; exact h.c3
  | n + 4, hj => cases hj
theorem run_lookup_noneM (s : ByteArray) (w : World) : (Instr.lookup 148 (.map none) (.string s) true).run Try.prog w = .ok (.tuple #[.agg #[.int .i64 0, .slice none 0 0], .bool false]) w := by
  kernel_rfl
section
variable {R : Option Nat} {ops : Array Oper} {Q : Exit → Act → World → Prop} {B : World} {F : List Nat} {s0 : Option (List Blk × List Blk)}
variable {l : List (Oper × Nat)} {a : Act} {s : List Blk} {d : Option Tmp} {t : TypeId} {p : String} {af : Array Edge} {gd : Option (Nat × Bool)} {m : Nat}
theorem rf_lookM {x y : Operand} {nm_ : ByteArray} (hm : soft03 m = true) (hg : Region.wanted ⟨d, .lookup 148 x y true, t, p, af, gd⟩ (yielded ops a.tmps) = true)
    (hx : a.eval x = .map none) (hy : a.eval y = .string nm_) (h : Rg R Try.prog ops Q B F s0 l (a.put d (.tuple #[.agg #[.int .i64 0, .slice none 0 0], .bool false])) s) : Rg R Try.prog ops Q B F s0 ((⟨d, .lookup 148 x y true, t, p, af, gd⟩, m) :: l) a s := by
  refine rg_any hm hg (fun w => ?_) h
  unfold Yld
  have := run_lookup_noneM nm_ w
  simp [execOp, hx, hy, this]
end
set_option maxRecDepth 100000 in
set_option maxHeartbeats 1000000 in
theorem mcheck_any (n : Int) (xs : List It) (a : Option Addr) (c : Nat) (w : World) (hA : AS w a (its xs)) : Calls Try.prog 73 #[.int .i64 n, .slice a xs.length c] w fun e w' => e = .returned (.int .i64 (itemE n xs)) ∧ Below w.heap.size w w' := by
  go_enter Try.func73, Try.ntmps73
  refine wk_start ?_
  refine wk_seq ?_
  refine wk_region [0] rfl (by kernel_rfl) ?_
  simp only [qy]
  refine rg_assign ?_
  simp only [qz]
  refine rg_nil (ek_next (wk_seq (wk_block (wk_seq ?_))))
  refine wk_region [0, 1, 0, 0] rfl (by kernel_rfl) ?_
  simp only [qy]
  refine rg_move ?_
  simp only [qz]
  apply rg_pureb (by rfl) (by kernel_rfl)
  case hargs => (simp only [qm, qs, Act.eval]; exact rfl)
  case h => exact fun w hw => between_mesh 1 n 6 w
  case hz => exact (fun _ h => by cases h)
  intro x h1
  cases x
  · (try simp only [qd, ne_eq] at h1)
    simp only [qz]
    have hbt := betB_false h1
    clear h1
    refine rf_not rfl rfl rfl ?_
    simp only [qz]
    refine rg_assign ?_
    simp only [qz]
    refine rg_nil (ek_next (wk_cond_t rfl (wk_seq ?_)))
    refine wk_region [0] rfl (by kernel_rfl) ?_
    simp only [qy]
    refine rg_assign ?_
    simp only [qz]
    refine rg_nil (ek_next (wk_ret (ek_block_ret (ek_then_ret ?_))))
    refine ek_ret (fun w hw => ⟨rfl, _, res_t _ rfl, ?_⟩)
    (try simp only [qz])
    exact ⟨by unfold itemE; rw [if_neg hbt], hw.below⟩
  (try simp only [qd, ne_eq] at h1)
  simp only [qz]
  have hbt := betB_true h1
  clear h1
  refine rf_not rfl rfl rfl ?_
  simp only [qz]
  refine rg_assign ?_
  simp only [qz]
  refine rg_nil (ek_next (wk_cond_f rfl (wk_seq ?_)))
  refine wk_region [0, 0, 1, 0, 0] rfl (by kernel_rfl) ?_
  simp only [qy]
  refine rg_move ?_
  simp only [qz]
  refine rg_move ?_
  simp only [qz]
  apply rg_pureb (by rfl) (by kernel_rfl)
  case hargs => (simp only [qm, qs, Act.eval]; exact rfl)
  case h => exact fun w hw => mvalidI_any xs a c n w (hA.kn0 hw)
  case hz => exact (fun _ h => by cases h)
  intro x h2
  cases x
  · (try simp only [qd, ne_eq] at h2)
    simp only [qz]
    refine rf_not rfl rfl rfl ?_
    simp only [qz]
    refine rg_assign ?_
    simp only [qz]
    refine rg_nil (ek_next (wk_cond_t rfl (wk_seq ?_)))
    refine wk_region [0] rfl (by kernel_rfl) ?_
    simp only [qy]
    refine rg_assign ?_
    simp only [qz]
    refine rg_nil (ek_next (wk_ret (ek_block_ret (ek_then_ret ?_))))
    refine ek_ret (fun w hw => ⟨rfl, _, res_t _ rfl, ?_⟩)
    (try simp only [qz])
    exact ⟨by unfold itemE; rw [if_pos hbt, if_neg (by rw [h2]; decide)], hw.below⟩
  (try simp only [qd, ne_eq] at h2)
  simp only [qz]
  refine rf_not rfl rfl rfl ?_
  simp only [qz]
  refine rg_assign ?_
  simp only [qz]
  refine rg_nil (ek_next (wk_cond_f rfl (wk_skip (ek_block (ek_next (wk_seq ?_))))))
  refine wk_region [0] rfl (by kernel_rfl) ?_
  simp only [qy]
  refine rg_assign ?_
  simp only [qz]
  refine rg_nil (ek_next (wk_ret ?_))
  refine ek_ret (fun w hw => ⟨rfl, _, res_t _ rfl, ?_⟩)
  (try simp only [qz])
  exact ⟨by unfold itemE; rw [if_pos hbt, if_pos h2], hw.below⟩

set_option maxRecDepth 100000 in
set_option maxHeartbeats 1000000 in
theorem made_items (N : Nat) (xs : List It) (a : Option Addr) (c : Nat) (hN1 : 1 ≤ N) (hN6 : N ≤ 6) (hlx : xs.length ≤ 5000) (hfit : ∀ j, j < xs.length → fitB N (it xs j) = true) (w : World) (hA : AS w a (its xs)) : Calls Try.prog 74 #[.int .i64 N, .slice a xs.length c, .map none] w fun e w' => RetM w (rN N (matS N xs xs.length)) (rL (matS N xs xs.length)) (rC (matS N xs xs.length)) e w' := by
  go_enter Try.func74, Try.ntmps74
  refine wk_start ?_
  refine wk_seq ?_
  refine wk_region [1, 0] rfl (by kernel_rfl) ?_
  simp only [qy]
  refine rg_new (cs := ?_) (ty := ?_) (by rfl) (fun w => ?_) (fun _ h => by cases h) (fun g1 => ?_); rotate_left 2
  focus (go_simp; rfl)
  simp only [qz]
  refine rg_assign ?_
  simp only [qz]
  refine rg_nil (ek_next (wk_seq ?_))
  refine wk_region [0, 1, 0, 0, 0, 1, 1, 0] rfl (by kernel_rfl) ?_
  simp only [qy]
  refine rg_move ?_
  simp only [qz]
  apply (rg_retM (n := (N : Int)) (zs := idM N) (c := 0)) (by rfl) (by kernel_rfl)
  case hargs => (simp only [qm, qs, Act.eval]; exact rfl)
  case h => exact fun w hw => by have := identity_any N w; rw [ident_okM hN1 hN6, Int.toNat_natCast] at this; exact this
  case hz => exact (fun _ h => by cases h)
  intro va2 vc2 u2 hO2
  simp only [qz]
  refine rg_move ?_
  simp only [qz]
  refine rf_extract rfl rfl rfl rfl ?_
  simp only [qz]
  refine rf_extract rfl rfl rfl rfl ?_
  simp only [qz]
  refine rg_new (cs := ?_) (ty := ?_) (by rfl) (fun w => ?_) (fun _ h => by cases h) (fun g3 => ?_); rotate_left 2
  focus (go_simp; rfl)
  simp only [qz]
  refine rf_storeR (n := 2) rfl rfl (by kernel_rfl) rfl rfl (UpdR.here _ _ _ (Nat.le_of_ble_eq_true rfl)) (fun _ h => by cases h) ?_
  simp only [qz, Nat.reduceAdd]
  refine rg_assign ?_
  simp only [qz]
  refine rg_nil (ek_next (wk_seq (wk_seq ?_)))
  refine wk_region [0, 0, 0] rfl (by kernel_rfl) ?_
  simp only [qy]
  refine rg_move ?_
  simp only [qz]
  refine rf_len rfl rfl rfl Try.underlying32 ?_
  simp only [qz]
  refine rg_move ?_
  simp only [qz]
  refine rg_nil (ek_next (wk_block ?_))
  refine wk_loopF [7, 9, 11, 12, 13, 21, 22, 23, 24, 25, 26, 27, 28, 29, 30, 31, 32, 33, 34, 35, 36, 37, 38, 39, 40, 41, 42, 43, 44, 45, 46, 47, 48, 49, 50] (fun mz f s => ∃ (i : Nat) (r : LR) (va : Option Addr) (vc : Nat) (u : List Blk), f 9 = .int .i64 (rC r) ∧ f 21 = .int .i64 i ∧ s = ((g3, .cells #[.int .i64 (rN N r), .slice va (rL r).length vc] 38) :: (u ++ ((g1, .cells #[.int .i64 0, .slice none 0 0] 38) :: []))) ∧ mz = xs.length - i ∧ i ≤ xs.length ∧ Hid (matS N xs i = r) ∧ OwnN u (.slice va (rL r).length vc) (rL r)) ((fun (i : Nat) (r : LR) (va : Option Addr) (vc : Nat) (u : List Blk) => xs.length - i) (0) (.ok (idM N)) (va2) (vc2) (u2)) ?_ (by kernel_rfl) ?_
  · exact ⟨0, .ok (idM N), va2, vc2, u2, rfl, rfl, rfl, rfl, by omega, Lib.hid rfl, hO2⟩
  rintro mz f1 s ⟨i, r, va, vc, u, hs1_9, hs1_21, rfl, hn, hd1, hd2, hd3⟩
  simp only [Act.putF, List.foldl_cons, List.foldl_nil, hs1_9, hs1_21, Act.put, Act.eval, q1, q2, q3, q4, q5, q6, q7, q8, q9, q10, q11, q12, q13, q14, q15, q16, q17, q18, Nat.reduceAdd, Bool.not_true, Bool.not_false]
  clear hs1_9 hs1_21
  refine wk_seq ?_
  refine wk_region [0] rfl (by kernel_rfl) ?_
  simp only [qy]
  refine rfb_lss rfl rfl rfl rfl ?_
  intro x h1
  cases x
  · (try simp only [qd, ne_eq] at h1)
    simp only [qz]
    refine rg_nil (ek_next (wk_seq (wk_cond_f rfl (wk_exit (ek_then_exit (ek_then_exit (ek_block_exit (ek_next (wk_seq ?_)))))))))
    refine wk_region [0, 0, 1, 0] rfl (by kernel_rfl) ?_
    simp only [qy]
    refine rf_loadR (n := 2) rfl rfl rfl Try.underlying38 rfl (by kernel_rfl) (fun w hw => Kn.hd0 hw) rfl rfl ?_
    simp only [qz]
    refine rg_move ?_
    simp only [qz]
    refine rf_storeR (n := 2) rfl rfl (by kernel_rfl) rfl rfl (UpdR.there _ (UpdR.app _ (UpdR.here _ _ _ (Nat.le_of_ble_eq_true rfl)))) (fun _ h => by cases h) ?_
    simp only [qz, Nat.reduceAdd]
    refine rg_assign ?_
    simp only [qz]
    refine rg_nil (ek_next (wk_ret ?_))
    refine ek_ret (fun w hw => ⟨rfl, _, run_results2 rfl rfl (Kn.hd0 (Kn.tlU (Kn.tl hw))) Try.underlying38 rfl (by kernel_rfl), ?_⟩)
    (try simp only [qz])
    obtain rfl : i = xs.length := by omega
    rw [hd2.out]
    exact ⟨_, u, rfl, hd3, hw.made (List.Sublist.cons _ (List.sublist_append_left _ _))⟩
  (try simp only [qd, ne_eq] at h1)
  simp only [qz]
  refine rg_nil (ek_next (wk_seq (wk_cond_t rfl (wk_skip (ek_next (wk_seq (wk_block (wk_seq ?_))))))))
  obtain ⟨b, off, rfl, hlt, hcell⟩ := AS.openT hA (by omega)
  obtain ⟨x, hx⟩ : ∃ x, it xs i = x := ⟨_, rfl⟩
  have hit := hcell i (by omega)
  have hfx := hfit i (by omega)
  rw [hx] at hit hfx
  have hfo := fit_own hfx
  replace hx := Lib.hid hx
  refine wk_region [0, 0, 1, 1] rfl (by kernel_rfl) ?_
  simp only [qy]
  refine rf_indexS (n := i) (sz := 4) (j := off + i * 4) rfl rfl rfl rfl Try.underlying32 (by kernel_rfl) (by omega) (by omega) rfl ?_
  simp only [qz]
  refine rf_loadC (n := 4) (vs := itC x) rfl rfl rfl Try.underlying80 rfl (by kernel_rfl) rfl (fun w hw => itAt_range (hit.kn hw hlt (by simp))) ?_
  simp only [qz]
  refine rg_new (cs := ?_) (ty := ?_) (by rfl) (fun w => ?_) (fun _ h => by cases h) (fun g4 => ?_); rotate_left 2
  focus (go_simp; rfl)
  simp only [qz]
  refine rf_storeR (n := 4) rfl rfl (by kernel_rfl) rfl rfl (UpdR.here _ _ _ (Nat.le_of_ble_eq_true rfl)) (fun _ h => by cases h) ?_
  simp only [qz, Nat.reduceAdd]
  refine rg_nil (ek_next (wk_seq (wk_seq ?_)))
  refine wk_region [0, 0] rfl (by kernel_rfl) ?_
  simp only [qy]
  refine rg_move ?_
  simp only [qz]
  refine rfb_neq rfl rfl rfl rfl ?_
  intro x h2
  cases x
  · (try simp only [qd, ne_eq] at h2)
    simp only [qz]
    obtain ⟨l, hr⟩ := rC_ok (fun c h => matS_code (hd2.out.trans h)) (by simpa using h2)
    subst hr
    clear h2
    have hll := matS_len hN1 hN6 hd2.out
    have hil := itL_len hN1 hN6 x
    have hN36 := Nat.mul_le_mul hN6 hN6
    simp only [rN, rL, rC] at hd3 ⊢
    refine rg_nil (ek_next (wk_cond_f rfl (wk_skip (ek_next (wk_seq ?_)))))
    refine wk_region [0, 0, 0, 0, 0, 0, 0, 1, 1, 0] rfl (by kernel_rfl) ?_
    simp only [qy]
    refine rg_move ?_
    simp only [qz]
    refine rf_field (n := 0) (j := 3) rfl rfl rfl Try.underlying80 rfl (by kernel_rfl) rfl ?_
    simp only [qz]
    refine rf_load rfl rfl rfl Try.underlying9 rfl (fun w hw => (Kn.hd0 hw).at rfl) ?_
    simp only [qz]
    refine rf_lookM rfl rfl rfl rfl ?_
    simp only [qz]
    refine rg_move ?_
    simp only [qz]
    refine rf_extract rfl rfl rfl rfl ?_
    simp only [qz]
    refine rf_extract rfl rfl rfl rfl ?_
    simp only [qz]
    refine rg_new (cs := ?_) (ty := ?_) (by rfl) (fun w => ?_) (fun _ h => by cases h) (fun g5 => ?_); rotate_left 2
    focus (go_simp; rfl)
    simp only [qz]
    refine rf_storeR (n := 2) rfl rfl (by kernel_rfl) rfl rfl (UpdR.here _ _ _ (Nat.le_of_ble_eq_true rfl)) (fun _ h => by cases h) ?_
    simp only [qz, Nat.reduceAdd]
    refine rg_assign ?_
    simp only [qz]
    refine rg_nil (ek_next (wk_seq (wk_seq ?_)))
    refine wk_region [0, 0] rfl (by kernel_rfl) ?_
    simp only [qy]
    refine rg_move ?_
    simp only [qz]
    refine rf_not rfl rfl rfl ?_
    simp only [qz]
    refine rg_nil (ek_next (wk_cond_t rfl ?_))
    refine wk_region [0, 1, 1] rfl (by kernel_rfl) ?_
    simp only [qy]
    refine rf_loadR (n := 4) rfl rfl rfl Try.underlying80 rfl (by kernel_rfl) (fun w hw => Kn.hd0 (Kn.tl hw)) rfl rfl ?_
    simp only [qz]
    apply rg_retM1 (by rfl) (by kernel_rfl)
    case hargs => (simp only [qm, qs, Act.eval]; exact rfl)
    case h => exact fun w hw => own_any x w
    case hz => exact (fun _ h => by cases h)
    intro va6 vc6 u6 hO6
    simp only [qz]
    refine rf_storeR (n := 2) rfl rfl (by kernel_rfl) rfl rfl (UpdR.app _ (UpdR.here _ _ _ (Nat.le_of_ble_eq_true rfl))) (fun _ h => by cases h) ?_
    simp only [qz, Nat.reduceAdd]
    refine rg_nil (ek_next ?_)
    refine wk_draws_m (hz1 := (List.Sublist.append_left (sc _ (sc _ (sk _ (List.Sublist.append_left (sc _ sn) _)))) _)) [(0, 0), (1, 0), (2, 0), (3, 0), (5, 0), (4, 1), (6, 1), (7, 0), (8, 0), (9, 3), (10, 2), (11, 0)] 10 (by kernel_rfl) (by kernel_rfl) (fun c d v a w h => by cases d <;> exact h) ?_
    simp only [List.map_cons, List.map_nil, List.getD_cons_zero, List.getD_cons_succ]
    refine rg_move ?_
    simp only [qz]
    refine rf_field (n := 0) (j := 1) rfl rfl rfl Try.underlying80 rfl (by kernel_rfl) rfl ?_
    simp only [qz]
    refine rf_load rfl rfl rfl Try.underlying3 rfl (fun w hw => (Kn.hd0 (Kn.tl (Kn.tlU hw))).at rfl) ?_
    simp only [qz]
    refine rf_loadR (n := 2) rfl rfl rfl Try.underlying38 rfl (by kernel_rfl) (fun w hw => Kn.hd0 (Kn.tlU hw)) rfl rfl ?_
    simp only [qz]
    refine rf_loadR (n := 2) rfl rfl rfl Try.underlying38 rfl (by kernel_rfl) (fun w hw => Kn.hd0 (Kn.tl (Kn.tl (Kn.tlU hw)))) rfl rfl ?_
    simp only [qz]
    apply (rg_retM1 (n := (N : Int)) (zs := itL N x)) (by rfl) (by kernel_rfl)
    case hargs => (simp only [qm, qs, Act.eval]; exact rfl)
    case h => exact fun w hw => mplaced_int N (x.at_ - 1).toNat (ownN x) x.at_ (ownL x) va6 vc6 hfo.2.2.2.2 hN1 hN6 hfo.2.2.1 hfo.2.1 (Lib.hid (ownL_len x)) w (hO6.asM (hw.perm (List.Perm.refl _)))
    case hz => exact (fun _ h => by cases h; exact (List.Sublist.append_left (sc _ (sc _ (sc _ (List.Sublist.append_left (sc _ sn) _)))) _))
    intro va7 vc7 u7 hO7
    simp only [qz]
    apply (rg_retM (n := rN N (mulM N N (itL N x) l)) (zs := rL (mulM N N (itL N x) l)) (c := rC (mulM N N (itL N x) l))) (by rfl) (by kernel_rfl)
    case hargs => (simp only [qm, qs, Act.eval]; exact rfl)
    case h => exact fun w hw => by have := mul_any N N (itL N x) l va7 va vc7 vc (by omega) (by omega) w (hO7.asM (hw.perm (List.Perm.refl _))) (hd3.asM (hw.perm ((((((((((((List.Perm.refl _).cons _).trans (List.perm_middle (l₁ := u)).symm).cons _).trans (List.perm_middle (l₁ := u)).symm).cons _).trans (List.perm_middle (l₁ := u)).symm).append_left _).trans (List.perm_append_comm_assoc u6 u _)).append_left _).trans (List.perm_append_comm_assoc u7 u _)).trans ((List.Perm.refl _).append_left _)))); rw [Int.toNat_natCast] at this; exact this
    case hz => exact (fun _ h => by cases h; exact ((List.Sublist.append_left (sc _ (sc _ (sc _ (List.Sublist.append_left (sc _ sn) _)))) _).trans (List.sublist_append_right _ _)))
    intro va8 vc8 u8 hO8
    simp only [qz]
    refine rg_move ?_
    simp only [qz]
    refine rf_extract rfl rfl rfl rfl ?_
    simp only [qz]
    refine rf_extract rfl rfl rfl rfl ?_
    simp only [qz]
    refine rf_storeRM (n := 2) rfl rfl (by kernel_rfl) rfl rfl (UpdR.app _ (UpdR.app _ (UpdR.app _ (UpdR.there _ (UpdR.there _ (UpdR.here _ _ _ (Nat.le_of_ble_eq_true rfl))))))) (((List.Sublist.append_left (sc _ (sc _ (sk _ (List.Sublist.append_left (sc _ sn) _)))) _).trans (List.sublist_append_right _ _)).trans (List.sublist_append_right _ _)) ?_
    simp only [qz, Nat.reduceAdd]
    refine rg_assign ?_
    simp only [qz]
    refine rg_nil (ek_block (ek_next ?_))
    refine wk_region [0, 0] rfl (by kernel_rfl) ?_
    simp only [qy]
    refine rf_add rfl rfl rfl rfl (wrap_ok (by omega) (by omega)) ?_
    simp only [qz]
    refine rg_move ?_
    simp only [qz]
    refine rg_nil ?_
    refine ek_sub (List.Sublist.append_left (((sk _ (sk _ (sc _ ((sc _ sn).trans (List.sublist_append_right _ _))))).trans (List.sublist_append_right _ _)).trans (List.sublist_append_right _ _)) _) ?_
    refine ek_perm ((((List.Perm.refl _).append_left _).trans (List.perm_middle (l₁ := u8))).trans ((List.Perm.refl _).cons _)) ?_
    refine ek_roundF (xs.length - (i + 1)) (by omega) (by kernel_rfl) ?_
    exact ⟨i + 1, mulM N N (itL N x) l, va8, vc8, u8, rfl, rfl, by rfl, by rfl, (by omega), (Lib.hid (by rw [matS, hd2.out, hx.out])), hO8⟩
  (try simp only [qd, ne_eq] at h2)
  simp only [qz]
  refine rg_nil (ek_next (wk_cond_t rfl (wk_seq ?_)))
  refine wk_region [0, 0, 1, 0] rfl (by kernel_rfl) ?_
  simp only [qy]
  refine rf_build (cs := fun a => #[.int .i64 0, .slice none 0 0]) rfl rfl (by kernel_rfl) ?_
  simp only [qz]
  refine rg_move ?_
  simp only [qz]
  refine rf_storeR (n := 2) rfl rfl (by kernel_rfl) rfl rfl (UpdR.there _ (UpdR.there _ (UpdR.app _ (UpdR.here _ _ _ (Nat.le_of_ble_eq_true rfl))))) (fun _ h => by cases h) ?_
  simp only [qz, Nat.reduceAdd]
  refine rg_assign ?_
  simp only [qz]
  refine rg_nil (ek_next (wk_ret (ek_then_ret (ek_block_ret (ek_then_ret (ek_then_ret (ek_block_ret (ek_then_ret ?_))))))))
  refine ek_ret (fun w hw => ⟨rfl, _, run_results2 rfl rfl (Kn.hd0 (Kn.tlU (Kn.tl (Kn.tl hw)))) Try.underlying38 rfl (by kernel_rfl), ?_⟩)
  (try simp only [qz])
  cases r with
  | ok l => exact absurd rfl h2
  | error cc =>
    rw [matS_err hd2.out xs.length (by omega)]
    exact ⟨.slice none 0 0, [], rfl, OwnG.nil, .nil hw.below⟩

set_option maxRecDepth 100000 in
set_option maxHeartbeats 1000000 in
theorem matrixOf_any (n : Int) (xs : List It) (a : Option Addr) (c : Nat) (w : World) (hA : AS w a (its xs)) : Calls Try.prog 37 #[.int .i64 n, .slice a xs.length c] w fun e w' => RetM w (rN n.toNat (matO n xs)) (rL (matO n xs)) (rC (matO n xs)) e w' := by
  go_enter Try.func37, Try.ntmps37
  refine wk_start ?_
  refine wk_seq ?_
  refine wk_region [1, 0] rfl (by kernel_rfl) ?_
  simp only [qy]
  refine rg_new (cs := ?_) (ty := ?_) (by rfl) (fun w => ?_) (fun _ h => by cases h) (fun g1 => ?_); rotate_left 2
  focus (go_simp; rfl)
  simp only [qz]
  refine rg_assign ?_
  simp only [qz]
  refine rg_nil (ek_next (wk_seq (wk_seq ?_)))
  refine wk_region [0, 0, 1, 0] rfl (by kernel_rfl) ?_
  simp only [qy]
  refine rg_move ?_
  simp only [qz]
  refine rg_move ?_
  simp only [qz]
  apply rg_pure (by rfl) (by kernel_rfl)
  case hargs => (simp only [qm, qs, Act.eval]; exact rfl)
  case h => exact fun w hw => mcheck_any n xs a c w (hA.kn0 hw)
  case hz => exact (fun _ h => by cases h)
  simp only [qz]
  refine rg_assign ?_
  simp only [qz]
  refine rg_nil (ek_next (wk_seq ?_))
  refine wk_region [0, 0] rfl (by kernel_rfl) ?_
  simp only [qy]
  refine rg_move ?_
  simp only [qz]
  refine rfb_neq rfl rfl rfl rfl ?_
  intro x h1
  cases x
  · (try simp only [qd, ne_eq] at h1)
    simp only [qz]
    have hie : itemE n xs = 0 := by simpa using h1
    refine rg_nil (ek_next (wk_cond_f rfl (wk_skip (ek_next (wk_seq ?_)))))
    refine wk_region [0, 0, 1, 0, 0, 1, 0] rfl (by kernel_rfl) ?_
    simp only [qy]
    refine rg_move ?_
    simp only [qz]
    refine rg_move ?_
    simp only [qz]
    obtain ⟨hn1, hn6, hl5, hft⟩ := validB_all (n := n) (xs := xs) (itemE_zero hie)
    obtain ⟨N, rfl⟩ : ∃ N : Nat, n = N := ⟨n.toNat, by omega⟩
    have hmo : matO (N : Int) xs = matS N xs xs.length := by (unfold matO; rw [if_pos hie, Int.toNat_natCast])
    replace hmo := Lib.hid hmo
    apply rg_retM (by rfl) (by kernel_rfl)
    case hargs => (simp only [qm, qs, Act.eval]; exact rfl)
    case h => exact fun w hw => made_items N xs a c (by omega) (by omega) hl5 hft w (hA.kn0 hw)
    case hz => exact (fun _ h => by cases h)
    intro va2 vc2 u2 hO2
    simp only [qz]
    refine rf_extract rfl rfl rfl rfl ?_
    simp only [qz]
    refine rf_extract rfl rfl rfl rfl ?_
    simp only [qz]
    refine rf_storeR (n := 2) rfl rfl (by kernel_rfl) rfl rfl (UpdR.app _ (UpdR.here _ _ _ (Nat.le_of_ble_eq_true rfl))) (fun _ h => by cases h) ?_
    simp only [qz, Nat.reduceAdd]
    refine rg_assign ?_
    simp only [qz]
    refine rg_nil (ek_next (wk_ret ?_))
    refine ek_ret (fun w hw => ⟨rfl, _, run_results2 rfl rfl (Kn.hd0 (Kn.tlU hw)) Try.underlying38 rfl (by kernel_rfl), ?_⟩)
    (try simp only [qz])
    rw [hmo.out, Int.toNat_natCast]
    exact ⟨_, u2, rfl, hO2, hw.made (List.sublist_append_left _ _)⟩
  (try simp only [qd, ne_eq] at h1)
  simp only [qz]
  have hie : itemE n xs ≠ 0 := by simpa using h1
  refine rg_nil (ek_next (wk_cond_t rfl (wk_seq ?_)))
  refine wk_region [0, 0, 1, 0] rfl (by kernel_rfl) ?_
  simp only [qy]
  refine rf_build (cs := fun a => #[.int .i64 0, .slice none 0 0]) rfl rfl (by kernel_rfl) ?_
  simp only [qz]
  refine rg_move ?_
  simp only [qz]
  refine rf_storeR (n := 2) rfl rfl (by kernel_rfl) rfl rfl (UpdR.here _ _ _ (Nat.le_of_ble_eq_true rfl)) (fun _ h => by cases h) ?_
  simp only [qz, Nat.reduceAdd]
  refine rg_assign ?_
  simp only [qz]
  refine rg_nil (ek_next (wk_ret (ek_then_ret ?_)))
  refine ek_ret (fun w hw => ⟨rfl, _, run_results2 rfl rfl (Kn.hd0 hw) Try.underlying38 rfl (by kernel_rfl), ?_⟩)
  (try simp only [qz])
  have hmo : matO n xs = .error (itemE n xs) := by (unfold matO; rw [if_neg hie])
  rw [hmo]
  exact ⟨.slice none 0 0, [], rfl, OwnG.nil, .nil hw.below⟩

end Go.Proofs.Ytccbinnlnkpplaa
namespace Go.Proofs.Ytccbinnlnkpplaa
set_option linter.all false
open Go.RowKit

/-- The items of a switch. -/
def cplI (at_ : Int) : It := ⟨2, at_, 0, ⟨#[]⟩⟩
def phsI (at_ n : Int) : It := ⟨1, at_, n, ⟨#[]⟩⟩
def swI (at_ n : Int) : List It := if n = 0 then [cplI at_, cplI at_] else [cplI at_, phsI at_ n, cplI at_]
def swOk (at_ n : Int) : Bool := decide (1 ≤ at_ ∧ at_ ≤ 5 ∧ 0 ≤ n ∧ n ≤ 7)
def swL (at_ n : Int) : List It := if swOk at_ n then swI at_ n else []
def swE (at_ n : Int) : Int := if swOk at_ n then 0 else 2
theorem sw_yes {at_ n : Int} (h : 1 ≤ at_ ∧ at_ ≤ 5 ∧ 0 ≤ n ∧ n ≤ 7) : swL at_ n = swI at_ n ∧ swE at_ n = 0 := by
  have : swOk at_ n = true := decide_eq_true h
  unfold swL swE; rw [this]; exact ⟨rfl, rfl⟩
theorem sw_no {at_ n : Int} (h : ¬ (1 ≤ at_ ∧ at_ ≤ 5 ∧ 0 ≤ n ∧ n ≤ 7)) : swL at_ n = [] ∧ swE at_ n = 2 := by
  have : swOk at_ n = false := decide_eq_false h
  unfold swL swE; rw [this]; exact ⟨rfl, rfl⟩
/-- A list of items and an error. -/
def RetS (w : World) (L : List It) (cc : Int) (e : Ending) (w' : World) : Prop := ∃ v u, e = .returned (.tuple #[v, .int .i64 cc]) ∧ OwnT u v L ∧ Made w u w'
theorem OwnT.wholeI {g : Nat} {L : List It} (h : L.length ≤ 1000000) : OwnT [(g, .cells (its L).toArray 80)] (.slice (some ⟨g, 0, none⟩) L.length L.length) L :=
  Own.whole (cur := (its L).toArray) (by simpa using its_len L) (by simp only [maxLen]; omega)
theorem OwnT.asT {B w : World} {F : List Nat} {u s : List Blk} {a : Option Addr} {n c : Nat} {xs : List It} (h : OwnT u (.slice a n c) xs) (K : Kn B F (u ++ s) w) : AS w a (its xs) := by
  obtain ⟨a', c', e, h'⟩ := Own.as h K
  cases e
  exact h'
section
variable {R : Option Nat} {ops : Array Oper} {Q : Exit → Act → World → Prop} {B : World} {F : List Nat} {s0 : Option (List Blk × List Blk)}
variable {l : List (Oper × Nat)} {a : Act} {s S : List Blk} {d : Option Tmp} {op : Op} {t : TypeId} {p : String} {af : Array Edge} {v : Value}
theorem rg_retS {f : Nat} {cargs : Array Operand} {at_ : Array TypeId} {args : Array Value} {L : List It} {cc : Int} {P : Program} {gd : Option (Nat × Bool)} (hg : Region.wanted ⟨d, .call ⟨.value (.func f), cargs, at_⟩, t, p, af, gd⟩ (yielded ops a.tmps) = true) (hgo : isGo P f = true)
    (h : ∀ w, Kn B F s w → Calls P f args w (RetS w L cc)) (hargs : cargs.map a.eval = args)
    (hz : ∀ z ∈ s0, z.1.Sublist s) (k : ∀ (va : Option Addr) (vc : Nat) (u : List Blk), OwnT u (.slice va L.length vc) L → Rg R P ops Q B F s0 l (a.put d (.tuple #[.slice va L.length vc, .int .i64 cc])) (u ++ s)) :
    Rg R P ops Q B F s0 ((⟨d, .call ⟨.value (.func f), cargs, at_⟩, t, p, af, gd⟩, 1) :: l) a s :=
  rg_call hg hgo hargs fun w K => (h w K).mono fun e w' ⟨v, u, he, hO, hm⟩ => by
    obtain ⟨a', c', rfl, -⟩ := Own.val hO
    exact ⟨_, u ++ s, he, K.add hm, fun z hz' => (hz z hz').trans (List.sublist_append_right _ _), k a' c' u hO⟩
end
set_option maxRecDepth 100000 in
set_option maxHeartbeats 1000000 in
theorem mswitch_any (k n : Int) (w : World) : Calls Try.prog 25 #[.int .i64 k, .int .i64 n] w fun e w' => RetS w (swL k n) (swE k n) e w' := by
  go_enter Try.func25, Try.ntmps25
  refine wk_start ?_
  refine wk_seq ?_
  refine wk_region [0, 0] rfl Kx ?_
  simp only [qy]
  refine rg_assign ?_
  simp only [qz]
  refine rg_assign ?_
  simp only [qz]
  refine rg_nil (ek_next (wk_seq (wk_seq ?_)))
  refine wk_region [0, 1, 0, 0, 0, 1, 0, 0] rfl Kx ?_
  simp only [qy]
  refine rg_move ?_
  simp only [qz]
  apply rg_pureb Rx Kx
  case hargs => exact Ax
  case h => exact fun w hw => between_any 1 k 5 w
  case hz => exact Nz
  intro x h1
  cases x
  · (try simp only [qd, ne_eq] at h1)
    simp only [qz]
    have hb8 := betB_false h1
    clear h1
    refine rf_not rfl rfl rfl ?_
    simp only [qz]
    refine rg_move ?_
    simp only [qz]
    refine rg_skip Rx ?_
    simp only [qz]
    refine rg_skip_h Rx Nz ?_
    simp only [qz]
    refine rg_skip Rx ?_
    simp only [qz]
    refine rf_pick rfl rfl rfl ?_
    simp only [qz]
    refine rg_nil (ek_next (wk_cond_t rfl (wk_seq ?_)))
    refine wk_region [0, 0] rfl Kx ?_
    simp only [qy]
    refine rg_assign ?_
    simp only [qz]
    refine rg_assign ?_
    simp only [qz]
    refine rg_nil (ek_next (wk_ret (ek_then_ret ?_)))
    refine ek_ret (fun w hw => ⟨rfl, _, res_tt _ _ rfl, ?_⟩)
    (try simp only [qz])
    obtain ⟨e1, e2⟩ := sw_no (at_ := k) (n := n) Ox
    rw [e1, e2]
    exact ⟨.slice none 0 0, [], rfl, OwnT.nil, .nil hw.below⟩
  (try simp only [qd, ne_eq] at h1)
  simp only [qz]
  have hb8 := betB_true h1
  clear h1
  refine rf_not rfl rfl rfl ?_
  simp only [qz]
  refine rg_move ?_
  simp only [qz]
  apply rg_soft_g
  case hg => rfl
  case hy => (intro w hw; go_simp; (try go_bits); exact Yld.mk _ _)
  simp only [qz]
  apply rg_pureb Rx Kx
  case hargs => exact Ax
  case h => exact fun w hw => between_any 0 n 7 w
  case hz => exact Nz
  intro x h2
  cases x
  · (try simp only [qd, ne_eq] at h2)
    simp only [qz]
    have hb12 := betB_false h2
    clear h2
    refine rf_not rfl rfl rfl ?_
    simp only [qz]
    refine rf_pick rfl rfl rfl ?_
    simp only [qz]
    refine rg_nil (ek_next (wk_cond_t rfl (wk_seq ?_)))
    refine wk_region [0, 0] rfl Kx ?_
    simp only [qy]
    refine rg_assign ?_
    simp only [qz]
    refine rg_assign ?_
    simp only [qz]
    refine rg_nil (ek_next (wk_ret (ek_then_ret ?_)))
    refine ek_ret (fun w hw => ⟨rfl, _, res_tt _ _ rfl, ?_⟩)
    (try simp only [qz])
    obtain ⟨e1, e2⟩ := sw_no (at_ := k) (n := n) Ox
    rw [e1, e2]
    exact ⟨.slice none 0 0, [], rfl, OwnT.nil, .nil hw.below⟩
  (try simp only [qd, ne_eq] at h2)
  simp only [qz]
  have hb12 := betB_true h2
  clear h2
  refine rf_not rfl rfl rfl ?_
  simp only [qz]
  refine rf_pick rfl rfl rfl ?_
  simp only [qz]
  refine rg_nil (ek_next (wk_cond_f rfl (wk_skip (ek_next (wk_seq ?_)))))
  refine wk_region [0, 0, 1, 1] rfl Kx ?_
  simp only [qy]
  refine rg_move ?_
  simp only [qz]
  refine rf_build (cs := fun a => #[a.eval (.const (.int .i64 2)), a.eval (.tmp 15), .int .i64 0, .string ⟨#[]⟩]) rfl rfl Kx ?_
  simp only [qz]
  refine Rgn fun g1 => ?_
  simp only [qz]
  refine rf_storeR (n := 4) rfl rfl Kx rfl rfl (UpdR.here _ _ _ Nl) Nz ?_
  simp only [qz, Nat.reduceAdd]
  refine rg_nil (ek_next (wk_seq (wk_seq ?_)))
  refine wk_region [0, 0] rfl Kx ?_
  simp only [qy]
  refine rg_move ?_
  simp only [qz]
  refine rfb_eql rfl rfl rfl rfl ?_
  intro x h3
  cases x
  · (try simp only [qd, ne_eq] at h3)
    simp only [qz]
    refine rg_nil (ek_next (wk_cond_f rfl (wk_skip (ek_next (wk_seq ?_)))))
    refine wk_region [0, 0, 0, 0, 0, 1, 0, 0] rfl Kx ?_
    simp only [qy]
    refine rf_loadR (n := 4) rfl rfl rfl Try.underlying80 rfl Kx (fun w hw => Kn.hd0 hw) rfl rfl ?_
    simp only [qz]
    refine rg_move ?_
    simp only [qz]
    refine rg_move ?_
    simp only [qz]
    refine rf_build (cs := fun a => #[a.eval (.const (.int .i64 1)), a.eval (.tmp 23), a.eval (.tmp 24), .string ⟨#[]⟩]) rfl rfl Kx ?_
    simp only [qz]
    refine rf_loadR (n := 4) rfl rfl rfl Try.underlying80 rfl Kx (fun w hw => Kn.hd0 hw) rfl rfl ?_
    simp only [qz]
    refine rg_newS (cs := ?_) (ty := ?_) (n := 3) (c := 3) Rx (fun w => ?_) Nz (fun g2 => ?_); rotate_left 2
    focus (go_simp; rfl)
    simp only [qz]
    refine rg_assign ?_
    simp only [qz]
    refine rg_assign ?_
    simp only [qz]
    refine rg_nil (ek_next (wk_ret ?_))
    refine ek_ret (fun w hw => ⟨rfl, _, res_tt _ _ rfl, ?_⟩)
    (try simp only [qz])
    obtain ⟨e1, e2⟩ := sw_yes (at_ := k) (n := n) Ox
    rw [e1, e2, show swI k n = [cplI k, phsI k n, cplI k] by unfold swI; rw [if_neg Ox]]
    exact ⟨_, _, rfl, OwnT.wholeI (g := g2) (L := [cplI k, phsI k n, cplI k]) (by simp), hw.made (sc _ (sk _ sn))⟩
  (try simp only [qd, ne_eq] at h3)
  simp only [qz]
  refine rg_nil (ek_next (wk_cond_t rfl (wk_seq ?_)))
  refine wk_region [0, 0, 1, 0, 0] rfl Kx ?_
  simp only [qy]
  refine rf_loadR (n := 4) rfl rfl rfl Try.underlying80 rfl Kx (fun w hw => Kn.hd0 hw) rfl rfl ?_
  simp only [qz]
  refine rf_loadR (n := 4) rfl rfl rfl Try.underlying80 rfl Kx (fun w hw => Kn.hd0 hw) rfl rfl ?_
  simp only [qz]
  refine rg_newS (cs := ?_) (ty := ?_) (n := 2) (c := 2) Rx (fun w => ?_) Nz (fun g3 => ?_); rotate_left 2
  focus (go_simp; rfl)
  simp only [qz]
  refine rg_assign ?_
  simp only [qz]
  refine rg_assign ?_
  simp only [qz]
  refine rg_nil (ek_next (wk_ret (ek_then_ret ?_)))
  refine ek_ret (fun w hw => ⟨rfl, _, res_tt _ _ rfl, ?_⟩)
  (try simp only [qz])
  obtain ⟨e1, e2⟩ := sw_yes (at_ := k) (n := n) Ox
  rw [e1, e2, show swI k n = [cplI k, cplI k] by unfold swI; rw [if_pos Ox]]
  exact ⟨_, _, rfl, OwnT.wholeI (g := g3) (L := [cplI k, cplI k]) (by simp), hw.made (sc _ (sk _ sn))⟩

end Go.Proofs.Ytccbinnlnkpplaa
namespace Go.Proofs.Ytccbinnlnkpplaa
set_option linter.all false
open Go.RowKit

set_option maxRecDepth 100000 in
set_option maxHeartbeats 1000000 in
theorem amPower_ok (z : Nm) (hz : z.Ok) (w : World) : Calls Try.prog 69 #[nmV z] w fun e w' => e = .returned (numV z.power) ∧ Below w.heap.size w w' := by
  go_enter Try.func69, Try.ntmps69
  refine wk_start ?_
  refine wk_seq ?_
  refine wk_region [1, 1, 0] rfl Kx ?_
  simp only [qy]
  refine Rgn fun g1 => ?_
  simp only [qz]
  refine Rgn fun g2 => ?_
  simp only [qz]
  refine rg_assign ?_
  simp only [qz]
  refine rg_nil (ek_next (wk_seq (wk_seq ?_)))
  refine wk_region [0, 1, 0] rfl Kx ?_
  simp only [qy]
  refine rf_loadR (n := 5) rfl rfl rfl Try.underlying45 rfl Kx (fun w hw => Kn.hd0 (Kn.tl hw)) rfl rfl ?_
  simp only [qz]
  apply rg_pure Rx Kx
  case hargs => exact Ax
  case h => exact fun w hw => by have := amvalid_any z w; rw [okB_yes hz] at this; exact this
  case hz => exact Nz
  simp only [qz]
  refine rf_not rfl rfl rfl ?_
  simp only [qz]
  refine rg_nil (ek_next (wk_cond_f rfl (wk_skip (ek_next (wk_seq ?_)))))
  refine wk_draws_m (hz1 := (sk _ (sc _ sn))) [(0, 0), (1, 0), (2, 1), (3, 1), (4, 1), (5, 0), (6, 0), (7, 2), (8, 0)] 7 Kx Kx (fun c d v a w h => by cases d <;> exact h) ?_
  simp only [List.map_cons, List.map_nil, List.getD_cons_zero, List.getD_cons_succ]
  refine rf_loadR (n := 5) rfl rfl rfl Try.underlying45 rfl Kx (fun w hw => Kn.hd0 (Kn.tl hw)) rfl rfl ?_
  simp only [qz]
  refine rf_loadR (n := 5) rfl rfl rfl Try.underlying45 rfl Kx (fun w hw => Kn.hd0 (Kn.tl hw)) rfl rfl ?_
  simp only [qz]
  apply rg_pure Rx Kx
  case hargs => exact Ax
  case h => exact fun w hw => amconj_any z (Nm.fit_mono hz.fit Ox) w
  case hz => exact (fun _ h => by cases h; exact (sc _ (sc _ sn)))
  simp only [qz]
  apply rg_pure Rx Kx
  case hargs => exact Ax
  case h => exact fun w hw => ammul_any z z.conj hz (conj_ok hz) w
  case hz => exact (fun _ h => by cases h; exact (sc _ (sc _ sn)))
  simp only [qz]
  apply rg_num Rx Kx
  case hargs => exact Ax
  case h => exact fun w hw => result_any (z.mulR z.conj) (mulR_fit hz.fit (conj_ok hz).fit) (by have := hz.k1; simp only [Nm.mulR, Nm.conj]; omega) w
  case hz => exact (fun _ h => by cases h; exact (sc _ (sc _ sn)))
  case hc => exact (fun c h => mk_err h)
  · intro hr1
    simp only [qz]
    refine rf_extract rfl rfl rfl rfl ?_
    simp only [qz]
    refine rf_extract rfl rfl rfl rfl ?_
    simp only [qz]
    refine rf_storeRM (n := 5) rfl rfl Kx rfl rfl (UpdR.here _ _ _ Nl) (sk _ (sc _ sn)) ?_
    simp only [qz, Nat.reduceAdd]
    refine rg_assign ?_
    simp only [qz]
    refine rg_nil (ek_next (wk_ret ?_))
    refine ek_ret (fun w hw => ⟨rfl, _, run_results2 rfl rfl (Kn.hd0 hw) Try.underlying45 rfl Kx, ?_⟩)
    (try simp only [qz])
    exact ⟨by rw [show z.power = _ from hr1]; rfl, hw.below⟩
  intro z1 hr1
  simp only [qz]
  refine rf_extract rfl rfl rfl rfl ?_
  simp only [qz]
  refine rf_extract rfl rfl rfl rfl ?_
  simp only [qz]
  refine rf_storeRM (n := 5) rfl rfl Kx rfl rfl (UpdR.here _ _ _ Nl) (sk _ (sc _ sn)) ?_
  simp only [qz, Nat.reduceAdd]
  refine rg_assign ?_
  simp only [qz]
  refine rg_nil (ek_next (wk_ret ?_))
  refine ek_ret (fun w hw => ⟨rfl, _, run_results2 rfl rfl (Kn.hd0 hw) Try.underlying45 rfl Kx, ?_⟩)
  (try simp only [qz])
  exact ⟨by rw [show z.power = _ from hr1]; rfl, hw.below⟩

end Go.Proofs.Ytccbinnlnkpplaa
namespace Go.Proofs.Ytccbinnlnkpplaa
set_option linter.all false
open Go.RowKit

set_option maxRecDepth 100000 in
set_option maxHeartbeats 1000000 in
theorem rTurned_any (z : Nm) (n : Nat) (hz : z.Ok) (hn : n ≤ 1000) (w : World) : Calls Try.prog 122 #[nmV z, .int .i64 (n : Int)] w fun e w' => e = .returned (nmV (Nm.turn n z)) ∧ Below w.heap.size w w' := by
  go_enter Try.func122, Try.ntmps122
  refine wk_start ?_
  refine wk_seq ?_
  refine wk_region [1, 1] rfl Kx ?_
  simp only [qy]
  refine Rgn fun g1 => ?_
  simp only [qz]
  refine Rgn fun g2 => ?_
  simp only [qz]
  refine rg_nil (ek_next (wk_seq (wk_seq ?_)))
  refine wk_region [0] rfl Kx ?_
  simp only [qy]
  refine rg_assign ?_
  simp only [qz]
  refine rg_nil (ek_next (wk_block ?_))
  refine wk_loopF [5, 6, 7, 8, 9, 10, 11, 12, 13, 14, 15, 16, 17, 18, 19, 20, 21, 22, 23, 24, 25] (fun mz f s => ∃ (i : Nat) (y : Nm), f 5 = .int .i64 i ∧ s = ((g2, .cells #[.int .i64 0, .int .i64 0, .int .i64 0, .int .i64 0, .int .i64 0] 45) :: ((g1, .cells #[.int .i64 y.a, .int .i64 y.b, .int .i64 y.c, .int .i64 y.d, .int .i64 y.k] 45) :: [])) ∧ mz = n - i ∧ i ≤ n ∧ Hid (Nm.turn i z = y) ∧ y.Ok) ((fun (i : Nat) (y : Nm) => n - i) (0) (z)) ?_ Kx ?_
  · exact ⟨0, z, rfl, rfl, rfl, by omega, (Lib.hid rfl), hz⟩
  rintro mz f1 s ⟨i, y, hs1_5, rfl, hn, hd1, hd2, hd3⟩
  simp only [Act.putF, List.foldl_cons, List.foldl_nil, hs1_5, Act.put, Act.eval, q1, q2, q3, q4, q5, q6, q7, q8, q9, q10, q11, q12, q13, q14, q15, q16, q17, q18, Nat.reduceAdd, Bool.not_true, Bool.not_false]
  clear hs1_5
  refine wk_seq (wk_seq ?_)
  refine wk_region [0, 0, 0] rfl Kx ?_
  simp only [qy]
  refine rg_move ?_
  simp only [qz]
  refine rg_move ?_
  simp only [qz]
  refine rfb_lss rfl rfl rfl rfl ?_
  intro x h1
  cases x
  · (try simp only [qd, ne_eq] at h1)
    simp only [qz]
    refine rg_nil (ek_next (wk_cond_f rfl (wk_exit (ek_then_exit (ek_then_exit (ek_block_exit (ek_next (wk_seq ?_))))))))
    refine wk_region [0, 1] rfl Kx ?_
    simp only [qy]
    refine rf_loadR (n := 5) rfl rfl rfl Try.underlying45 rfl Kx (fun w hw => Kn.hd0 (Kn.tl hw)) rfl rfl ?_
    simp only [qz]
    refine rf_storeR (n := 5) rfl rfl Kx rfl rfl (UpdR.here _ _ _ Nl) Nz ?_
    simp only [qz, Nat.reduceAdd]
    refine rg_nil (ek_next (wk_ret ?_))
    refine ek_ret (fun w hw => ⟨rfl, _, run_results1 rfl rfl (Kn.hd0 hw) Try.underlying45 rfl Kx, ?_⟩)
    (try simp only [qz])
    obtain rfl : i = n := by omega
    exact ⟨by rw [hd2.out], hw.below⟩
  (try simp only [qd, ne_eq] at h1)
  simp only [qz]
  refine rg_nil (ek_next (wk_cond_t rfl (wk_skip (ek_next (wk_seq (wk_block ?_))))))
  have hyr : y.rot.Ok := turn_ok hd3 1
  obtain ⟨fa0, fa1, fb0, fb1, fc0, fc1, fd0, fd1⟩ := hd3.fit
  refine wk_region [0, 0, 0, 0, 0, 0, 0, 0, 0, 0, 0, 0, 0, 0, 0, 1] rfl Kx ?_
  simp only [qy]
  refine rf_field (n := 3) (j := 0) rfl rfl rfl Try.underlying45 rfl Kx rfl ?_
  simp only [qz]
  refine rf_indexA (n := 3) (sz := 1) (j := 3) rfl rfl rfl rfl Try.underlying43 Kx (by decide) rfl ?_
  simp only [qz]
  refine rf_load rfl rfl rfl Try.underlying3 rfl (fun w hw => (Kn.hd0 (Kn.tl hw)).at rfl) ?_
  simp only [qz]
  refine rf_neg rfl rfl rfl (wrap_ok Ox Ox) ?_
  simp only [qz]
  refine rf_field (n := 3) (j := 0) rfl rfl rfl Try.underlying45 rfl Kx rfl ?_
  simp only [qz]
  refine rf_indexA (n := 0) (sz := 1) (j := 0) rfl rfl rfl rfl Try.underlying43 Kx (by decide) rfl ?_
  simp only [qz]
  refine rf_load rfl rfl rfl Try.underlying3 rfl (fun w hw => (Kn.hd0 (Kn.tl hw)).at rfl) ?_
  simp only [qz]
  refine rf_field (n := 3) (j := 0) rfl rfl rfl Try.underlying45 rfl Kx rfl ?_
  simp only [qz]
  refine rf_indexA (n := 1) (sz := 1) (j := 1) rfl rfl rfl rfl Try.underlying43 Kx (by decide) rfl ?_
  simp only [qz]
  refine rf_load rfl rfl rfl Try.underlying3 rfl (fun w hw => (Kn.hd0 (Kn.tl hw)).at rfl) ?_
  simp only [qz]
  refine rf_field (n := 3) (j := 0) rfl rfl rfl Try.underlying45 rfl Kx rfl ?_
  simp only [qz]
  refine rf_indexA (n := 2) (sz := 1) (j := 2) rfl rfl rfl rfl Try.underlying43 Kx (by decide) rfl ?_
  simp only [qz]
  refine rf_load rfl rfl rfl Try.underlying3 rfl (fun w hw => (Kn.hd0 (Kn.tl hw)).at rfl) ?_
  simp only [qz]
  refine rf_build (cs := fun a => #[a.eval (.tmp 14), a.eval (.tmp 17), a.eval (.tmp 20), a.eval (.tmp 23)]) rfl rfl Kx ?_
  simp only [qz]
  refine rf_field (n := 3) (j := 0) rfl rfl rfl Try.underlying45 rfl Kx rfl ?_
  simp only [qz]
  refine rf_storeR (n := 4) rfl rfl Kx rfl rfl (UpdR.there _ (UpdR.here _ _ _ Nl)) Nz ?_
  simp only [qz, Nat.reduceAdd]
  refine rg_nil (ek_block (ek_next ?_))
  refine wk_region [0, 0, 0] rfl Kx ?_
  simp only [qy]
  refine rg_move ?_
  simp only [qz]
  refine rf_add rfl rfl rfl rfl (wrap_ok Ox Ox) ?_
  simp only [qz]
  refine rg_assign ?_
  simp only [qz]
  refine rg_nil ?_
  refine ek_roundF (n - (i + 1)) Ox Kx ?_
  exact ⟨i + 1, y.rot, rfl, by rfl, by rfl, Ox, (Lib.hid (by rw [Nm.turn, hd2.out])), hyr⟩

end Go.Proofs.Ytccbinnlnkpplaa
namespace Go.Proofs.Ytccbinnlnkpplaa
set_option linter.all false
open Go.RowKit

theorem emp : (⟨#[]⟩ : ByteArray).toList.isEmpty = true := by
  unfold ByteArray.toList
  unfold ByteArray.toList.loop
  rfl
theorem wd_c (k : Int) : wd (cplI k) = 2 := by
  unfold wd cplI
  rw [if_neg (by show ¬ (2 : Int) = 1; decide), if_pos (.inl rfl), if_pos ⟨rfl, emp⟩]
theorem wd_p (k n : Int) (h : 1 ≤ n ∧ n ≤ 7) : wd (phsI k n) = 1 := by
  unfold wd phsI
  rw [if_pos rfl, if_pos ⟨h.1, h.2, emp⟩]
theorem fit_c : fitB 2 (cplI 1) = true := fitB_true ⟨by rw [wd_c]; decide, by show (1 : Int) ≤ 1; decide, by rw [wd_c]; show (1 : Int) ≤ _; decide⟩
theorem fit_p {n : Int} (h : 1 ≤ n ∧ n ≤ 7) : fitB 2 (phsI 1 n) = true := fitB_true ⟨by rw [wd_p 1 n h]; decide, by show (1 : Int) ≤ 1; decide, by rw [wd_p 1 n h]; show (1 : Int) ≤ _; decide⟩
theorem sw_item {n : Int} (h : 0 ≤ n ∧ n ≤ 7) : itemE 2 (swI 1 n) = 0 := by
  have hv : validI 2 (swI 1 n) = true := by
    refine validI_true (by decide) (by decide) ?_ ?_
    · unfold swI; split <;> simp
    · unfold swI
      split
      · simp [fit_c]
      · simp [fit_c, fit_p (n := n) Ox]
  unfold itemE
  rw [if_pos (by decide), if_pos hv]
/-- What the document forms: the power of (w^n - 1) / 2. -/
def barX (n : Nat) : Nm := ((Nm.turn n Nm.one).addR ⟨-1, 0, 0, 0, 0⟩).mulR ⟨1, 0, 0, 0, 2⟩
def barW (n : Nat) : Nm := (barX n).mulR (barX n).conj
def fitC (M : Int) (z : Nm) : Bool := decide (-M ≤ z.a) && decide (z.a ≤ M) && (decide (-M ≤ z.b) && decide (z.b ≤ M)) && (decide (-M ≤ z.c) && decide (z.c ≤ M)) && (decide (-M ≤ z.d) && decide (z.d ≤ M))
theorem fitC_fit {M : Int} {z : Nm} (h : fitC M z = true) : z.Fit M := by
  simp only [fitC, Bool.and_eq_true, decide_eq_true_eq] at h
  obtain ⟨⟨⟨⟨h1, h2⟩, h3, h4⟩, h5, h6⟩, h7, h8⟩ := h
  exact ⟨h1, h2, h3, h4, h5, h6, h7, h8⟩
theorem bar_fit : ∀ n, n ≤ 7 → (fitC 10 (Nm.turn n Nm.one) && (fitC 10 ((Nm.turn n Nm.one).addR ⟨-1, 0, 0, 0, 0⟩) && (fitC 10 (barX n) && fitC 1000 (barW n)))) = true ∧ (Nm.turn n Nm.one).k = 0 ∧ ((Nm.turn n Nm.one).addR ⟨-1, 0, 0, 0, 0⟩).k = 0 ∧ (barX n).k = 2 ∧ (barW n).k = 4 := by decide
theorem bar_mat : ∀ n : Nat, n ≤ 7 → ∃ l, matS 2 (swI 1 n) (swI 1 n).length = .ok l ∧ l.length = 4 ∧ (nm l 0).okB = true ∧ (nm l 0).power = .ok (wnum (barW n)).1 := by
  intro n hn
  rcases (by omega : n = 0 ∨ n = 1 ∨ n = 2 ∨ n = 3 ∨ n = 4 ∨ n = 5 ∨ n = 6 ∨ n = 7) with rfl | rfl | rfl | rfl | rfl | rfl | rfl | rfl
  all_goals exact ⟨_, rfl, rfl, rfl, rfl⟩
/-- Bar: the program's and the document's. -/
def barR (n : Int) : NR := if 0 ≤ n ∧ n ≤ 7 then .ok (wnum (barW n.toNat)).1 else .error 2
theorem swE_zero {k n : Int} (h : swE k n = 0) : 1 ≤ k ∧ k ≤ 5 ∧ 0 ≤ n ∧ n ≤ 7 := by
  unfold swE at h
  split at h
  · next hh => exact of_decide_eq_true hh
  cases h
set_option maxRecDepth 100000 in
set_option maxHeartbeats 1000000 in
theorem mbar_any (n : Int) (w : World) : Calls Try.prog 27 #[.int .i64 n] w fun e w' => e = .returned (numV (barR n)) ∧ Below w.heap.size w w' := by
  go_enter Try.func27, Try.ntmps27
  refine wk_start ?_
  refine wk_seq ?_
  refine wk_region [1, 0] rfl Kx ?_
  simp only [qy]
  refine Rgn fun g1 => ?_
  simp only [qz]
  refine rg_assign ?_
  simp only [qz]
  refine rg_nil (ek_next (wk_seq ?_))
  refine wk_region [0, 1, 0, 0, 0, 0, 0] rfl Kx ?_
  simp only [qy]
  refine rg_move ?_
  simp only [qz]
  apply rg_retS Rx Kx
  case hargs => exact Ax
  case h => exact fun w hw => mswitch_any 1 n w
  case hz => exact Nz
  intro va2 vc2 u2 hO2
  simp only [qz]
  refine rg_move ?_
  simp only [qz]
  refine rf_extract rfl rfl rfl rfl ?_
  simp only [qz]
  refine rf_extract rfl rfl rfl rfl ?_
  simp only [qz]
  refine rg_assign ?_
  simp only [qz]
  refine rg_assign ?_
  simp only [qz]
  refine rg_nil (ek_next (wk_seq (wk_seq ?_)))
  refine wk_region [0, 0] rfl Kx ?_
  simp only [qy]
  refine rg_move ?_
  simp only [qz]
  refine rfb_neq rfl rfl rfl rfl ?_
  intro x h1
  cases x
  · (try simp only [qd, ne_eq] at h1)
    simp only [qz]
    have hsz := swE_zero (k := 1) (n := n) (by simpa using h1)
    clear h1
    obtain ⟨m, rfl⟩ : ∃ m : Nat, n = m := ⟨n.toNat, by omega⟩
    refine rg_nil (ek_next (wk_cond_f rfl (wk_skip (ek_next (wk_seq ?_)))))
    refine wk_region [0, 1, 0, 0, 0, 1, 1, 0] rfl Kx ?_
    simp only [qy]
    refine rg_move ?_
    simp only [qz]
    obtain ⟨l, hml, hl4, hok0, hpw⟩ := bar_mat m Ox
    have hmo : matO 2 (swL 1 (m : Int)) = .ok l := by (rw [(sw_yes (at_ := 1) (n := (m : Int)) Ox).1]; unfold matO; rw [if_pos (sw_item Ox)]; exact hml)
    replace hmo := Lib.hid hmo
    replace hml := Lib.hid hml
    replace hpw := Lib.hid hpw
    replace hl4 := Lib.hid hl4
    replace hok0 := okB_iff.1 hok0
    apply (rg_retM (n := 2) (zs := l) (c := 0)) Rx Kx
    case hargs => exact Ax
    case h => exact fun w hw => by have := matrixOf_any 2 (swL 1 (m : Int)) va2 vc2 w (hO2.asT (hw.perm (List.Perm.refl _))); rw [hmo.out] at this; exact this
    case hz => exact Nz
    intro va3 vc3 u3 hO3
    simp only [qz]
    refine rg_move ?_
    simp only [qz]
    refine rf_extract rfl rfl rfl rfl ?_
    simp only [qz]
    refine rf_extract rfl rfl rfl rfl ?_
    simp only [qz]
    refine Rgn fun g4 => ?_
    simp only [qz]
    refine rf_storeR (n := 2) rfl rfl Kx rfl rfl (UpdR.here _ _ _ Nl) Nz ?_
    simp only [qz, Nat.reduceAdd]
    refine rg_assign ?_
    simp only [qz]
    refine rg_nil (ek_next (wk_seq (wk_seq ?_)))
    refine wk_region [0, 0] rfl Kx ?_
    simp only [qy]
    refine rg_move ?_
    simp only [qz]
    refine rf_neq (b := false) rfl rfl rfl rfl (by decide) ?_
    simp only [qz]
    refine rg_nil (ek_next (wk_cond_f rfl (wk_skip (ek_next (wk_seq ?_)))))
    obtain ⟨go, capo, resto, hu, hvo, -, -, -⟩ := hO3.openM (by rw [hl4.out]; decide)
    subst hu
    cases hvo
    simp only [List.cons_append, List.nil_append]
    refine wk_region [0, 0, 0, 0, 1, 0, 0, 1, 0] rfl Kx ?_
    simp only [qy]
    refine rf_field (n := 0) (j := 1) rfl rfl rfl Try.underlying38 rfl Kx rfl ?_
    simp only [qz]
    refine rf_load rfl rfl rfl Try.underlying36 rfl (fun w hw => (Kn.hd0 hw).at rfl) ?_
    simp only [qz]
    refine rf_indexS (n := 0) (sz := 5) (j := 0 + 0 * 5) rfl rfl rfl rfl Try.underlying36 Kx Rx (by rw [hl4.out]; decide) rfl ?_
    simp only [qz]
    refine rf_loadC (n := 5) (vs := nmC (nm l 0)) rfl rfl rfl Try.underlying45 rfl Kx rfl (fun w hw => fl_range (E := NmE) (Kn.hd0 (Kn.tl hw)) (k := 0) (by rw [hl4.out]; decide)) ?_
    simp only [qz]
    apply rg_pure Rx Kx
    case hargs => exact Ax
    case h => exact fun w hw => amPower_ok (nm l 0) hok0 w
    case hz => exact Nz
    rw [hpw.out, show numV (Except.ok (wnum (barW m)).1) = .tuple #[nmV (wnum (barW m)).1, .int .i64 0] from rfl]
    simp only [qz]
    refine rf_extract rfl rfl rfl rfl ?_
    simp only [qz]
    refine rf_extract rfl rfl rfl rfl ?_
    simp only [qz]
    refine rf_storeR (n := 5) rfl rfl Kx rfl rfl (UpdR.there _ (UpdR.there _ (UpdR.app _ (UpdR.here _ _ _ Nl)))) Nz ?_
    simp only [qz, Nat.reduceAdd]
    refine rg_assign ?_
    simp only [qz]
    refine rg_nil (ek_next (wk_ret ?_))
    refine ek_ret (fun w hw => ⟨rfl, _, run_results2 rfl rfl (Kn.hd0 (Kn.tlU (Kn.tl (Kn.tl hw)))) Try.underlying45 rfl Kx, ?_⟩)
    (try simp only [qz])
    exact ⟨by unfold barR; rw [if_pos Ox, Int.toNat_natCast]; rfl, hw.below⟩
  (try simp only [qd, ne_eq] at h1)
  simp only [qz]
  refine rg_nil (ek_next (wk_cond_t rfl (wk_seq ?_)))
  refine wk_region [0, 0, 1, 0] rfl Kx ?_
  simp only [qy]
  refine rf_build (cs := fun a => #[.int .i64 0, .int .i64 0, .int .i64 0, .int .i64 0, .int .i64 0]) rfl rfl Kx ?_
  simp only [qz]
  refine rg_move ?_
  simp only [qz]
  refine rf_storeR (n := 5) rfl rfl Kx rfl rfl (UpdR.app _ (UpdR.here _ _ _ Nl)) Nz ?_
  simp only [qz, Nat.reduceAdd]
  refine rg_assign ?_
  simp only [qz]
  refine rg_nil (ek_next (wk_ret (ek_then_ret ?_)))
  refine ek_ret (fun w hw => ⟨rfl, _, run_results2 rfl rfl (Kn.hd0 (Kn.tlU hw)) Try.underlying45 rfl Kx, ?_⟩)
  (try simp only [qz])
  have hb : ¬ (0 ≤ n ∧ n ≤ 7) := fun hh => h1 (sw_yes (at_ := 1) (n := n) Ox).2
  exact ⟨by unfold barR; rw [if_neg hb, (sw_no (at_ := 1) (n := n) Ox).2]; rfl, hw.below⟩

end Go.Proofs.Ytccbinnlnkpplaa
namespace Go.Proofs.Ytccbinnlnkpplaa
set_option linter.all false

/-! ### Real numbers a + b r, brought to one exponent -/
structure Rl (z : Nm) : Prop where
  c : z.c = 0
  d : z.d = -z.b
theorem Rl.tr {z : Nm} (h : Rl z) : Rl z.tr ∧ z.tr.a = 2 * z.b ∧ z.tr.b = z.a := by
  have h1 := h.c
  have h2 := h.d
  refine ⟨⟨?_, ?_⟩, ?_, ?_⟩ <;> simp only [Nm.tr] <;> omega
theorem Rl.up {z : Nm} (h : Rl z) : ∀ j, Rl (Nm.up j z)
  | 0 => h
  | j + 1 => by rw [Nm.up_succ1]; exact (Rl.up h j).tr.1
theorem Rl.neg {z : Nm} (h : Rl z) : Rl z.neg := ⟨by show -z.c = 0; rw [h.c]; rfl, by show -z.d = - -z.b; rw [h.d]⟩
theorem nn_tr {z : Nm} (h : Rl z) : NN z.tr.b z.tr.a ↔ NN z.b z.a := by
  obtain ⟨_, e1, e2⟩ := h.tr
  rw [e1, e2]
  constructor
  · intro h1
    have h2 := h1.root
    exact NN.unsmul (n := 2) (by decide) (by first | exact h2 | (rw [Int.mul_comm]; exact h2))
  · exact fun h1 => h1.root
theorem nn_raise {z : Nm} (h : Rl z) : ∀ j, NN (Nm.up j z).b (Nm.up j z).a ↔ NN z.b z.a
  | 0 => Iff.rfl
  | j + 1 => by rw [Nm.up_succ1, nn_tr (h.up j)]; exact nn_raise h j
theorem up_sum : ∀ (j : Nat) (x y : Nm), Nm.up j ⟨x.a + y.a, x.b + y.b, x.c + y.c, x.d + y.d, x.k⟩ = ⟨(Nm.up j x).a + (Nm.up j y).a, (Nm.up j x).b + (Nm.up j y).b, (Nm.up j x).c + (Nm.up j y).c, (Nm.up j x).d + (Nm.up j y).d, (Nm.up j x).k⟩
  | 0, x, y => rfl
  | j + 1, x, y => by
    rw [Nm.up_succ1, Nm.up_succ1, Nm.up_succ1, up_sum j x y]
    unfold Nm.tr
    refine Nm.mk.injEq .. ▸ ⟨?_, ?_, ?_, ?_, rfl⟩ <;> dsimp only <;> omega
theorem up_negR : ∀ (j : Nat) (x : Nm), Nm.up j x.neg = (Nm.up j x).neg
  | 0, x => rfl
  | j + 1, x => by
    rw [Nm.up_succ1, Nm.up_succ1, up_negR j x]
    unfold Nm.tr Nm.neg
    refine Nm.mk.injEq .. ▸ ⟨?_, ?_, ?_, ?_, rfl⟩ <;> dsimp only <;> omega
theorem to_to {z : Nm} {m e : Int} (h1 : z.k ≤ m) (h2 : m ≤ e) : (z.to m).to e = z.to e := by
  unfold Nm.to
  rw [Nm.up_add, Nm.up_k]
  congr 1
  omega
theorem addR_to {x y : Nm} {e : Int} (hx : x.k ≤ e) (hy : y.k ≤ e) : ((x.addR y).to e).a = (x.to e).a + (y.to e).a ∧ ((x.addR y).to e).b = (x.to e).b + (y.to e).b := by
  have hk : (x.to (max x.k y.k)).k = max x.k y.k := by unfold Nm.to; rw [Nm.up_k]; omega
  have e1 : x.addR y = ⟨(x.to (max x.k y.k)).a + (y.to (max x.k y.k)).a, (x.to (max x.k y.k)).b + (y.to (max x.k y.k)).b, (x.to (max x.k y.k)).c + (y.to (max x.k y.k)).c, (x.to (max x.k y.k)).d + (y.to (max x.k y.k)).d, (x.to (max x.k y.k)).k⟩ := by
    rw [hk]; rfl
  have e2 : (x.addR y).k = max x.k y.k := rfl
  have e3 : (x.addR y).to e = Nm.up (e - max x.k y.k).toNat (x.addR y) := by unfold Nm.to; rw [e2]
  have hx2 : Nm.up (e - max x.k y.k).toNat (x.to (max x.k y.k)) = x.to e := by
    rw [← to_to (z := x) (m := max x.k y.k) (e := e) (by omega) (by omega)]
    conv => rhs; unfold Nm.to
    rw [show (Nm.up (max x.k y.k - x.k).toNat x).k = max x.k y.k from hk]; rfl
  have hky : (y.to (max x.k y.k)).k = max x.k y.k := by unfold Nm.to; rw [Nm.up_k]; omega
  have hy2 : Nm.up (e - max x.k y.k).toNat (y.to (max x.k y.k)) = y.to e := by
    rw [← to_to (z := y) (m := max x.k y.k) (e := e) (by omega) (by omega)]
    conv => rhs; unfold Nm.to
    rw [show (Nm.up (max x.k y.k - y.k).toNat y).k = max x.k y.k from hky]; rfl
  rw [e3, e1, up_sum, hx2, hy2]
  exact ⟨rfl, rfl⟩
theorem neg_to (z : Nm) (e : Int) : (z.neg.to e).a = -(z.to e).a ∧ (z.neg.to e).b = -(z.to e).b := by
  have : z.neg.to e = (z.to e).neg := up_negR _ z
  rw [this]
  exact ⟨rfl, rfl⟩
theorem Rl.to {z : Nm} (h : Rl z) (e : Int) : Rl (z.to e) := h.up _
theorem Rl.addR {x y : Nm} (hx : Rl x) (hy : Rl y) : Rl (x.addR y) := by
  have h1 := hx.to (max x.k y.k)
  have h2 := hy.to (max x.k y.k)
  exact ⟨by show _ + _ = (0 : Int); rw [h1.c, h2.c]; rfl, by show _ + _ = -(_ + _); rw [h1.d, h2.d]; omega⟩
/-- Whether a difference is at least 0, at the exponent e. -/
theorem nn_diff {x y : Nm} (hx : Rl x) (hy : Rl y) {e : Int} (kx : x.k ≤ e) (ky : y.k ≤ e) : NN (x.addR y.neg).b (x.addR y.neg).a ↔ NN ((x.to e).b - (y.to e).b) ((x.to e).a - (y.to e).a) := by
  have hR := hx.addR hy.neg
  have h1 := nn_raise hR (e - (x.addR y.neg).k).toNat
  have h2 := addR_to (x := x) (y := y.neg) (e := e) kx ky
  obtain ⟨n1, n2⟩ := neg_to y e
  rw [n1, n2] at h2
  have h3 : Nm.up (e - (x.addR y.neg).k).toNat (x.addR y.neg) = (x.addR y.neg).to e := rfl
  rw [h3, h2.1, h2.2] at h1
  rw [← h1]
  rfl
/-! ### Signs -/
theorem sgn_rng (p q : Int) : -1 ≤ sgnR p q ∧ sgnR p q ≤ 1 := by
  unfold sgnR
  split
  · omega
  · split
    · omega
    · split <;> split <;> omega
theorem sgn_lt {p q : Int} : sgnR p q < 0 ↔ ¬ NN q p := by rw [← sgnR_ge]; omega
theorem sgn_neg (p q : Int) : sgnR (-p) (-q) = -sgnR p q := by
  have e1 : -p * -p = p * p := by grind
  have e2 : -q * -q = q * q := by grind
  have hi : p * p = 2 * (q * q) → q = 0 := irr
  unfold sgnR
  rw [e1, e2]
  by_cases a : 0 ≤ p ∧ 0 ≤ q
  · rw [if_pos a]
    by_cases b : 0 ≤ -p ∧ 0 ≤ -q
    · rw [if_pos b]; omega
    · rw [if_neg b, if_pos (by omega)]; omega
  · rw [if_neg a]
    by_cases b : p ≤ 0 ∧ q ≤ 0
    · rw [if_pos b, if_pos (by omega)]; omega
    · rw [if_neg b, if_neg (by omega), if_neg (by omega)]
      by_cases c : 0 < p
      · rw [if_pos c, if_neg (by omega)]
        split <;> rfl
      · rw [if_neg c, if_pos (by omega)]
        split <;> rfl
theorem sgn_le0 {p q : Int} : sgnR p q ≤ 0 ↔ NN (-q) (-p) := by
  rw [← sgnR_ge, sgn_neg]; omega
/-! ### Which of two is nearer -/
/-- x + y r as a pair; at least 0. -/
def G (x : Int × Int) : Prop := NN x.2 x.1
def dS (x y : Int × Int) : Int × Int := (x.1 - y.1, x.2 - y.2)
def dA (x y : Int × Int) : Int × Int := (x.1 + y.1, x.2 + y.2)
theorem G.add {x y : Int × Int} (h : G x) (k : G y) : G (dA x y) := NN.add h k
theorem G.total (x : Int × Int) : G x ∨ G (-x.1, -x.2) := NN.total _ _
theorem G.half {x : Int × Int} (h : G (2 * x.1, 2 * x.2)) : G x := NN.unsmul (n := 2) (by decide) h
open Classical in
/-- A distance. -/
noncomputable def dst (p b : Int × Int) : Int × Int := if G (dS p b) then dS p b else dS b p
theorem dst_cmp {p x y : Int × Int} (h1 : G (dS y x)) (h2 : ¬ G (dS x y)) : (¬ G (dS (dst p y) (dst p x))) ↔ ¬ G (dS (dA x y) (dA p p)) := by
  obtain ⟨p0, p1⟩ := p
  obtain ⟨x0, x1⟩ := x
  obtain ⟨y0, y1⟩ := y
  unfold dst
  by_cases hy : G (dS (p0, p1) (y0, y1))
  · -- p lies beyond both
    have hx : G (dS (p0, p1) (x0, x1)) := by
      have := hy.add h1
      have e : dA (dS (p0, p1) (y0, y1)) (dS (y0, y1) (x0, x1)) = dS (p0, p1) (x0, x1) := by simp only [dA, dS, Prod.mk.injEq]; omega
      rwa [e] at this
    rw [if_pos hy, if_pos hx]
    have e1 : dS (dS (p0, p1) (y0, y1)) (dS (p0, p1) (x0, x1)) = dS (x0, x1) (y0, y1) := by simp only [dS, Prod.mk.injEq]; omega
    rw [e1]
    constructor
    · intro _ h3
      have h4 := (h3.add hy).add hy
      have e : dA (dA (dS (dA (x0, x1) (y0, y1)) (dA (p0, p1) (p0, p1))) (dS (p0, p1) (y0, y1))) (dS (p0, p1) (y0, y1)) = dS (x0, x1) (y0, y1) := by simp only [dA, dS, Prod.mk.injEq]; omega
      rw [e] at h4
      exact h2 h4
    · exact fun _ => h2
  · rw [if_neg hy]
    by_cases hx : G (dS (p0, p1) (x0, x1))
    · rw [if_pos hx]
      have e1 : dS (dS (y0, y1) (p0, p1)) (dS (p0, p1) (x0, x1)) = dS (dA (x0, x1) (y0, y1)) (dA (p0, p1) (p0, p1)) := by simp only [dA, dS, Prod.mk.injEq]; omega
      rw [e1]
    · rw [if_neg hx]
      have e1 : dS (dS (y0, y1) (p0, p1)) (dS (x0, x1) (p0, p1)) = dS (y0, y1) (x0, x1) := by simp only [dS, Prod.mk.injEq]; omega
      rw [e1]
      constructor
      · exact fun h3 => absurd h1 h3
      · intro h3
        refine absurd ?_ h3
        have g1 := (G.total (dS (p0, p1) (x0, x1))).resolve_left hx
        have g2 := (g1.add g1).add h1
        have e : dA (dA (-(dS (p0, p1) (x0, x1)).1, -(dS (p0, p1) (x0, x1)).2) (-(dS (p0, p1) (x0, x1)).1, -(dS (p0, p1) (x0, x1)).2)) (dS (y0, y1) (x0, x1)) = dS (dA (x0, x1) (y0, y1)) (dA (p0, p1) (p0, p1)) := by simp only [dA, dS, Prod.mk.injEq]; omega
        rwa [e] at g2
end Go.Proofs.Ytccbinnlnkpplaa
namespace Go.Proofs.Ytccbinnlnkpplaa
set_option linter.all false

instance nnDec (p m : Int) : Decidable (NN p m) := by unfold NN; exact inferInstance
instance gDec (x : Int × Int) : Decidable (G x) := nnDec _ _
/-- The bars, at one exponent. -/
def cB (n : Nat) : Int × Int := (((barW n).to 46).a, ((barW n).to 46).b)
/-- Half of the sum of two neighbours. -/
def hN (n : Nat) : Nm := match (wnum (barW n)).1.add (wnum (barW (n + 1))).1 with
  | .error _ => Nm.zero
  | .ok s => match s.halve 2 with
    | .error _ => Nm.zero
    | .ok h => h
structure MidH (n : Nat) (z z' s : Nm) : Prop where
  b0 : barR n = .ok z
  b1 : barR ((n + 1 : Nat) : Int) = .ok z'
  ok0 : z.okB = true
  ok1 : z'.okB = true
  sum : z.add z' = .ok s
  oks : s.okB = true
  half : s.halve 2 = .ok (hN n)
  okh : (hN n).okB = true
  conj : decide (hN n = (hN n).conj) = true
  le : decide ((hN n).k ≤ 46) = true
  two : decide ((2 * ((hN n).to 46).a, 2 * ((hN n).to 46).b) = dA (cB n) (cB (n + 1))) = true
theorem mids (n : Nat) (h : n ≤ 3) : ∃ z z' s, MidH n z z' s := by
  rcases (by omega : n = 0 ∨ n = 1 ∨ n = 2 ∨ n = 3) with rfl | rfl | rfl | rfl
  all_goals exact ⟨_, _, _, rfl, rfl, rfl, rfl, rfl, rfl, rfl, rfl, rfl, rfl, rfl⟩
theorem bar_real (n : Nat) (h : n ≤ 4) : Rl (barW n) ∧ (barW n).k = 4 := by
  rcases (by omega : n = 0 ∨ n = 1 ∨ n = 2 ∨ n = 3 ∨ n = 4) with rfl | rfl | rfl | rfl | rfl
  all_goals exact ⟨⟨rfl, rfl⟩, rfl⟩
theorem cB_lt (i j : Nat) (h : i < j) (h4 : j ≤ 4) : G (dS (cB j) (cB i)) ∧ ¬ G (dS (cB i) (cB j)) := by
  rcases (by omega : j = 1 ∨ j = 2 ∨ j = 3 ∨ j = 4) with rfl | rfl | rfl | rfl
  all_goals rcases (by omega : i = 0 ∨ i = 1 ∨ i = 2 ∨ i = 3) with rfl | rfl | rfl | rfl
  all_goals first | (exfalso; omega) | exact ⟨of_decide_eq_true rfl, of_decide_eq_false rfl⟩
/-- The distance that the document forms. -/
def dW (x y : Nm) : Nm := if sgnR (x.addR y.neg).a (x.addR y.neg).b < 0 then y.addR x.neg else x.addR y.neg
def bestD (P : Nm) : Nat → Nat
  | 0 => 0
  | n + 1 => if sgnR ((dW P (barW (n + 1))).addR (dW P (barW (bestD P n))).neg).a ((dW P (barW (n + 1))).addR (dW P (barW (bestD P n))).neg).b < 0 then n + 1 else bestD P n
theorem bestD_le (P : Nm) : ∀ n, bestD P n ≤ n
  | 0 => Nat.le_refl _
  | n + 1 => by
    have := bestD_le P n
    unfold bestD
    split <;> omega
def Tn (P : Nm) (n : Nat) : Bool := decide (sgnR (P.addR (hN n).neg).a (P.addR (hN n).neg).b ≤ 0)
def progN (P : Nm) : Nat := if Tn P 0 then 0 else if Tn P 1 then 1 else if Tn P 2 then 2 else if Tn P 3 then 3 else 4
theorem anti (x y : Nm) : -(x.addR y.neg).a = (y.addR x.neg).a ∧ -(x.addR y.neg).b = (y.addR x.neg).b := by
  have h1 := neg_to y (max x.k y.k)
  have h2 := neg_to x (max y.k x.k)
  have e : max y.k x.k = max x.k y.k := by omega
  rw [e] at h2
  constructor
  · show -((x.to (max x.k y.k)).a + (y.neg.to (max x.k y.k)).a) = (y.to (max y.k x.k)).a + (x.neg.to (max y.k x.k)).a
    rw [e, h1.1, h2.1]; omega
  · show -((x.to (max x.k y.k)).b + (y.neg.to (max x.k y.k)).b) = (y.to (max y.k x.k)).b + (x.neg.to (max y.k x.k)).b
    rw [e, h1.2, h2.2]; omega
theorem nf_real {z : Nm} (h : z = z.conj) : Rl z := by
  have h1 : z.b = -z.d := congrArg Nm.b h
  have h2 : z.c = -z.c := congrArg Nm.c h
  exact ⟨by omega, by omega⟩
section
variable {P : Nm} (hR : Rl P) (hk0 : 0 ≤ P.k) (hk : P.k ≤ 40)
def pP (P : Nm) : Int × Int := ((P.to 46).a, (P.to 46).b)
include hR hk in
theorem Tn_iff {n : Nat} (hn : n ≤ 3) : Tn P n = true ↔ G (dS (dA (cB n) (cB (n + 1))) (dA (pP P) (pP P))) := by
  obtain ⟨z, z', s, hM⟩ := mids n hn
  have hh := nf_real (of_decide_eq_true hM.conj)
  have hle := of_decide_eq_true hM.le
  have h2 := of_decide_eq_true hM.two
  unfold Tn
  rw [decide_eq_true_eq, sgn_le0, (anti P (hN n)).1, (anti P (hN n)).2, nn_diff hh hR hle (e := 46) (by omega), ← h2]
  constructor
  · intro h
    have := G.add (x := (((hN n).to 46).a - (P.to 46).a, ((hN n).to 46).b - (P.to 46).b)) (y := (((hN n).to 46).a - (P.to 46).a, ((hN n).to 46).b - (P.to 46).b)) h h
    have e : dA (((hN n).to 46).a - (P.to 46).a, ((hN n).to 46).b - (P.to 46).b) (((hN n).to 46).a - (P.to 46).a, ((hN n).to 46).b - (P.to 46).b) = dS (2 * ((hN n).to 46).a, 2 * ((hN n).to 46).b) (dA (pP P) (pP P)) := by simp only [dA, dS, pP, Prod.mk.injEq]; omega
    rwa [e] at this
  · intro h
    have e : dS (2 * ((hN n).to 46).a, 2 * ((hN n).to 46).b) (dA (pP P) (pP P)) = (2 * (((hN n).to 46).a - (P.to 46).a), 2 * (((hN n).to 46).b - (P.to 46).b)) := by simp only [dA, dS, pP, Prod.mk.injEq]; omega
    rw [e] at h
    exact G.half (x := (((hN n).to 46).a - (P.to 46).a, ((hN n).to 46).b - (P.to 46).b)) h
include hR hk in
theorem dW_fact {n : Nat} (hn : n ≤ 4) : Rl (dW P (barW n)) ∧ (dW P (barW n)).k = max P.k 4 ∧ (((dW P (barW n)).to 46).a, ((dW P (barW n)).to 46).b) = dst (pP P) (cB n) := by
  obtain ⟨hb, hbk⟩ := bar_real n hn
  have h1 := nn_diff hR hb (e := 46) (by omega) (by omega)
  have a1 := addR_to (x := P) (y := (barW n).neg) (e := 46) (by omega) (by show (barW n).k ≤ 46; omega)
  have a2 := addR_to (x := barW n) (y := P.neg) (e := 46) (by omega) (by show P.k ≤ 46; omega)
  obtain ⟨n1, n2⟩ := neg_to (barW n) 46
  obtain ⟨m1, m2⟩ := neg_to P 46
  rw [n1, n2] at a1
  rw [m1, m2] at a2
  unfold dW dst
  by_cases hs : sgnR (P.addR (barW n).neg).a (P.addR (barW n).neg).b < 0
  · have hg : ¬ G (dS (pP P) (cB n)) := fun hh => (sgn_lt.1 hs) (h1.2 hh)
    rw [if_pos hs, if_neg hg]
    refine ⟨hb.addR hR.neg, by show max (barW n).k P.k = _; rw [hbk]; omega, ?_⟩
    rw [a2.1, a2.2]
    simp only [dS, cB, pP, Prod.mk.injEq]
    omega
  · have hg : G (dS (pP P) (cB n)) := Decidable.byContradiction fun hh => hs (sgn_lt.2 fun h3 => hh (h1.1 h3))
    rw [if_neg hs, if_pos hg]
    refine ⟨hR.addR hb.neg, by show max P.k (barW n).k = _; rw [hbk], ?_⟩
    rw [a1.1, a1.2]
    simp only [dS, cB, pP, Prod.mk.injEq]
    omega
include hR hk in
theorem test_iff {i n : Nat} (hi : i < n) (hn : n ≤ 4) : sgnR ((dW P (barW n)).addR (dW P (barW i)).neg).a ((dW P (barW n)).addR (dW P (barW i)).neg).b < 0 ↔ ¬ G (dS (dA (cB i) (cB n)) (dA (pP P) (pP P))) := by
  obtain ⟨r1, k1, e1⟩ := dW_fact hR hk hn
  obtain ⟨r2, k2, e2⟩ := dW_fact hR hk (show i ≤ 4 by omega)
  have h1 := nn_diff r1 r2 (e := 46) (by omega) (by omega)
  obtain ⟨c1, c2⟩ := cB_lt i n hi hn
  have h2 := dst_cmp (p := pP P) c1 c2
  rw [sgn_lt, h1, ← h2, ← e1, ← e2]
  rfl
theorem U_mono {p : Int × Int} {i j m : Nat} (h : G (dS (dA (cB i) (cB j)) (dA p p))) (hj : j < m) (hm : m ≤ 4) : G (dS (dA (cB i) (cB m)) (dA p p)) := by
  have := h.add (cB_lt j m hj hm).1
  have e : dA (dS (dA (cB i) (cB j)) (dA p p)) (dS (cB m) (cB j)) = dS (dA (cB i) (cB m)) (dA p p) := by simp only [dA, dS, Prod.mk.injEq]; omega
  rwa [e] at this
include hR hk in
theorem best_stay {i n : Nat} (hb : bestD P n = i) (hi : i ≤ n) (hn : n + 1 ≤ 4) (hU : G (dS (dA (cB i) (cB (n + 1))) (dA (pP P) (pP P)))) : bestD P (n + 1) = i := by
  have h := test_iff hR hk (show i < n + 1 by omega) hn
  unfold bestD
  rw [hb, if_neg (fun hh => h.1 hh hU)]
include hR hk in
theorem best_go {i n : Nat} (hb : bestD P n = i) (hi : i ≤ n) (hn : n + 1 ≤ 4) (hU : ¬ G (dS (dA (cB i) (cB (n + 1))) (dA (pP P) (pP P)))) : bestD P (n + 1) = n + 1 := by
  have h := test_iff hR hk (show i < n + 1 by omega) hn
  unfold bestD
  rw [hb, if_pos (h.2 hU)]
include hR hk in
theorem near_eq : bestD P 4 = progN P := by
  have b0 : bestD P 0 = 0 := rfl
  have t0 := Tn_iff hR hk (n := 0) (by decide)
  have t1 := Tn_iff hR hk (n := 1) (by decide)
  have t2 := Tn_iff hR hk (n := 2) (by decide)
  have t3 := Tn_iff hR hk (n := 3) (by decide)
  unfold progN
  by_cases h0 : Tn P 0 = true
  · rw [if_pos h0]
    have u := t0.1 h0
    have b1 := best_stay hR hk b0 (by decide) (by decide) u
    have b2 := best_stay hR hk b1 (by decide) (by decide) (U_mono u (by decide) (by decide))
    have b3 := best_stay hR hk b2 (by decide) (by decide) (U_mono u (by decide) (by decide))
    exact best_stay hR hk b3 (by decide) (by decide) (U_mono u (by decide) (by decide))
  · rw [if_neg h0]
    have b1 := best_go hR hk b0 (by decide) (by decide) (fun u => h0 (t0.2 u))
    by_cases h1 : Tn P 1 = true
    · rw [if_pos h1]
      have u := t1.1 h1
      have b2 := best_stay hR hk b1 (by decide) (by decide) u
      have b3 := best_stay hR hk b2 (by decide) (by decide) (U_mono u (by decide) (by decide))
      exact best_stay hR hk b3 (by decide) (by decide) (U_mono u (by decide) (by decide))
    · rw [if_neg h1]
      have b2 := best_go hR hk b1 (by decide) (by decide) (fun u => h1 (t1.2 u))
      by_cases h2 : Tn P 2 = true
      · rw [if_pos h2]
        have u := t2.1 h2
        have b3 := best_stay hR hk b2 (by decide) (by decide) u
        exact best_stay hR hk b3 (by decide) (by decide) (U_mono u (by decide) (by decide))
      · rw [if_neg h2]
        have b3 := best_go hR hk b2 (by decide) (by decide) (fun u => h2 (t2.2 u))
        by_cases h3 : Tn P 3 = true
        · rw [if_pos h3]
          exact best_stay hR hk b3 (by decide) (by decide) (t3.1 h3)
        · rw [if_neg h3]
          exact best_go hR hk b3 (by decide) (by decide) (fun u => h3 (t3.2 u))
end
end Go.Proofs.Ytccbinnlnkpplaa
