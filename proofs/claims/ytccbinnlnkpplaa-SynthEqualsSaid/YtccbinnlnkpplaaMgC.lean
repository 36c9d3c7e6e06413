/- Several texts in one. -/
import Derived.Test.YtccbinnlnkpplaaMt3
import Derived.Test.YtccbinnlnkpplaaMt1
import Derived.Test.YtccbinnlnkpplaaMgB
import Derived.Test.YtccbinnlnkpplaaAmTn
import Derived.Test.YtccbinnlnkpplaaSq
import Derived.Test.YtccbinnlnkpplaaMg
import Derived.Test.YtccbinnlnkpplaaQ2
import Derived.Test.YtccbinnlnkpplaaAlPl
import Derived.Test.YtccbinnlnkpplaaMt2
import Derived.Test.YtccbinnlnkpplaaRt
import Derived.Test.YtccbinnlnkpplaaSr
import Derived.OrdersIn
import Derived.Test.YtccbinnlnkpplaaMgA
import Derived.Test.YtccbinnlnkpplaaFrm
import Derived.Deep.Slices
import Derived.Lib.SmallJoins
namespace Go.Proofs.Ytccbinnlnkpplaa
set_option linter.all false

/-- The matrix of an item on its own guides: rows, elements. -/
def ownN (x : It) : Nat := if x.kind = 1 then 1 else 2
def halfN : Nm := ⟨1, 0, 0, 0, 1⟩
def sideN : Nm := ⟨0, 0, 1, 0, 1⟩
def ownL (x : It) : List Nm := if x.kind = 1 then [Nm.turn (x.n % 8).toNat Nm.one] else if x.kind = 3 then [Nm.zero, Nm.one, Nm.one, Nm.zero] else [halfN, sideN, sideN, halfN]
/-- A matrix of m rows on the guides from p on, after t of its elements. -/
def plcS (N p m : Nat) (L l : List Nm) : Nat → List Nm
  | 0 => l
  | t + 1 => (plcS N p m L l t).set ((p + t / m) * N + p + t % m) (nm L t)
def idM (N : Nat) : List Nm := rL (identR N)
def plcL (N p m : Nat) (L : List Nm) : List Nm := plcS N p m L (idM N) (m * m)
def itL (N : Nat) (x : It) : List Nm := plcL N (x.at_ - 1).toNat (ownN x) (ownL x)
/-- What the first items make. -/
def matS (N : Nat) (xs : List It) : Nat → LR
  | 0 => .ok (idM N)
  | j + 1 => match matS N xs j with
    | .error c => .error c
    | .ok l => mulM N N (itL N (it xs j)) l
def matO (n : Int) (xs : List It) : LR := if itemE n xs = 0 then matS n.toNat xs xs.length else .error (itemE n xs)
theorem plcS_len (N p m : Nat) (L l : List Nm) : ∀ t, (plcS N p m L l t).length = l.length
  | 0 => rfl
  | t + 1 => by rw [plcS, List.length_set, plcS_len N p m L l t]
theorem idM_len {N : Nat} (h1 : 1 ≤ N) (h6 : N ≤ 6) : (idM N).length = N * N := by
  unfold idM identR
  rw [if_pos (by omega), Int.toNat_natCast]
  show (rL (gather _ _)).length = _
  have : ∃ l, gather (fun t => idR (t / N) (t % N)) (N * N) = .ok l := ⟨_, gather_pure (fun t => if t / N = t % N then Nm.one else Nm.zero) (N * N)⟩
  obtain ⟨l, hl⟩ := this
  rw [hl]
  exact gather_len hl
theorem matS_err {N : Nat} {xs : List It} {j : Nat} {c : Int} (h : matS N xs j = .error c) : ∀ m, j ≤ m → matS N xs m = .error c := by
  intro m hm
  induction m with
  | zero => obtain rfl : j = 0 := by omega
            exact h
  | succ m ih =>
    rcases (by omega : j = m + 1 ∨ j ≤ m) with rfl | hm
    · exact h
    · simp only [matS, ih hm]
end Go.Proofs.Ytccbinnlnkpplaa
namespace Go.Proofs.Ytccbinnlnkpplaa
set_option linter.all false
open Go.RowKit

theorem OwnN.openM {u : List Blk} {v : Value} {l : List Nm} (h : OwnN u v l) (hn : 0 < l.length) : ∃ g cap rest, u = [(g, .cells (NmE.flat l ++ rest).toArray 45)] ∧ v = .slice (some ⟨g, 0, none⟩) l.length cap ∧ l.length ≤ cap ∧ cap ≤ maxLen ∧ (NmE.flat l ++ rest).length = cap * 5 := by
  obtain ⟨hl, ⟨rfl, rfl, h0⟩ | ⟨g, cap, cur, rfl, rfl, hc, hm, hs, ht⟩⟩ := h
  · omega
  refine ⟨g, cap, cur.toList.drop (l.length * 5), ?_, rfl, hc, hm, ?_⟩
  · rw [← ht, List.take_append_drop]
  rw [← ht, List.take_append_drop]; simpa using hs
theorem OwnN.flM {g n cap : Nat} {l : List Nm} {rest : List Value} (h : l.length = n) (hc : n ≤ cap) (hm : cap ≤ maxLen) (hs : (NmE.flat l ++ rest).length = cap * 5) : OwnN [(g, .cells (NmE.flat l ++ rest).toArray 45)] (.slice (some ⟨g, 0, none⟩) n cap) l := by
  subst h
  have hfl := NmE.flat_len l
  exact ⟨hfl, .inr ⟨g, cap, _, rfl, rfl, hc, hm, by simpa using hs, by simp [← hfl]⟩⟩
theorem OwnN.wholeM {g : Nat} {l : List Nm} (h : l.length ≤ 1000000) : OwnN [(g, .cells (nms l).toArray 45)] (.slice (some ⟨g, 0, none⟩) l.length l.length) l :=
  Own.whole (cur := (nms l).toArray) (by simpa using NmE.flat_len l) (by simp only [maxLen]; omega)
theorem nm_flM (xs : List Nm) (k : Nat) (y : Nm) (rest : List Value) (hk : k < xs.length) : setMany (NmE.flat xs ++ rest).toArray (0 + k * 5) (nmC y) = (NmE.flat (xs.set k y) ++ rest).toArray := fl_set (E := NmE) (rest := rest) hk
theorem nm_szM (xs : List Nm) (k : Nat) (y : Nm) (rest : List Value) (hk : k < xs.length) : 0 + k * 5 + (nmC y).length ≤ (NmE.flat xs ++ rest).toArray.size := fl_size (E := NmE) (rest := rest) (y := y) hk
theorem OwnN.asM {u s : List Blk} {av : Option Addr} {m cv : Nat} {xs : List Nm} {B w : World} {F : List Nat} (h : OwnN u (.slice av m cv) xs) (K : Kn B F (u ++ s) w) : AS w av (nms xs) := by
  obtain ⟨a, cap, e, hA⟩ := h.as K
  cases e
  exact hA
theorem ident_okM {N : Nat} (h1 : 1 ≤ N) (h6 : N ≤ 6) : identR N = .ok (idM N) := by
  unfold idM identR
  rw [if_pos (by omega), Int.toNat_natCast]
  have : ∃ l, madeR N idR = .ok l := ⟨_, gather_pure (fun t => if t / N = t % N then Nm.one else Nm.zero) (N * N)⟩
  obtain ⟨l, hl⟩ := this
  rw [hl]
  rfl
end Go.Proofs.Ytccbinnlnkpplaa
namespace Go.Proofs.Ytccbinnlnkpplaa
set_option linter.all false
open Go.RowKit

/-- The identity's first elements. -/
def idS (N t : Nat) : List Nm := (List.range t).map fun t => if t / N = t % N then Nm.one else Nm.zero
theorem idS_len (N t : Nat) : (idS N t).length = t := by simp [idS]
theorem idS_succ (N t : Nat) : idS N (t + 1) = idS N t ++ [if t / N = t % N then Nm.one else Nm.zero] := by unfold idS; rw [List.range_succ, List.map_append]; rfl
theorem idS_all {N : Nat} (h1 : 1 ≤ N) (h6 : N ≤ 6) : idM N = idS N (N * N) := by
  unfold idM identR
  rw [if_pos Ox, Int.toNat_natCast]
  have h : madeR N idR = .ok ((List.range (N * N)).map fun t => if t / N = t % N then Nm.one else Nm.zero) := gather_pure _ _
  rw [h]
  rfl
theorem numV_veR (r : NR) : ∃ (v : Nm) (e : Int), numV r = .tuple #[nmV v, .int .i64 e] ∧ (e = 0 → (∀ c, r = .error c → c ≠ 0) → r = .ok v) ∧ (e ≠ 0 → r = .error e) := by
  cases r with
  | ok v => exact ⟨v, 0, rfl, fun _ _ => rfl, fun h => absurd rfl h⟩
  | error c => exact ⟨Nm.zero, c, rfl, fun h hc => absurd h (hc c rfl), fun _ => rfl⟩
theorem mul_cd {x y : Nm} (c : Int) (h : x.mul y = .error c) : c ≠ 0 := by have := mk_err h; omega
theorem add_cd {x y : Nm} (c : Int) (h : x.add y = .error c) : c ≠ 0 := by have := mk_err h; omega
set_option maxRecDepth 100000 in
set_option maxHeartbeats 1000000 in
theorem r3one_any  (w : World) : Calls Try.prog 163 #[] w fun e w' => e = .returned (nmV Nm.one) ∧ Below w.heap.size w w' := by
  go_enter Try.func163, Try.ntmps163
  refine wk_start ?_
  refine wk_seq ?_
  refine wk_region [1] rfl Kx ?_
  simp only [qy]
  refine Rgn fun g1 => ?_
  simp only [qz]
  refine rg_nil (ek_next (wk_seq ?_))
  refine wk_region [0, 0, 1] rfl Kx ?_
  simp only [qy]
  refine rf_build (cs := fun a => #[a.eval (.const (.int .i64 1)), .int .i64 0, .int .i64 0, .int .i64 0]) rfl rfl Kx ?_
  simp only [qz]
  refine rf_build (cs := fun a => #[cellAt (a.eval (.tmp 1)) 0, cellAt (a.eval (.tmp 1)) 1, cellAt (a.eval (.tmp 1)) 2, cellAt (a.eval (.tmp 1)) 3, .int .i64 0]) rfl rfl Kx ?_
  simp only [qz]
  refine rf_storeR (n := 5) rfl rfl Kx rfl rfl (UpdR.here _ _ _ Nl) Nz ?_
  simp only [qz, Nat.reduceAdd]
  refine rg_nil (ek_next (wk_ret ?_))
  refine ek_ret (fun w hw => ⟨rfl, _, run_results1 rfl rfl (Kn.hd0 hw) Try.underlying45 rfl Kx, ?_⟩)
  (try simp only [qz])
  first | exact ⟨rfl, hw.below⟩ | exact ⟨trivial, hw.below⟩ | exact hw.below

set_option maxRecDepth 100000 in
set_option maxHeartbeats 1000000 in
theorem r3none_any  (w : World) : Calls Try.prog 164 #[] w fun e w' => e = .returned (nmV Nm.zero) ∧ Below w.heap.size w w' := by
  go_enter Try.func164, Try.ntmps164
  refine wk_start ?_
  refine wk_seq ?_
  refine wk_region [1] rfl Kx ?_
  simp only [qy]
  refine Rgn fun g1 => ?_
  simp only [qz]
  refine rg_nil (ek_next (wk_seq ?_))
  refine wk_region [0, 1] rfl Kx ?_
  simp only [qy]
  refine rf_build (cs := fun a => #[.int .i64 0, .int .i64 0, .int .i64 0, .int .i64 0, .int .i64 0]) rfl rfl Kx ?_
  simp only [qz]
  refine rf_storeR (n := 5) rfl rfl Kx rfl rfl (UpdR.here _ _ _ Nl) Nz ?_
  simp only [qz, Nat.reduceAdd]
  refine rg_nil (ek_next (wk_ret ?_))
  refine ek_ret (fun w hw => ⟨rfl, _, run_results1 rfl rfl (Kn.hd0 hw) Try.underlying45 rfl Kx, ?_⟩)
  (try simp only [qz])
  first | exact ⟨rfl, hw.below⟩ | exact ⟨trivial, hw.below⟩ | exact hw.below

set_option maxRecDepth 100000 in
set_option maxHeartbeats 1000000 in
theorem r3ident_any (N : Nat) (hN1 : 1 ≤ N) (hN6 : N ≤ 6) (w : World) : Calls Try.prog 124 #[.int .i64 N] w fun e w' => RetM1 w N (idM N) e w' := by
  have hNN := Nat.mul_le_mul hN6 hN6
  have hnn : ((N : Int) * N) = ((N * N : Nat) : Int) := (Int.natCast_mul _ _).symm
  go_enter Try.func124, Try.ntmps124
  refine wk_start ?_
  refine wk_seq ?_
  refine wk_region [1] rfl Kx ?_
  simp only [qy]
  refine Rgn fun g1 => ?_
  simp only [qz]
  refine rg_nil (ek_next (wk_seq ?_))
  refine wk_region [0, 0, 1, 1] rfl Kx ?_
  simp only [qy]
  refine rg_move ?_
  simp only [qz]
  refine rf_build (cs := fun a => #[a.eval (.tmp 5), .slice none 0 0]) rfl rfl Kx ?_
  simp only [qz]
  refine Rgn fun g2 => ?_
  simp only [qz]
  refine rf_storeR (n := 2) rfl rfl Kx rfl rfl (UpdR.here _ _ _ Nl) Nz ?_
  simp only [qz, Nat.reduceAdd]
  refine rg_nil (ek_next (wk_seq (wk_seq ?_)))
  refine wk_region [0, 0, 0, 0] rfl Kx ?_
  simp only [qy]
  refine rg_move ?_
  simp only [qz]
  refine rg_move ?_
  simp only [qz]
  refine rf_mul (r := ((N * N : Nat) : Int)) rfl rfl rfl rfl (wrap_eqB hnn Ox Ox) ?_
  simp only [qz]
  clear hnn
  refine rg_move ?_
  simp only [qz]
  refine rg_nil (ek_next (wk_block ?_))
  refine wk_loopF [4, 10, 11, 12, 13, 14, 15, 16, 17, 18, 19, 20, 21, 22, 23, 24, 25, 26, 27, 28, 29, 30, 31, 32] (fun mz f s => ∃ (t : Nat) (u : List Blk) (av : Option Addr) (cv : Nat), f 10 = .int .i64 t ∧ s = (u ++ ((g2, .cells #[.int .i64 N, .slice av (idS N t).length cv] 38) :: ((g1, .cells #[.int .i64 0, .slice none 0 0] 38) :: []))) ∧ mz = N * N - t ∧ t ≤ N * N ∧ OwnN u (.slice av (idS N t).length cv) (idS N t)) ((fun (t : Nat) (u : List Blk) (av : Option Addr) (cv : Nat) => N * N - t) (0) ([]) (none) (0)) ?_ Kx ?_
  · exact ⟨0, [], none, 0, rfl, rfl, rfl, by omega, OwnG.nil⟩
  rintro mz f1 s ⟨t, u, av, cv, hs1_10, rfl, hn, hd1, hd2⟩
  simp only [Act.putF, List.foldl_cons, List.foldl_nil, hs1_10, Act.put, Act.eval, q1, q2, q3, q4, q5, q6, q7, q8, q9, q10, q11, q12, q13, q14, q15, q16, q17, q18, Nat.reduceAdd, Bool.not_true, Bool.not_false]
  clear hs1_10
  have hil : (idS N t).length ≤ 36 := by rw [idS_len]; omega
  refine wk_seq ?_
  refine wk_region [0] rfl Kx ?_
  simp only [qy]
  refine rfb_lss rfl rfl rfl rfl ?_
  intro x h1
  cases x
  · (try simp only [qd, ne_eq] at h1)
    simp only [qz]
    refine rg_nil (ek_next (wk_seq (wk_cond_f rfl (wk_exit (ek_then_exit (ek_then_exit (ek_block_exit (ek_next (wk_seq ?_)))))))))
    refine wk_region [0, 1] rfl Kx ?_
    simp only [qy]
    refine rf_loadR (n := 2) rfl rfl rfl Try.underlying38 rfl Kx (fun w hw => Kn.hd0 (Kn.tlU hw)) rfl rfl ?_
    simp only [qz]
    refine rf_storeR (n := 2) rfl rfl Kx rfl rfl (UpdR.app _ (UpdR.there _ (UpdR.here _ _ _ Nl))) Nz ?_
    simp only [qz, Nat.reduceAdd]
    refine rg_nil (ek_next (wk_ret ?_))
    refine ek_ret (fun w hw => ⟨rfl, _, run_results1 rfl rfl (Kn.hd0 (Kn.tl (Kn.tlU hw))) Try.underlying38 rfl Kx, ?_⟩)
    (try simp only [qz])
    obtain rfl : t = N * N := by omega
    rw [idS_all hN1 hN6]
    exact ⟨_, u, rfl, hd2, hw.made (List.sublist_append_left _ _)⟩
  (try simp only [qd, ne_eq] at h1)
  simp only [qz]
  refine rg_nil (ek_next (wk_seq (wk_cond_t rfl (wk_skip (ek_next (wk_seq (wk_block (wk_seq ?_))))))))
  refine wk_region [0, 0] rfl Kx ?_
  simp only [qy]
  refine rg_move ?_
  simp only [qz]
  refine rg_assign ?_
  simp only [qz]
  refine rg_nil (ek_next (wk_seq ?_))
  refine wk_draws _ _ [(0, 0), (1, 0), (2, 0), (3, 0), (4, 0), (5, 0), (6, 0)] [] Kx Kx (fun c d v a w h => by cases d <;> exact h) ((List.Sublist.append_left (sc _ (sc _ sn)) _)) (fun e => by first | exact absurd e (by decide) | rfl) ?_
  simp only [List.map_cons, List.map_nil, List.getD_cons_zero, List.getD_cons_succ]
  refine rg_move ?_
  simp only [qz]
  refine rg_move ?_
  simp only [qz]
  refine rf_quo (r := ((t / N : Nat) : Int)) rfl rfl rfl rfl Ox (by rw [quo_ok Ox Ox Ox]; rfl) ?_
  simp only [qz]
  refine rg_move ?_
  simp only [qz]
  refine rg_move ?_
  simp only [qz]
  refine rf_rem (r := ((t % N : Nat) : Int)) rfl rfl rfl rfl Ox (by rw [Int.tmod_eq_emod_of_nonneg Ox]; rfl) ?_
  simp only [qz]
  refine rfb_eql rfl rfl rfl rfl ?_
  intro x h2
  cases x
  · (try simp only [qd, ne_eq] at h2)
    simp only [qz]
    refine rg_nil (ek_next (wk_cond_f rfl ?_))
    refine wk_draws _ _ [(0, 0), (1, 0), (2, 1), (3, 1), (4, 1), (5, 0), (6, 2)] [6] Kx Kx (fun c d v a w h => by cases d <;> exact h) (((sc _ (sc _ sn)).trans (List.sublist_append_right _ _))) (fun e => by exact absurd e (by decide)) ?_ ((sk _ (sc _ sn)))
    simp only [List.map_cons, List.map_nil, List.getD_cons_zero, List.getD_cons_succ]
    refine rf_field (n := 0) (j := 1) rfl rfl rfl Try.underlying38 rfl Kx rfl ?_
    simp only [qz]
    refine rf_load rfl rfl rfl Try.underlying36 rfl (fun w hw => (Kn.hd0 hw).at rfl) ?_
    simp only [qz]
    apply rg_pure Rx Kx
    case hargs => exact Ax
    case h => exact fun w hw => r3none_any w
    case hz => exact (fun _ h => by cases h; exact ((sc _ (sc _ sn)).trans (List.sublist_append_right _ _)))
    simp only [qz]
    refine rg_newS (cs := ?_) (ty := ?_) (n := 1) (c := 1) Rx (fun w => ?_) (fun _ h => by cases h; exact ((sc _ (sc _ sn)).trans (List.sublist_append_right _ _))) (fun g3 => ?_); rotate_left 2
    focus (go_simp; rfl)
    simp only [qz]
    refine rg_appN (x := Nm.zero) Rx rfl hd2 rfl Ox (perm_atU (l := [_]) (u := u) (List.Perm.refl _)) (fun w hw => Kn.hd0 hw) (fun _ h => by cases h; exact (sk _ (sc _ (sc _ sn)))) (fun uN1 aN1 cN1 hON1 => ?_)
    simp only [qz]
    refine rf_field (n := 0) (j := 1) rfl rfl rfl Try.underlying38 rfl Kx rfl ?_
    simp only [qz]
    refine rf_storeM rfl rfl Kx rfl rfl (UpdR.app _ (UpdR.there _ (UpdR.here _ _ _ Nl))) ((sk _ (sk _ (sc _ sn))).trans (List.sublist_append_right _ _)) ?_
    simp only [qz]
    refine rg_nil (ek_block (ek_next ?_))
    refine wk_region [0, 0] rfl Kx ?_
    simp only [qy]
    refine rf_add rfl rfl rfl rfl (wrap_ok Ox Ox) ?_
    simp only [qz]
    refine rg_move ?_
    simp only [qz]
    refine rg_nil ?_
    refine ek_sub (List.Sublist.append_left (sk _ (sc _ (sc _ sn))) _) ?_
    refine ek_roundF (N * N - (t + 1)) Ox Kx ?_
    exact ⟨t + 1, uN1, aN1, cN1, rfl, by simp only [idS_len], by rfl, Ox, (by rw [idS_succ, if_neg Ox, List.length_append]; have h := hON1; first | exact h | (simp only [idS_len] at h ⊢; exact h))⟩
  (try simp only [qd, ne_eq] at h2)
  simp only [qz]
  refine rg_nil (ek_next (wk_cond_t rfl ?_))
  refine wk_draws _ _ [(0, 0), (1, 0), (2, 1), (3, 1), (4, 1), (5, 0), (6, 2)] [6] Kx Kx (fun c d v a w h => by cases d <;> exact h) (((sc _ (sc _ sn)).trans (List.sublist_append_right _ _))) (fun e => by exact absurd e (by decide)) ?_ ((sk _ (sc _ sn)))
  simp only [List.map_cons, List.map_nil, List.getD_cons_zero, List.getD_cons_succ]
  refine rf_field (n := 0) (j := 1) rfl rfl rfl Try.underlying38 rfl Kx rfl ?_
  simp only [qz]
  refine rf_load rfl rfl rfl Try.underlying36 rfl (fun w hw => (Kn.hd0 hw).at rfl) ?_
  simp only [qz]
  apply rg_pure Rx Kx
  case hargs => exact Ax
  case h => exact fun w hw => r3one_any w
  case hz => exact (fun _ h => by cases h; exact ((sc _ (sc _ sn)).trans (List.sublist_append_right _ _)))
  simp only [qz]
  refine rg_newS (cs := ?_) (ty := ?_) (n := 1) (c := 1) Rx (fun w => ?_) (fun _ h => by cases h; exact ((sc _ (sc _ sn)).trans (List.sublist_append_right _ _))) (fun g4 => ?_); rotate_left 2
  focus (go_simp; rfl)
  simp only [qz]
  refine rg_appN (x := Nm.one) Rx rfl hd2 rfl Ox (perm_atU (l := [_]) (u := u) (List.Perm.refl _)) (fun w hw => Kn.hd0 hw) (fun _ h => by cases h; exact (sk _ (sc _ (sc _ sn)))) (fun uN1 aN1 cN1 hON1 => ?_)
  simp only [qz]
  refine rf_field (n := 0) (j := 1) rfl rfl rfl Try.underlying38 rfl Kx rfl ?_
  simp only [qz]
  refine rf_storeM rfl rfl Kx rfl rfl (UpdR.app _ (UpdR.there _ (UpdR.here _ _ _ Nl))) ((sk _ (sk _ (sc _ sn))).trans (List.sublist_append_right _ _)) ?_
  simp only [qz]
  refine rg_nil (ek_block (ek_next ?_))
  refine wk_region [0, 0] rfl Kx ?_
  simp only [qy]
  refine rf_add rfl rfl rfl rfl (wrap_ok Ox Ox) ?_
  simp only [qz]
  refine rg_move ?_
  simp only [qz]
  refine rg_nil ?_
  refine ek_sub (List.Sublist.append_left (sk _ (sc _ (sc _ sn))) _) ?_
  refine ek_roundF (N * N - (t + 1)) Ox Kx ?_
  exact ⟨t + 1, uN1, aN1, cN1, rfl, by simp only [idS_len], by rfl, Ox, (by rw [idS_succ, if_pos Ox, List.length_append]; have h := hON1; first | exact h | (simp only [idS_len] at h ⊢; exact h))⟩

set_option maxRecDepth 100000 in
set_option maxHeartbeats 1000000 in
theorem r3row_any (N i : Nat) (xs vs : List Nm) (a a' : Option Addr) (c c' : Nat) (hN1 : 1 ≤ N) (hN6 : N ≤ 6) (hi : i < N) (hlx : xs.length = N * N) (hlv : vs.length = N) (hox : ∀ k, k < N → (nm xs (i * N + k)).Ok) (hov : ∀ k, k < N → (nm vs k).Ok) (w : World) (hA : AS w a (nms xs)) (hB : AS w a' (nms vs)) : Calls Try.prog 165 #[.agg #[.int .i64 N, .slice a xs.length c], .int .i64 i, .slice a' vs.length c'] w fun e w' => e = .returned (numV (prodsR (fun j => nm xs (i * N + j)) (fun j => nm vs j) N)) ∧ Below w.heap.size w w' := by
  obtain ⟨b, off, rfl, hlt, hcell⟩ := AS.openN hA (by rw [hlx]; exact Nat.mul_pos Ox Ox)
  obtain ⟨b', off', rfl, hlt', hcell'⟩ := AS.openN hB Ox
  have hNN := Nat.mul_le_mul hN6 hN6
  have hlx1 : xs.length ≤ 36 := by omega
  have hlv1 : vs.length ≤ N ∧ N ≤ vs.length := by omega
  replace hlx := Lib.hid hlx
  replace hlv := Lib.hid hlv
  go_enter Try.func165, Try.ntmps165
  refine wk_start ?_
  refine wk_seq ?_
  refine wk_region [1, 1, 0] rfl Kx ?_
  simp only [qy]
  refine Rgn fun g1 => ?_
  simp only [qz]
  refine Rgn fun g2 => ?_
  simp only [qz]
  refine rg_assign ?_
  simp only [qz]
  refine rg_nil (ek_next (wk_seq ?_))
  refine wk_region [1, 1, 1] rfl Kx ?_
  simp only [qy]
  apply rg_pure Rx Kx
  case hargs => exact Ax
  case h => exact fun w hw => r3none_any w
  case hz => exact Nz
  simp only [qz]
  refine Rgn fun g3 => ?_
  simp only [qz]
  refine rf_storeR (n := 5) rfl rfl Kx rfl rfl (UpdR.here _ _ _ Nl) Nz ?_
  simp only [qz, Nat.reduceAdd]
  refine rg_nil (ek_next (wk_seq (wk_seq ?_)))
  refine wk_region [0, 0, 0] rfl Kx ?_
  simp only [qy]
  refine rf_field (n := 0) (j := 0) rfl rfl rfl Try.underlying38 rfl Kx rfl ?_
  simp only [qz]
  refine rf_load rfl rfl rfl Try.underlying3 rfl (fun w hw => (Kn.hd0 (Kn.tl (Kn.tl hw))).at rfl) ?_
  simp only [qz]
  refine rg_move ?_
  simp only [qz]
  refine rg_nil (ek_next (wk_block ?_))
  refine wk_loopF [7, 9, 10, 11, 15, 16, 17, 18, 19, 20, 21, 22, 23, 24, 25, 26, 27, 28, 29, 30, 31, 32, 33, 34, 35, 36, 37, 38, 39, 40, 41, 42, 43, 44, 45, 46, 47, 48, 49, 50] (fun mz f s => ∃ (k : Nat) (sm : Nm), f 15 = .int .i64 k ∧ s = ((g3, .cells #[.int .i64 sm.a, .int .i64 sm.b, .int .i64 sm.c, .int .i64 sm.d, .int .i64 sm.k] 45) :: ((g2, .cells #[.int .i64 0, .int .i64 0, .int .i64 0, .int .i64 0, .int .i64 0] 45) :: ((g1, .cells #[.int .i64 N, .slice (some ⟨b, off, none⟩) xs.length c] 38) :: []))) ∧ mz = N - k ∧ k ≤ N ∧ Hid (prodsR (fun j => nm xs (i * N + j)) (fun j => nm vs j) k = .ok sm) ∧ sm.Ok) ((fun (k : Nat) (sm : Nm) => N - k) (0) (Nm.zero)) ?_ Kx ?_
  · exact ⟨0, Nm.zero, rfl, rfl, rfl, by omega, Lib.hid rfl, zero_ok⟩
  rintro mz f1 s ⟨k, sm, hs1_15, rfl, hn, hd1, hd2, hd3⟩
  simp only [Act.putF, List.foldl_cons, List.foldl_nil, hs1_15, Act.put, Act.eval, q1, q2, q3, q4, q5, q6, q7, q8, q9, q10, q11, q12, q13, q14, q15, q16, q17, q18, Nat.reduceAdd, Bool.not_true, Bool.not_false]
  clear hs1_15
  have hso := hd3
  clear hd3
  refine wk_seq ?_
  refine wk_region [0] rfl Kx ?_
  simp only [qy]
  refine rfb_lss rfl rfl rfl rfl ?_
  intro x h1
  cases x
  · (try simp only [qd, ne_eq] at h1)
    simp only [qz]
    refine rg_nil (ek_next (wk_seq (wk_cond_f rfl (wk_exit (ek_then_exit (ek_then_exit (ek_block_exit (ek_next (wk_seq ?_)))))))))
    refine wk_region [0, 1, 0] rfl Kx ?_
    simp only [qy]
    refine rf_loadR (n := 5) rfl rfl rfl Try.underlying45 rfl Kx (fun w hw => Kn.hd0 hw) rfl rfl ?_
    simp only [qz]
    refine rf_storeR (n := 5) rfl rfl Kx rfl rfl (UpdR.there _ (UpdR.here _ _ _ Nl)) Nz ?_
    simp only [qz, Nat.reduceAdd]
    refine rg_assign ?_
    simp only [qz]
    refine rg_nil (ek_next (wk_ret ?_))
    refine ek_ret (fun w hw => ⟨rfl, _, run_results2 rfl rfl (Kn.hd0 (Kn.tl hw)) Try.underlying45 rfl Kx, ?_⟩)
    (try simp only [qz])
    obtain rfl : k = N := by omega
    exact ⟨by rw [hd2.out]; rfl, hw.below⟩
  (try simp only [qd, ne_eq] at h1)
  simp only [qz]
  refine rg_nil (ek_next (wk_seq (wk_cond_t rfl (wk_skip (ek_next (wk_seq (wk_block (wk_seq ?_))))))))
  refine wk_region [0, 0] rfl Kx ?_
  simp only [qy]
  refine rg_move ?_
  simp only [qz]
  refine rg_assign ?_
  simp only [qz]
  refine rg_nil (ek_next (wk_seq ?_))
  have hix := ix_lt (N := N) (i := i) (k := k) hi Ox
  have hixl : i * N + k < xs.length := by rw [hlx.out]; exact hix
  have hin : ((i : Int) * N) = ((i * N : Nat) : Int) := (Int.natCast_mul _ _).symm
  refine wk_rt _ Kx (sc _ (sc _ (sc _ sn))) ?_
  refine rt_soft (i := 0) rfl Kx (fun c d v a w h => by cases d <;> exact h) (sc _ (sc _ (sc _ sn))) ?_
  refine rf_field (n := 0) (j := 1) rfl rfl rfl Try.underlying38 rfl Kx rfl ?_
  simp only [qz]
  refine rg_nil ?_
  refine ek_rt (sc _ (sc _ (sc _ sn))) ?_
  refine rt_soft (i := 1) rfl Kx (fun c d v a w h => by cases d <;> exact h) (sc _ (sc _ (sc _ sn))) ?_
  refine rf_load rfl rfl rfl Try.underlying36 rfl (fun w hw => (Kn.hd0 (Kn.tl (Kn.tl hw))).at rfl) ?_
  simp only [qz]
  refine rg_nil ?_
  refine ek_rt (sc _ (sc _ (sc _ sn))) ?_
  refine rt_soft (i := 2) rfl Kx (fun c d v a w h => by cases d <;> exact h) (sc _ (sc _ (sc _ sn))) ?_
  refine rg_move ?_
  simp only [qz]
  refine rg_nil ?_
  refine ek_rt (sc _ (sc _ (sc _ sn))) ?_
  refine rt_soft (i := 3) rfl Kx (fun c d v a w h => by cases d <;> exact h) (sc _ (sc _ (sc _ sn))) ?_
  refine rf_field (n := 0) (j := 0) rfl rfl rfl Try.underlying38 rfl Kx rfl ?_
  simp only [qz]
  refine rg_nil ?_
  refine ek_rt (sc _ (sc _ (sc _ sn))) ?_
  refine rt_soft (i := 4) rfl Kx (fun c d v a w h => by cases d <;> exact h) (sc _ (sc _ (sc _ sn))) ?_
  refine rf_load rfl rfl rfl Try.underlying3 rfl (fun w hw => (Kn.hd0 (Kn.tl (Kn.tl hw))).at rfl) ?_
  simp only [qz]
  refine rg_nil ?_
  refine ek_rt (sc _ (sc _ (sc _ sn))) ?_
  refine rt_soft (i := 5) rfl Kx (fun c d v a w h => by cases d <;> exact h) (sc _ (sc _ (sc _ sn))) ?_
  refine rf_mul (r := ((i * N : Nat) : Int)) rfl rfl rfl rfl (wrap_eqB hin Ox Ox) ?_
  simp only [qz]
  refine rg_nil ?_
  refine ek_rt (sc _ (sc _ (sc _ sn))) ?_
  refine rt_soft (i := 6) rfl Kx (fun c d v a w h => by cases d <;> exact h) (sc _ (sc _ (sc _ sn))) ?_
  refine rg_move ?_
  simp only [qz]
  refine rg_nil ?_
  refine ek_rt (sc _ (sc _ (sc _ sn))) ?_
  refine rt_soft (i := 7) rfl Kx (fun c d v a w h => by cases d <;> exact h) (sc _ (sc _ (sc _ sn))) ?_
  refine rf_add (r := ((i * N + k : Nat) : Int)) rfl rfl rfl rfl (wrap_eqB Ox Ox Ox) ?_
  simp only [qz]
  refine rg_nil ?_
  refine ek_rt (sc _ (sc _ (sc _ sn))) ?_
  refine rt_soft (i := 8) rfl Kx (fun c d v a w h => by cases d <;> exact h) (sc _ (sc _ (sc _ sn))) ?_
  refine rf_indexS (n := i * N + k) (sz := 5) (j := off + (i * N + k) * 5) rfl rfl rfl rfl Try.underlying36 Kx (by first | rfl | omega) (by rw [hlx.out]; omega) rfl ?_
  simp only [qz]
  refine rg_nil ?_
  refine ek_rt (sc _ (sc _ (sc _ sn))) ?_
  refine rt_soft (i := 9) rfl Kx (fun c d v a w h => by cases d <;> exact h) (sc _ (sc _ (sc _ sn))) ?_
  refine rf_loadC (n := 5) (vs := [.int .i64 (nm xs (i * N + k)).a, .int .i64 (nm xs (i * N + k)).b, .int .i64 (nm xs (i * N + k)).c, .int .i64 (nm xs (i * N + k)).d, .int .i64 (nm xs (i * N + k)).k]) rfl rfl rfl Try.underlying45 rfl Kx rfl (fun w hw => atN_range ((hcell (i * N + k) Ox).kn hw hlt (by simp))) ?_
  simp only [qz]
  refine rg_nil ?_
  refine ek_rt (sc _ (sc _ (sc _ sn))) ?_
  refine rt_soft (i := 10) rfl Kx (fun c d v a w h => by cases d <;> exact h) (sc _ (sc _ (sc _ sn))) ?_
  refine rg_move ?_
  simp only [qz]
  refine rg_nil ?_
  refine ek_rt (sc _ (sc _ (sc _ sn))) ?_
  refine rt_soft (i := 11) rfl Kx (fun c d v a w h => by cases d <;> exact h) (sc _ (sc _ (sc _ sn))) ?_
  refine rg_move ?_
  simp only [qz]
  refine rg_nil ?_
  refine ek_rt (sc _ (sc _ (sc _ sn))) ?_
  refine rt_soft (i := 12) rfl Kx (fun c d v a w h => by cases d <;> exact h) (sc _ (sc _ (sc _ sn))) ?_
  refine rf_indexS (n := k) (sz := 5) (j := off' + k * 5) rfl rfl rfl rfl Try.underlying36 Kx Ox Ox rfl ?_
  simp only [qz]
  refine rg_nil ?_
  refine ek_rt (sc _ (sc _ (sc _ sn))) ?_
  refine rt_soft (i := 13) rfl Kx (fun c d v a w h => by cases d <;> exact h) (sc _ (sc _ (sc _ sn))) ?_
  refine rf_loadC (n := 5) (vs := [.int .i64 (nm vs k).a, .int .i64 (nm vs k).b, .int .i64 (nm vs k).c, .int .i64 (nm vs k).d, .int .i64 (nm vs k).k]) rfl rfl rfl Try.underlying45 rfl Kx rfl (fun w hw => atN_range ((hcell' k Ox).kn hw hlt' (by simp))) ?_
  simp only [qz]
  refine rg_nil ?_
  refine ek_rt (sc _ (sc _ (sc _ sn))) ?_
  refine rt_hard2 (i := 14) (j := 18) Kx rfl rfl ?_ ?_
  · apply rg_pure Rx Kx
    case hargs => exact Ax
    case h => exact fun w hw => r1Mul_ok (nm xs (i * N + k)) (nm vs k) (hox k Ox) (hov k Ox) w
    case hz => exact (fun _ h => by cases h; exact (sc _ (sc _ (sc _ sn))))
    obtain ⟨p, ep, hpv, hp0, hp1⟩ := numV_veR ((nm xs (i * N + k)).mul (nm vs k))
    rw [hpv]
    replace hp0 := fun h => hp0 h mul_cd
    clear hpv
    simp only [qz]
    refine rg_nil ?_
    refine ek_rt (sc _ (sc _ (sc _ sn))) ?_
    refine rt_soft (i := 15) rfl Kx (fun c d v a w h => by cases d <;> exact h) (sc _ (sc _ (sc _ sn))) ?_
    refine rg_move ?_
    simp only [qz]
    refine rg_nil ?_
    refine ek_rt (sc _ (sc _ (sc _ sn))) ?_
    refine rt_soft (i := 16) rfl Kx (fun c d v a w h => by cases d <;> exact h) (sc _ (sc _ (sc _ sn))) ?_
    refine rf_extract rfl rfl rfl rfl ?_
    simp only [qz]
    refine rg_nil ?_
    refine ek_rt (sc _ (sc _ (sc _ sn))) ?_
    refine rt_soft (i := 17) rfl Kx (fun c d v a w h => by cases d <;> exact h) (sc _ (sc _ (sc _ sn))) ?_
    refine rf_extract rfl rfl rfl rfl ?_
    simp only [qz]
    refine rg_nil ?_
    refine ek_rt (sc _ (sc _ (sc _ sn))) ?_
    refine rt_hard1 (i := 18) Kx rfl ?_
    refine rg_new (cs := ?_) (ty := ?_) Rx (fun w => ?_) (fun _ h => by cases h; exact (sc _ (sc _ (sc _ sn)))) (fun g4 => ?_); rotate_left 2
    focus (go_simp; rfl)
    simp only [qz]
    refine rg_nil ?_
    refine ek_rt (sk _ (sc _ (sc _ (sc _ sn)))) ?_
    refine rt_hard1 (i := 19) Kx rfl ?_
    refine rf_storeR (n := 5) rfl rfl Kx rfl rfl (UpdR.here _ _ _ Nl) (fun _ h => by cases h; exact (sk _ (sc _ (sc _ (sc _ sn))))) ?_
    simp only [qz, Nat.reduceAdd]
    refine rg_nil ?_
    refine ek_rt (sk _ (sc _ (sc _ (sc _ sn)))) ?_
    refine rt_soft (i := 20) rfl Kx (fun c d v a w h => by cases d <;> exact h) (sk _ (sc _ (sc _ (sc _ sn)))) ?_
    refine rg_assign ?_
    simp only [qz]
    refine rg_nil ?_
    refine ek_rt (sk _ (sc _ (sc _ (sc _ sn)))) ?_
    refine rt_nil Kx ?_
    refine ek_next (wk_seq (wk_seq ?_))
    refine wk_region [0, 0] rfl Kx ?_
    simp only [qy]
    refine rg_move ?_
    simp only [qz]
    refine rfb_neq rfl rfl rfl rfl ?_
    intro x h2
    cases x
    · (try simp only [qd, ne_eq] at h2)
      simp only [qz]
      refine rg_nil (ek_next (wk_cond_f rfl (wk_skip (ek_next (wk_seq ?_)))))
      have hpm := hp0 Ox
      have hpo := (mk_ok (mulR_k (hox k Ox).k0 (hov k Ox).k0) hpm).1
      refine wk_region [0, 0, 1, 0, 0, 0, 1, 0] rfl Kx ?_
      simp only [qy]
      refine rf_loadR (n := 5) rfl rfl rfl Try.underlying45 rfl Kx (fun w hw => Kn.hd0 (Kn.tl hw)) rfl rfl ?_
      simp only [qz]
      refine rf_loadR (n := 5) rfl rfl rfl Try.underlying45 rfl Kx (fun w hw => Kn.hd0 hw) rfl rfl ?_
      simp only [qz]
      apply rg_pure Rx Kx
      case hargs => exact Ax
      case h => exact fun w hw => r1Add_ok sm p hso hpo w
      case hz => exact Nz
      obtain ⟨s2, es2, hs2v, hs20, hs21⟩ := numV_veR (sm.add p)
      rw [hs2v]
      replace hs20 := fun h => hs20 h add_cd
      clear hs2v
      simp only [qz]
      refine rg_move ?_
      simp only [qz]
      refine rf_extract rfl rfl rfl rfl ?_
      simp only [qz]
      refine rf_extract rfl rfl rfl rfl ?_
      simp only [qz]
      refine rf_storeR (n := 5) rfl rfl Kx rfl rfl (UpdR.there _ (UpdR.here _ _ _ Nl)) Nz ?_
      simp only [qz, Nat.reduceAdd]
      refine rg_assign ?_
      simp only [qz]
      refine rg_nil (ek_next (wk_seq ?_))
      refine wk_region [0, 0] rfl Kx ?_
      simp only [qy]
      refine rg_move ?_
      simp only [qz]
      refine rfb_neq rfl rfl rfl rfl ?_
      intro x h3
      cases x
      · (try simp only [qd, ne_eq] at h3)
        simp only [qz]
        refine rg_nil (ek_next (wk_cond_f rfl (wk_skip (ek_block (ek_next ?_)))))
        refine wk_region [0, 0] rfl Kx ?_
        simp only [qy]
        refine rf_add rfl rfl rfl rfl (wrap_ok Ox Ox) ?_
        simp only [qz]
        refine rg_move ?_
        simp only [qz]
        refine rg_nil ?_
        have hs2m := hs20 Ox
        have hs2o := (mk_ok (addR_k hso.k0) hs2m).1
        refine ek_sub (sk _ (sc _ (sc _ (sc _ sn)))) ?_
        refine ek_roundF (N - (k + 1)) Ox Kx ?_
        exact ⟨k + 1, s2, rfl, by rfl, by rfl, Ox, (Lib.hid (by simp only [prodsR, hd2.out, hpm]; exact hs2m)), hs2o⟩
      (try simp only [qd, ne_eq] at h3)
      simp only [qz]
      refine rg_nil (ek_next (wk_cond_t rfl (wk_seq ?_)))
      refine wk_region [1, 0, 1, 0] rfl Kx ?_
      simp only [qy]
      apply rg_pure Rx Kx
      case hargs => exact Ax
      case h => exact fun w hw => r3none_any w
      case hz => exact Nz
      simp only [qz]
      refine rg_move ?_
      simp only [qz]
      refine rf_storeR (n := 5) rfl rfl Kx rfl rfl (UpdR.there _ (UpdR.there _ (UpdR.here _ _ _ Nl))) Nz ?_
      simp only [qz, Nat.reduceAdd]
      refine rg_assign ?_
      simp only [qz]
      refine rg_nil (ek_next (wk_ret (ek_block_ret (ek_then_ret (ek_then_ret (ek_block_ret (ek_then_ret ?_)))))))
      refine ek_ret (fun w hw => ⟨rfl, _, run_results2 rfl rfl (Kn.hd0 (Kn.tl (Kn.tl hw))) Try.underlying45 rfl Kx, ?_⟩)
      (try simp only [qz])
      have hse := hs21 Ox
      have hE : prodsR (fun j => nm xs (i * N + j)) (fun j => nm vs j) (k + 1) = .error es2 := by simp only [prodsR, hd2.out, hpm]; exact hse
      exact ⟨by rw [prodsR_err hE N Ox]; rfl, hw.below⟩
    (try simp only [qd, ne_eq] at h2)
    simp only [qz]
    refine rg_nil (ek_next (wk_cond_t rfl (wk_seq ?_)))
    refine wk_region [1, 0, 1, 0] rfl Kx ?_
    simp only [qy]
    apply rg_pure Rx Kx
    case hargs => exact Ax
    case h => exact fun w hw => r3none_any w
    case hz => exact Nz
    simp only [qz]
    refine rg_move ?_
    simp only [qz]
    refine rf_storeR (n := 5) rfl rfl Kx rfl rfl (UpdR.there _ (UpdR.there _ (UpdR.here _ _ _ Nl))) Nz ?_
    simp only [qz, Nat.reduceAdd]
    refine rg_assign ?_
    simp only [qz]
    refine rg_nil (ek_next (wk_ret (ek_then_ret (ek_block_ret (ek_then_ret (ek_then_ret (ek_block_ret (ek_then_ret ?_))))))))
    refine ek_ret (fun w hw => ⟨rfl, _, run_results2 rfl rfl (Kn.hd0 (Kn.tl (Kn.tl hw))) Try.underlying45 rfl Kx, ?_⟩)
    (try simp only [qz])
    have hpe := hp1 Ox
    have hE : prodsR (fun j => nm xs (i * N + j)) (fun j => nm vs j) (k + 1) = .error ep := by simp only [prodsR, hd2.out, hpe]
    exact ⟨by rw [prodsR_err hE N Ox]; rfl, hw.below⟩
  refine rg_new (cs := ?_) (ty := ?_) Rx (fun w => ?_) (fun _ h => by cases h; exact (sc _ (sc _ (sc _ sn)))) (fun g5 => ?_); rotate_left 2
  focus (go_simp; rfl)
  simp only [qz]
  refine rg_nil ?_
  refine ek_rt (sk _ (sc _ (sc _ (sc _ sn)))) ?_
  refine rt_hard1 (i := 14) Kx rfl ?_
  apply rg_pure Rx Kx
  case hargs => exact Ax
  case h => exact fun w hw => r1Mul_ok (nm xs (i * N + k)) (nm vs k) (hox k Ox) (hov k Ox) w
  case hz => exact (fun _ h => by cases h; exact (sk _ (sc _ (sc _ (sc _ sn)))))
  obtain ⟨p, ep, hpv, hp0, hp1⟩ := numV_veR ((nm xs (i * N + k)).mul (nm vs k))
  rw [hpv]
  replace hp0 := fun h => hp0 h mul_cd
  clear hpv
  simp only [qz]
  refine rg_nil ?_
  refine ek_rt (sk _ (sc _ (sc _ (sc _ sn)))) ?_
  refine rt_soft (i := 15) rfl Kx (fun c d v a w h => by cases d <;> exact h) (sk _ (sc _ (sc _ (sc _ sn)))) ?_
  refine rg_move ?_
  simp only [qz]
  refine rg_nil ?_
  refine ek_rt (sk _ (sc _ (sc _ (sc _ sn)))) ?_
  refine rt_soft (i := 16) rfl Kx (fun c d v a w h => by cases d <;> exact h) (sk _ (sc _ (sc _ (sc _ sn)))) ?_
  refine rf_extract rfl rfl rfl rfl ?_
  simp only [qz]
  refine rg_nil ?_
  refine ek_rt (sk _ (sc _ (sc _ (sc _ sn)))) ?_
  refine rt_soft (i := 17) rfl Kx (fun c d v a w h => by cases d <;> exact h) (sk _ (sc _ (sc _ (sc _ sn)))) ?_
  refine rf_extract rfl rfl rfl rfl ?_
  simp only [qz]
  refine rg_nil ?_
  refine ek_rt (sk _ (sc _ (sc _ (sc _ sn)))) ?_
  refine rt_hard1 (i := 19) Kx rfl ?_
  refine rf_storeR (n := 5) rfl rfl Kx rfl rfl (UpdR.here _ _ _ Nl) (fun _ h => by cases h; exact (sk _ (sc _ (sc _ (sc _ sn))))) ?_
  simp only [qz, Nat.reduceAdd]
  refine rg_nil ?_
  refine ek_rt (sk _ (sc _ (sc _ (sc _ sn)))) ?_
  refine rt_soft (i := 20) rfl Kx (fun c d v a w h => by cases d <;> exact h) (sk _ (sc _ (sc _ (sc _ sn)))) ?_
  refine rg_assign ?_
  simp only [qz]
  refine rg_nil ?_
  refine ek_rt (sk _ (sc _ (sc _ (sc _ sn)))) ?_
  refine rt_nil Kx ?_
  refine ek_next (wk_seq (wk_seq ?_))
  refine wk_region [0, 0] rfl Kx ?_
  simp only [qy]
  refine rg_move ?_
  simp only [qz]
  refine rfb_neq rfl rfl rfl rfl ?_
  intro x h4
  cases x
  · (try simp only [qd, ne_eq] at h4)
    simp only [qz]
    refine rg_nil (ek_next (wk_cond_f rfl (wk_skip (ek_next (wk_seq ?_)))))
    have hpm := hp0 Ox
    have hpo := (mk_ok (mulR_k (hox k Ox).k0 (hov k Ox).k0) hpm).1
    refine wk_region [0, 0, 1, 0, 0, 0, 1, 0] rfl Kx ?_
    simp only [qy]
    refine rf_loadR (n := 5) rfl rfl rfl Try.underlying45 rfl Kx (fun w hw => Kn.hd0 (Kn.tl hw)) rfl rfl ?_
    simp only [qz]
    refine rf_loadR (n := 5) rfl rfl rfl Try.underlying45 rfl Kx (fun w hw => Kn.hd0 hw) rfl rfl ?_
    simp only [qz]
    apply rg_pure Rx Kx
    case hargs => exact Ax
    case h => exact fun w hw => r1Add_ok sm p hso hpo w
    case hz => exact Nz
    obtain ⟨s2, es2, hs2v, hs20, hs21⟩ := numV_veR (sm.add p)
    rw [hs2v]
    replace hs20 := fun h => hs20 h add_cd
    clear hs2v
    simp only [qz]
    refine rg_move ?_
    simp only [qz]
    refine rf_extract rfl rfl rfl rfl ?_
    simp only [qz]
    refine rf_extract rfl rfl rfl rfl ?_
    simp only [qz]
    refine rf_storeR (n := 5) rfl rfl Kx rfl rfl (UpdR.there _ (UpdR.here _ _ _ Nl)) Nz ?_
    simp only [qz, Nat.reduceAdd]
    refine rg_assign ?_
    simp only [qz]
    refine rg_nil (ek_next (wk_seq ?_))
    refine wk_region [0, 0] rfl Kx ?_
    simp only [qy]
    refine rg_move ?_
    simp only [qz]
    refine rfb_neq rfl rfl rfl rfl ?_
    intro x h5
    cases x
    · (try simp only [qd, ne_eq] at h5)
      simp only [qz]
      refine rg_nil (ek_next (wk_cond_f rfl (wk_skip (ek_block (ek_next ?_)))))
      refine wk_region [0, 0] rfl Kx ?_
      simp only [qy]
      refine rf_add rfl rfl rfl rfl (wrap_ok Ox Ox) ?_
      simp only [qz]
      refine rg_move ?_
      simp only [qz]
      refine rg_nil ?_
      have hs2m := hs20 Ox
      have hs2o := (mk_ok (addR_k hso.k0) hs2m).1
      refine ek_sub (sk _ (sc _ (sc _ (sc _ sn)))) ?_
      refine ek_roundF (N - (k + 1)) Ox Kx ?_
      exact ⟨k + 1, s2, rfl, by rfl, by rfl, Ox, (Lib.hid (by simp only [prodsR, hd2.out, hpm]; exact hs2m)), hs2o⟩
    (try simp only [qd, ne_eq] at h5)
    simp only [qz]
    refine rg_nil (ek_next (wk_cond_t rfl (wk_seq ?_)))
    refine wk_region [1, 0, 1, 0] rfl Kx ?_
    simp only [qy]
    apply rg_pure Rx Kx
    case hargs => exact Ax
    case h => exact fun w hw => r3none_any w
    case hz => exact Nz
    simp only [qz]
    refine rg_move ?_
    simp only [qz]
    refine rf_storeR (n := 5) rfl rfl Kx rfl rfl (UpdR.there _ (UpdR.there _ (UpdR.here _ _ _ Nl))) Nz ?_
    simp only [qz, Nat.reduceAdd]
    refine rg_assign ?_
    simp only [qz]
    refine rg_nil (ek_next (wk_ret (ek_block_ret (ek_then_ret (ek_then_ret (ek_block_ret (ek_then_ret ?_)))))))
    refine ek_ret (fun w hw => ⟨rfl, _, run_results2 rfl rfl (Kn.hd0 (Kn.tl (Kn.tl hw))) Try.underlying45 rfl Kx, ?_⟩)
    (try simp only [qz])
    have hse := hs21 Ox
    have hE : prodsR (fun j => nm xs (i * N + j)) (fun j => nm vs j) (k + 1) = .error es2 := by simp only [prodsR, hd2.out, hpm]; exact hse
    exact ⟨by rw [prodsR_err hE N Ox]; rfl, hw.below⟩
  (try simp only [qd, ne_eq] at h4)
  simp only [qz]
  refine rg_nil (ek_next (wk_cond_t rfl (wk_seq ?_)))
  refine wk_region [1, 0, 1, 0] rfl Kx ?_
  simp only [qy]
  apply rg_pure Rx Kx
  case hargs => exact Ax
  case h => exact fun w hw => r3none_any w
  case hz => exact Nz
  simp only [qz]
  refine rg_move ?_
  simp only [qz]
  refine rf_storeR (n := 5) rfl rfl Kx rfl rfl (UpdR.there _ (UpdR.there _ (UpdR.here _ _ _ Nl))) Nz ?_
  simp only [qz, Nat.reduceAdd]
  refine rg_assign ?_
  simp only [qz]
  refine rg_nil (ek_next (wk_ret (ek_then_ret (ek_block_ret (ek_then_ret (ek_then_ret (ek_block_ret (ek_then_ret ?_))))))))
  refine ek_ret (fun w hw => ⟨rfl, _, run_results2 rfl rfl (Kn.hd0 (Kn.tl (Kn.tl hw))) Try.underlying45 rfl Kx, ?_⟩)
  (try simp only [qz])
  have hpe := hp1 Ox
  have hE : prodsR (fun j => nm xs (i * N + j)) (fun j => nm vs j) (k + 1) = .error ep := by simp only [prodsR, hd2.out, hpe]
  exact ⟨by rw [prodsR_err hE N Ox]; rfl, hw.below⟩

end Go.Proofs.Ytccbinnlnkpplaa
namespace Go.Proofs.Ytccbinnlnkpplaa
set_option linter.all false
open Go.RowKit

/-- A column's first elements. -/
def coQ (ys : List Nm) (N k n : Nat) : List Nm := (List.range n).map fun j => nm ys (j * N + k)
theorem coQ_len (ys : List Nm) (N k n : Nat) : (coQ ys N k n).length = n := by simp [coQ]
theorem coQ_succ (ys : List Nm) (N k n : Nat) : coQ ys N k (n + 1) = coQ ys N k n ++ [nm ys (n * N + k)] := by unfold coQ; rw [List.range_succ, List.map_append]; rfl
theorem coQ_at {ys : List Nm} {N k n j : Nat} (h : j < n) : nm (coQ ys N k n) j = nm ys (j * N + k) := by
  show El.at NmE _ _ = _
  unfold El.at coQ
  rw [List.getD_eq_getElem?_getD, List.getElem?_map, List.getElem?_range h]
  rfl
theorem prodsR_congQ {x y x' y' : Nat → Nm} : ∀ n, (∀ k, k < n → x k = x' k) → (∀ k, k < n → y k = y' k) → prodsR x y n = prodsR x' y' n
  | 0, _, _ => rfl
  | n + 1, hx, hy => by
    have ih := prodsR_congQ n (fun k hk => hx k Ox) (fun k hk => hy k Ox)
    simp only [prodsR, ih, hx n Ox, hy n Ox]
theorem r3row_col (N i k : Nat) (xs ys : List Nm) (a a' : Option Addr) (c c' : Nat) (hN1 : 1 ≤ N) (hN6 : N ≤ 6) (hi : i < N) (hk : k < N) (hlx : xs.length = N * N) (hly : ys.length = N * N) (hox : allOk xs = true) (hoy : allOk ys = true) (w : World) (hA : AS w a (nms xs)) (hB : AS w a' (nms (coQ ys N k N))) :
    Calls Try.prog 165 #[.agg #[.int .i64 N, .slice a xs.length c], .int .i64 i, .slice a' (coQ ys N k N).length c'] w fun e w' => e = .returned (numV (mulF N xs ys i k)) ∧ Below w.heap.size w w' := by
  have h := r3row_any N i xs (coQ ys N k N) a a' c c' hN1 hN6 hi hlx (coQ_len ys N k N) (fun j hj => elemOk hox hlx hi hj) (fun j hj => by rw [coQ_at hj]; exact elemOk hoy hly hj hk) w hA hB
  rw [prodsR_congQ (x' := fun j => nm xs (i * N + j)) (y' := fun j => nm ys (j * N + k)) N (fun _ _ => rfl) (fun j hj => coQ_at hj)] at h
  exact h
theorem mulF_cd {N : Nat} {xs ys : List Nm} {i k : Nat} (c : Int) (h : mulF N xs ys i k = .error c) : c ≠ 0 := by have := prodsR_code h; omega
set_option maxRecDepth 100000 in
set_option maxHeartbeats 1000000 in
theorem r3times_any (N : Nat) (xs ys : List Nm) (a a' : Option Addr) (c c' : Nat) (hN1 : 1 ≤ N) (hN6 : N ≤ 6) (hlx : xs.length = N * N) (hly : ys.length = N * N) (hox : allOk xs = true) (hoy : allOk ys = true) (w : World) (hA : AS w a (nms xs)) (hB : AS w a' (nms ys)) : Calls Try.prog 125 #[.agg #[.int .i64 N, .slice a xs.length c], .agg #[.int .i64 N, .slice a' ys.length c']] w fun e w' => RetM w (rN N (madeR N (mulF N xs ys))) (rL (madeR N (mulF N xs ys))) (rC (madeR N (mulF N xs ys))) e w' := by
  obtain ⟨b', off', rfl, hlt', hcell'⟩ := AS.openN hB (by rw [hly]; exact Nat.mul_pos Ox Ox)
  have hNN := Nat.mul_le_mul hN6 hN6
  have hlx1 : xs.length ≤ 36 := by omega
  have hly1 : ys.length ≤ 36 := by omega
  replace hlx := Lib.hid hlx
  replace hly := Lib.hid hly
  go_enter Try.func125, Try.ntmps125
  refine wk_start ?_
  refine wk_seq ?_
  refine wk_region [1, 1, 1, 0] rfl Kx ?_
  simp only [qy]
  refine Rgn fun g1 => ?_
  simp only [qz]
  refine Rgn fun g2 => ?_
  simp only [qz]
  refine Rgn fun g3 => ?_
  simp only [qz]
  refine rg_assign ?_
  simp only [qz]
  refine rg_nil (ek_next (wk_seq ?_))
  refine wk_region [0, 0, 0, 1, 1] rfl Kx ?_
  simp only [qy]
  refine rf_field (n := 0) (j := 0) rfl rfl rfl Try.underlying38 rfl Kx rfl ?_
  simp only [qz]
  refine rf_load rfl rfl rfl Try.underlying3 rfl (fun w hw => (Kn.hd0 (Kn.tl (Kn.tl hw))).at rfl) ?_
  simp only [qz]
  refine rf_build (cs := fun a => #[a.eval (.tmp 14), .slice none 0 0]) rfl rfl Kx ?_
  simp only [qz]
  refine Rgn fun g4 => ?_
  simp only [qz]
  refine rf_storeR (n := 2) rfl rfl Kx rfl rfl (UpdR.here _ _ _ Nl) Nz ?_
  simp only [qz, Nat.reduceAdd]
  refine rg_nil (ek_next (wk_seq (wk_seq ?_)))
  refine wk_region [0, 0, 0] rfl Kx ?_
  simp only [qy]
  refine rf_field (n := 0) (j := 0) rfl rfl rfl Try.underlying38 rfl Kx rfl ?_
  simp only [qz]
  refine rf_load rfl rfl rfl Try.underlying3 rfl (fun w hw => (Kn.hd0 (Kn.tl (Kn.tl (Kn.tl hw)))).at rfl) ?_
  simp only [qz]
  refine rg_move ?_
  simp only [qz]
  refine rg_nil (ek_next (wk_block ?_))
  refine wk_loopF [5, 7, 8, 9, 10, 11, 12, 18, 19, 20, 21, 22, 23, 24, 25, 26, 27, 28, 29, 30, 31, 32, 33, 34, 35, 36, 37, 38, 39, 40, 41, 42, 43, 44, 45, 46, 47, 48, 49, 50, 51, 52, 53, 54, 55, 56, 57, 58, 59, 60, 61, 62, 63] (fun mz f s => ∃ (i : Nat) (l : List Nm) (u : List Blk) (av : Option Addr) (cv : Nat), f 18 = .int .i64 i ∧ s = (u ++ ((g4, .cells #[.int .i64 N, .slice av l.length cv] 38) :: ((g3, .cells #[.int .i64 0, .slice none 0 0] 38) :: ((g2, .cells #[.int .i64 N, .slice (some ⟨b', off', none⟩) ys.length c'] 38) :: ((g1, .cells #[.int .i64 N, .slice a xs.length c] 38) :: []))))) ∧ mz = N - i ∧ i ≤ N ∧ Hid (gather (fun t => mulF N xs ys (t / N) (t % N)) (i * N) = .ok l) ∧ OwnN u (.slice av l.length cv) l) ((fun (i : Nat) (l : List Nm) (u : List Blk) (av : Option Addr) (cv : Nat) => N - i) (0) ([]) ([]) (none) (0)) ?_ Kx ?_
  · exact ⟨0, [], [], none, 0, rfl, rfl, rfl, by omega, (Lib.hid (by (try rw [Nat.zero_mul]); (try rfl))), OwnG.nil⟩
  rintro mz f1 s ⟨i, l, u, av, cv, hs1_18, rfl, hn, hd1, hd2, hd3⟩
  simp only [Act.putF, List.foldl_cons, List.foldl_nil, hs1_18, Act.put, Act.eval, q1, q2, q3, q4, q5, q6, q7, q8, q9, q10, q11, q12, q13, q14, q15, q16, q17, q18, Nat.reduceAdd, Bool.not_true, Bool.not_false]
  clear hs1_18
  refine wk_seq ?_
  refine wk_region [0] rfl Kx ?_
  simp only [qy]
  refine rfb_lss rfl rfl rfl rfl ?_
  intro x h1
  cases x
  · (try simp only [qd, ne_eq] at h1)
    simp only [qz]
    refine rg_nil (ek_next (wk_seq (wk_cond_f rfl (wk_exit (ek_then_exit (ek_then_exit (ek_block_exit (ek_next (wk_seq ?_)))))))))
    refine wk_region [0, 1, 0] rfl Kx ?_
    simp only [qy]
    refine rf_loadR (n := 2) rfl rfl rfl Try.underlying38 rfl Kx (fun w hw => Kn.hd0 (Kn.tlU hw)) rfl rfl ?_
    simp only [qz]
    refine rf_storeR (n := 2) rfl rfl Kx rfl rfl (UpdR.app _ (UpdR.there _ (UpdR.here _ _ _ Nl))) Nz ?_
    simp only [qz, Nat.reduceAdd]
    refine rg_assign ?_
    simp only [qz]
    refine rg_nil (ek_next (wk_ret ?_))
    refine ek_ret (fun w hw => ⟨rfl, _, run_results2 rfl rfl (Kn.hd0 (Kn.tl (Kn.tlU hw))) Try.underlying38 rfl Kx, ?_⟩)
    (try simp only [qz])
    obtain rfl : N = i := by omega
    have hg : madeR N (mulF N xs ys) = .ok l := hd2.out
    rw [hg]
    exact ⟨_, u, rfl, hd3, hw.made (List.sublist_append_left _ _)⟩
  (try simp only [qd, ne_eq] at h1)
  simp only [qz]
  refine rg_nil (ek_next (wk_seq (wk_cond_t rfl (wk_skip (ek_next (wk_seq (wk_block (wk_seq ?_))))))))
  refine wk_region [0, 0] rfl Kx ?_
  simp only [qy]
  refine rg_move ?_
  simp only [qz]
  refine rg_assign ?_
  simp only [qz]
  refine rg_nil (ek_next (wk_seq ?_))
  refine wk_region [0, 0, 0] rfl Kx ?_
  simp only [qy]
  refine rf_field (n := 0) (j := 0) rfl rfl rfl Try.underlying38 rfl Kx rfl ?_
  simp only [qz]
  refine rf_load rfl rfl rfl Try.underlying3 rfl (fun w hw => (Kn.hd0 (Kn.tl (Kn.tl (Kn.tl (Kn.tlU hw))))).at rfl) ?_
  simp only [qz]
  refine rg_move ?_
  simp only [qz]
  refine rg_nil (ek_next (wk_block ?_))
  refine wk_loopF [5, 8, 9, 10, 11, 12, 23, 24, 25, 26, 27, 28, 29, 30, 31, 32, 33, 34, 35, 36, 37, 38, 39, 40, 41, 42, 43, 44, 45, 46, 47, 48, 49, 50, 51, 52, 53, 54, 55, 56, 57, 58, 59, 60, 61, 62] (fun mz f s => ∃ (k : Nat) (l : List Nm) (u : List Blk) (av : Option Addr) (cv : Nat), f 23 = .int .i64 k ∧ s = (u ++ ((g4, .cells #[.int .i64 N, .slice av l.length cv] 38) :: ((g3, .cells #[.int .i64 0, .slice none 0 0] 38) :: ((g2, .cells #[.int .i64 N, .slice (some ⟨b', off', none⟩) ys.length c'] 38) :: ((g1, .cells #[.int .i64 N, .slice a xs.length c] 38) :: []))))) ∧ mz = N - k ∧ k ≤ N ∧ Hid (gather (fun t => mulF N xs ys (t / N) (t % N)) (i * N + k) = .ok l) ∧ OwnN u (.slice av l.length cv) l) ((fun (k : Nat) (l : List Nm) (u : List Blk) (av : Option Addr) (cv : Nat) => N - k) (0) (l) (u) (av) (cv)) ?_ Kx ?_
  · exact ⟨0, l, u, av, cv, rfl, rfl, rfl, by omega, hd2, hd3⟩
  rintro mz f2 s ⟨k, l, u, av, cv, hs2_23, rfl, hn, he1, he2, he3⟩
  simp only [Act.putF, List.foldl_cons, List.foldl_nil, hs2_23, Act.put, Act.eval, q1, q2, q3, q4, q5, q6, q7, q8, q9, q10, q11, q12, q13, q14, q15, q16, q17, q18, Nat.reduceAdd, Bool.not_true, Bool.not_false]
  clear hs2_23
  have hll : l.length ≤ 42 := by (have h1 := gather_len he2.out; have h2 := ix_small (i := i) (N := N) Ox hN6; omega)
  refine wk_seq ?_
  refine wk_region [0] rfl Kx ?_
  simp only [qy]
  refine rfb_lss rfl rfl rfl rfl ?_
  intro x h2
  cases x
  · (try simp only [qd, ne_eq] at h2)
    simp only [qz]
    refine rg_nil (ek_next (wk_seq (wk_cond_f rfl (wk_exit (ek_then_exit (ek_then_exit (ek_block_exit (ek_block (ek_next ?_)))))))))
    refine wk_region [0, 0] rfl Kx ?_
    simp only [qy]
    refine rf_add rfl rfl rfl rfl (wrap_ok Ox Ox) ?_
    simp only [qz]
    refine rg_move ?_
    simp only [qz]
    refine rg_nil ?_
    obtain rfl : N = k := by omega
    refine ek_roundF (N - (i + 1)) Ox Kx ?_
    exact ⟨i + 1, l, u, av, cv, rfl, by rfl, by rfl, Ox, (Lib.hid (by rw [← he2.out, Nat.add_mul, Nat.one_mul])), he3⟩
  (try simp only [qd, ne_eq] at h2)
  simp only [qz]
  refine rg_nil (ek_next (wk_seq (wk_cond_t rfl (wk_skip (ek_next (wk_seq (wk_block (wk_seq ?_))))))))
  refine wk_region [0, 0] rfl Kx ?_
  simp only [qy]
  refine rg_move ?_
  simp only [qz]
  refine rg_assign ?_
  simp only [qz]
  refine rg_nil (ek_next (wk_seq ?_))
  refine wk_region [0] rfl Kx ?_
  simp only [qy]
  refine rg_assign ?_
  simp only [qz]
  refine rg_nil (ek_next (wk_seq (wk_seq ?_)))
  refine wk_region [0, 0, 0] rfl Kx ?_
  simp only [qy]
  refine rf_field (n := 0) (j := 0) rfl rfl rfl Try.underlying38 rfl Kx rfl ?_
  simp only [qz]
  refine rf_load rfl rfl rfl Try.underlying3 rfl (fun w hw => (Kn.hd0 (Kn.tl (Kn.tl (Kn.tl (Kn.tlU hw))))).at rfl) ?_
  simp only [qz]
  refine rg_move ?_
  simp only [qz]
  refine rg_nil (ek_next (wk_block ?_))
  refine wk_loopF [9, 10, 28, 29, 30, 31, 32, 33, 34, 35, 36, 37, 38, 39, 40, 41, 42, 43, 44] (fun mz f s => ∃ (n m : Nat) (uC : List Blk) (aC : Option Addr) (cC : Nat), f 9 = .slice aC m cC ∧ f 28 = .int .i64 n ∧ s = (uC ++ (u ++ ((g4, .cells #[.int .i64 N, .slice av l.length cv] 38) :: ((g3, .cells #[.int .i64 0, .slice none 0 0] 38) :: ((g2, .cells #[.int .i64 N, .slice (some ⟨b', off', none⟩) ys.length c'] 38) :: ((g1, .cells #[.int .i64 N, .slice a xs.length c] 38) :: [])))))) ∧ mz = N - n ∧ n ≤ N ∧ OwnN uC (.slice aC m cC) (coQ ys N k n) ∧ Hid (m = n)) ((fun (n m : Nat) (uC : List Blk) (aC : Option Addr) (cC : Nat) => N - n) (0) (0) ([]) (none) (0)) ?_ Kx ?_
  · exact ⟨0, 0, [], none, 0, rfl, rfl, rfl, rfl, by omega, OwnG.nil, Lib.hid rfl⟩
  rintro mz f3 s ⟨n, m, uC, aC, cC, hs3_9, hs3_28, rfl, hn, hf1, hf2, hf3⟩
  simp only [Act.putF, List.foldl_cons, List.foldl_nil, hs3_9, hs3_28, Act.put, Act.eval, q1, q2, q3, q4, q5, q6, q7, q8, q9, q10, q11, q12, q13, q14, q15, q16, q17, q18, Nat.reduceAdd, Bool.not_true, Bool.not_false]
  clear hs3_9 hs3_28
  have hcl : (coQ ys N k n).length ≤ 36 := by rw [coQ_len]; omega
  refine wk_seq ?_
  refine wk_region [0] rfl Kx ?_
  simp only [qy]
  refine rfb_lss rfl rfl rfl rfl ?_
  intro x h3
  cases x
  · (try simp only [qd, ne_eq] at h3)
    simp only [qz]
    refine rg_nil (ek_next (wk_seq (wk_cond_f rfl (wk_exit (ek_then_exit (ek_then_exit (ek_block_exit (ek_next (wk_seq ?_)))))))))
    refine wk_region [0, 0, 0, 1, 0, 0, 0, 1, 1, 0] rfl Kx ?_
    simp only [qy]
    refine rf_loadR (n := 2) rfl rfl rfl Try.underlying38 rfl Kx (fun w hw => Kn.hd0 (Kn.tl (Kn.tl (Kn.tl (Kn.tlU (Kn.tlU hw)))))) rfl rfl ?_
    simp only [qz]
    refine rg_move ?_
    simp only [qz]
    refine rg_move ?_
    simp only [qz]
    obtain rfl : N = n := by omega
    obtain rfl : (coQ ys N k N).length = m := by rw [coQ_len]; exact hf3.out.symm
    apply rg_pure Rx Kx
    case hargs => exact Ax
    case h => exact fun w hw => r3row_col N i k xs ys a aC c cC hN1 hN6 Ox Ox hlx.out hly.out hox hoy w (hA.kn0 hw) (hf2.asM (hw.perm (List.Perm.refl _)))
    case hz => exact Nz
    obtain ⟨x, ex, hxv, hx0, hx1⟩ := numV_veR (mulF N xs ys i k)
    rw [hxv]
    replace hx0 := fun h => hx0 h mulF_cd
    clear hxv
    simp only [qz]
    refine rg_move ?_
    simp only [qz]
    refine rf_extract rfl rfl rfl rfl ?_
    simp only [qz]
    refine rf_extract rfl rfl rfl rfl ?_
    simp only [qz]
    refine Rgn fun g5 => ?_
    simp only [qz]
    refine rf_storeR (n := 5) rfl rfl Kx rfl rfl (UpdR.here _ _ _ Nl) Nz ?_
    simp only [qz, Nat.reduceAdd]
    refine rg_assign ?_
    simp only [qz]
    refine rg_nil (ek_next (wk_seq (wk_seq ?_)))
    refine wk_region [0, 0] rfl Kx ?_
    simp only [qy]
    refine rg_move ?_
    simp only [qz]
    refine rfb_neq rfl rfl rfl rfl ?_
    intro x h4
    cases x
    · (try simp only [qd, ne_eq] at h4)
      simp only [qz]
      refine rg_nil (ek_next (wk_cond_f rfl (wk_skip (ek_next ?_))))
      refine wk_region [0, 0, 0, 1, 1, 0, 1] rfl Kx ?_
      simp only [qy]
      refine rf_field (n := 0) (j := 1) rfl rfl rfl Try.underlying38 rfl Kx rfl ?_
      simp only [qz]
      refine rf_load rfl rfl rfl Try.underlying36 rfl (fun w hw => (Kn.hd0 (Kn.tlU (Kn.tlU (Kn.tl hw)))).at rfl) ?_
      simp only [qz]
      refine rf_loadR (n := 5) rfl rfl rfl Try.underlying45 rfl Kx (fun w hw => Kn.hd0 hw) rfl rfl ?_
      simp only [qz]
      refine rg_newS (cs := ?_) (ty := ?_) (n := 1) (c := 1) Rx (fun w => ?_) Nz (fun g6 => ?_); rotate_left 2
      focus (go_simp; rfl)
      simp only [qz]
      refine rg_appN (x := x) Rx rfl he3 rfl Ox ((((((((List.Perm.refl _).append_left _).trans (List.perm_append_comm_assoc uC u _)).cons _).trans (List.perm_middle (l₁ := u)).symm).cons _).trans (List.perm_middle (l₁ := u)).symm).trans ((List.Perm.refl _).append_left _)) (fun w hw => Kn.hd0 hw) Nz (fun uN1 aN1 cN1 hON1 => ?_)
      simp only [qz]
      refine rf_field (n := 0) (j := 1) rfl rfl rfl Try.underlying38 rfl Kx rfl ?_
      simp only [qz]
      refine rf_store rfl rfl Kx rfl rfl (UpdR.app _ (UpdR.there _ (UpdR.there _ (UpdR.app _ (UpdR.here _ _ _ Nl))))) Nz ?_
      simp only [qz]
      refine rg_nil (ek_block (ek_next ?_))
      refine wk_region [0, 0] rfl Kx ?_
      simp only [qy]
      refine rf_add rfl rfl rfl rfl (wrap_ok Ox Ox) ?_
      simp only [qz]
      refine rg_move ?_
      simp only [qz]
      refine rg_nil ?_
      have hxm := hx0 Ox
      refine ek_sub (List.Sublist.append_left (sk _ (sk _ ((sc _ (sc _ (sc _ (sc _ sn)))).trans (List.sublist_append_right _ _)))) _) ?_
      refine ek_roundF (N - (k + 1)) Ox Kx ?_
      exact ⟨k + 1, l ++ [x], uN1, aN1, cN1, rfl, (by simp only [List.length_append, List.length_cons, List.length_nil, Nat.zero_add]), by rfl, Ox, (Lib.hid (by rw [← Nat.add_assoc]; exact gather_ok he2.out (by (try dsimp only); rw [ix_div Ox, ix_mod Ox]; exact hxm))), (by simpa using hON1)⟩
    (try simp only [qd, ne_eq] at h4)
    simp only [qz]
    refine rg_nil (ek_next (wk_cond_t rfl (wk_seq ?_)))
    refine wk_region [0, 0, 1, 0] rfl Kx ?_
    simp only [qy]
    refine rf_build (cs := fun a => #[.int .i64 0, .slice none 0 0]) rfl rfl Kx ?_
    simp only [qz]
    refine rg_move ?_
    simp only [qz]
    refine rf_storeR (n := 2) rfl rfl Kx rfl rfl (UpdR.there _ (UpdR.app _ (UpdR.app _ (UpdR.there _ (UpdR.here _ _ _ Nl))))) Nz ?_
    simp only [qz, Nat.reduceAdd]
    refine rg_assign ?_
    simp only [qz]
    refine rg_nil (ek_next (wk_ret (ek_then_ret (ek_block_ret (ek_then_ret (ek_then_ret (ek_block_ret (ek_block_ret (ek_then_ret (ek_then_ret (ek_block_ret (ek_then_ret ?_))))))))))))
    refine ek_ret (fun w hw => ⟨rfl, _, run_results2 rfl rfl (Kn.hd0 (Kn.tl (Kn.tlU (Kn.tlU (Kn.tl hw))))) Try.underlying38 rfl Kx, ?_⟩)
    (try simp only [qz])
    have hxe := hx1 Ox
    have hg : madeR N (mulF N xs ys) = .error ex := gather_err (t := i * N + k) he2.out (by (try dsimp only); rw [ix_div Ox, ix_mod Ox]; exact hxe) (N * N) (ix_lt Ox Ox)
    exact retM_err (c := ex) hg hw.below
  (try simp only [qd, ne_eq] at h3)
  simp only [qz]
  refine rg_nil (ek_next (wk_seq (wk_cond_t rfl (wk_skip (ek_next (wk_seq (wk_block (wk_seq ?_))))))))
  refine wk_region [0, 0] rfl Kx ?_
  simp only [qy]
  refine rg_move ?_
  simp only [qz]
  refine rg_assign ?_
  simp only [qz]
  refine rg_nil (ek_next ?_)
  have hix := ix_lt (N := N) (i := n) (k := k) Ox Ox
  have hixl : n * N + k < ys.length := by rw [hly.out]; exact hix
  have hnN : ((n : Int) * N) = ((n * N : Nat) : Int) := (Int.natCast_mul _ _).symm
  replace hnN := Lib.hid hnN
  refine wk_region [0, 0, 0, 0, 0, 0, 0, 0, 0, 0, 0, 1, 1, 0] rfl Kx ?_
  simp only [qy]
  refine rg_move ?_
  simp only [qz]
  refine rf_field (n := 0) (j := 1) rfl rfl rfl Try.underlying38 rfl Kx rfl ?_
  simp only [qz]
  refine rf_load rfl rfl rfl Try.underlying36 rfl (fun w hw => (Kn.hd0 (Kn.tl (Kn.tl (Kn.tlU (Kn.tlU hw))))).at rfl) ?_
  simp only [qz]
  refine rg_move ?_
  simp only [qz]
  refine rf_field (n := 0) (j := 0) rfl rfl rfl Try.underlying38 rfl Kx rfl ?_
  simp only [qz]
  refine rf_load rfl rfl rfl Try.underlying3 rfl (fun w hw => (Kn.hd0 (Kn.tl (Kn.tl (Kn.tl (Kn.tlU (Kn.tlU hw)))))).at rfl) ?_
  simp only [qz]
  refine rf_mul (r := ((n * N : Nat) : Int)) rfl rfl rfl rfl (wrap_eqB hnN.out Ox Ox) ?_
  simp only [qz]
  refine rg_move ?_
  simp only [qz]
  refine rf_add (r := ((n * N + k : Nat) : Int)) rfl rfl rfl rfl (wrap_eqB Ox Ox Ox) ?_
  simp only [qz]
  refine rf_indexS (n := n * N + k) (sz := 5) (j := off' + (n * N + k) * 5) rfl rfl rfl rfl Try.underlying36 Kx (by first | rfl | omega) (by rw [hly.out]; omega) rfl ?_
  simp only [qz]
  refine rf_loadC (n := 5) (vs := [.int .i64 (nm ys (n * N + k)).a, .int .i64 (nm ys (n * N + k)).b, .int .i64 (nm ys (n * N + k)).c, .int .i64 (nm ys (n * N + k)).d, .int .i64 (nm ys (n * N + k)).k]) rfl rfl rfl Try.underlying45 rfl Kx rfl (fun w hw => atN_range ((hcell' (n * N + k) Ox).kn hw hlt' (by simp))) ?_
  simp only [qz]
  refine rg_newS (cs := ?_) (ty := ?_) (n := 1) (c := 1) Rx (fun w => ?_) Nz (fun g7 => ?_); rotate_left 2
  focus (go_simp; rfl)
  simp only [qz]
  refine rg_appN (x := nm ys (n * N + k)) Rx rfl hf2 rfl Ox (perm_atU (l := [_]) (u := uC) (List.Perm.refl _)) (fun w hw => Kn.hd0 hw) Nz (fun uN2 aN2 cN2 hON2 => ?_)
  simp only [qz]
  refine rg_assign ?_
  simp only [qz]
  refine rg_nil (ek_block (ek_next ?_))
  refine wk_region [0, 0] rfl Kx ?_
  simp only [qy]
  refine rf_add rfl rfl rfl rfl (wrap_ok Ox Ox) ?_
  simp only [qz]
  refine rg_move ?_
  simp only [qz]
  refine rg_nil ?_
  refine ek_sub (List.Sublist.append_left (sk _ (List.Sublist.append_left (sc _ (sc _ (sc _ (sc _ sn)))) _)) _) ?_
  refine ek_roundF (N - (n + 1)) Ox Kx ?_
  exact ⟨n + 1, (coQ ys N k n).length + 1, uN2, aN2, cN2, rfl, rfl, by rfl, by rfl, Ox, (by rw [coQ_succ]; exact hON2), (Lib.hid (by rw [coQ_len]))⟩

end Go.Proofs.Ytccbinnlnkpplaa
namespace Go.Proofs.Ytccbinnlnkpplaa
set_option linter.all false
open Go.RowKit

set_option maxRecDepth 100000 in
set_option maxHeartbeats 1000000 in
theorem own_any (x : It) (w : World) : Calls Try.prog 130 #[.agg #[.int .i64 x.kind, .int .i64 x.at_, .int .i64 x.n, .string x.name]] w fun e w' => RetM1 w (ownN x) (ownL x) e w' := by
  go_enter Try.func130, Try.ntmps130
  refine wk_start ?_
  refine wk_seq ?_
  refine wk_region [1, 1] rfl (by kernel_rfl) ?_
  simp only [qy]
  refine rg_new (cs := ?_) (ty := ?_) (by rfl) (fun w => ?_) (fun _ h => by cases h) (fun g1 => ?_); rotate_left 2
  focus (go_simp; rfl)
  simp only [qz]
  refine rg_new (cs := ?_) (ty := ?_) (by rfl) (fun w => ?_) (fun _ h => by cases h) (fun g2 => ?_); rotate_left 2
  focus (go_simp; rfl)
  simp only [qz]
  refine rg_nil (ek_next (wk_seq ?_))
  refine wk_region [0, 0, 0, 1, 1, 1, 1] rfl (by kernel_rfl) ?_
  simp only [qy]
  refine rf_build (cs := fun a => #[.int .i64 0, .int .i64 0, .int .i64 0, .int .i64 0, .int .i64 0]) rfl rfl (by kernel_rfl) ?_
  simp only [qz]
  refine rf_build (cs := fun a => #[a.eval (.const (.int .i64 1)), .int .i64 0, .int .i64 0, .int .i64 0]) rfl rfl (by kernel_rfl) ?_
  simp only [qz]
  refine rf_build (cs := fun a => #[cellAt (a.eval (.tmp 10)) 0, cellAt (a.eval (.tmp 10)) 1, cellAt (a.eval (.tmp 10)) 2, cellAt (a.eval (.tmp 10)) 3, .int .i64 0]) rfl rfl (by kernel_rfl) ?_
  simp only [qz]
  refine rg_new (cs := ?_) (ty := ?_) (by rfl) (fun w => ?_) (fun _ h => by cases h) (fun g3 => ?_); rotate_left 2
  focus (go_simp; rfl)
  simp only [qz]
  refine rg_new (cs := ?_) (ty := ?_) (by rfl) (fun w => ?_) (fun _ h => by cases h) (fun g4 => ?_); rotate_left 2
  focus (go_simp; rfl)
  simp only [qz]
  refine rf_storeR (n := 5) rfl rfl (by kernel_rfl) rfl rfl (UpdR.there _ (UpdR.here _ _ _ (Nat.le_of_ble_eq_true rfl))) (fun _ h => by cases h) ?_
  simp only [qz, Nat.reduceAdd]
  refine rf_storeR (n := 5) rfl rfl (by kernel_rfl) rfl rfl (UpdR.here _ _ _ (Nat.le_of_ble_eq_true rfl)) (fun _ h => by cases h) ?_
  simp only [qz, Nat.reduceAdd]
  refine rg_nil (ek_next (wk_seq (wk_seq ?_)))
  refine wk_region [0, 0] rfl (by kernel_rfl) ?_
  simp only [qy]
  refine rf_field (n := 0) (j := 0) rfl rfl rfl Try.underlying80 rfl (by kernel_rfl) rfl ?_
  simp only [qz]
  refine rf_load rfl rfl rfl Try.underlying3 rfl (fun w hw => (Kn.hd0 (Kn.tl (Kn.tl (Kn.tl hw)))).at rfl) ?_
  simp only [qz]
  refine rg_nil (ek_next (wk_block (wk_seq ?_)))
  refine wk_region [0, 0] rfl (by kernel_rfl) ?_
  simp only [qy]
  refine rfb_eql rfl rfl rfl rfl ?_
  intro x h1
  cases x
  · (try simp only [qd, ne_eq] at h1)
    simp only [qz]
    refine rg_assign ?_
    simp only [qz]
    refine rg_nil (ek_next (wk_cond_f rfl (wk_seq ?_)))
    refine wk_region [0, 0] rfl (by kernel_rfl) ?_
    simp only [qy]
    refine rfb_eql rfl rfl rfl rfl ?_
    intro x h2
    cases x
    · (try simp only [qd, ne_eq] at h2)
      simp only [qz]
      refine rg_assign ?_
      simp only [qz]
      refine rg_nil (ek_next (wk_cond_f rfl (wk_skip (ek_block (ek_next (wk_seq ?_))))))
      refine wk_region [0, 0, 0, 0, 1, 1, 1, 1] rfl (by kernel_rfl) ?_
      simp only [qy]
      refine rf_build (cs := fun a => #[a.eval (.const (.int .i64 1)), .int .i64 0, .int .i64 0, .int .i64 0]) rfl rfl (by kernel_rfl) ?_
      simp only [qz]
      refine rf_build (cs := fun a => #[cellAt (a.eval (.tmp 34)) 0, cellAt (a.eval (.tmp 34)) 1, cellAt (a.eval (.tmp 34)) 2, cellAt (a.eval (.tmp 34)) 3, a.eval (.const (.int .i64 1))]) rfl rfl (by kernel_rfl) ?_
      simp only [qz]
      refine rf_build (cs := fun a => #[a.eval (.const (.int .i64 0)), a.eval (.const (.int .i64 0)), a.eval (.const (.int .i64 1)), .int .i64 0]) rfl rfl (by kernel_rfl) ?_
      simp only [qz]
      refine rf_build (cs := fun a => #[cellAt (a.eval (.tmp 36)) 0, cellAt (a.eval (.tmp 36)) 1, cellAt (a.eval (.tmp 36)) 2, cellAt (a.eval (.tmp 36)) 3, a.eval (.const (.int .i64 1))]) rfl rfl (by kernel_rfl) ?_
      simp only [qz]
      refine rg_new (cs := ?_) (ty := ?_) (by rfl) (fun w => ?_) (fun _ h => by cases h) (fun g5 => ?_); rotate_left 2
      focus (go_simp; rfl)
      simp only [qz]
      refine rg_new (cs := ?_) (ty := ?_) (by rfl) (fun w => ?_) (fun _ h => by cases h) (fun g6 => ?_); rotate_left 2
      focus (go_simp; rfl)
      simp only [qz]
      refine rf_storeR (n := 5) rfl rfl (by kernel_rfl) rfl rfl (UpdR.there _ (UpdR.here _ _ _ (Nat.le_of_ble_eq_true rfl))) (fun _ h => by cases h) ?_
      simp only [qz, Nat.reduceAdd]
      refine rf_storeR (n := 5) rfl rfl (by kernel_rfl) rfl rfl (UpdR.here _ _ _ (Nat.le_of_ble_eq_true rfl)) (fun _ h => by cases h) ?_
      simp only [qz, Nat.reduceAdd]
      refine rg_nil (ek_next (wk_seq ?_))
      refine wk_region [0, 0, 0, 0, 1, 0, 1] rfl (by kernel_rfl) ?_
      simp only [qy]
      refine rf_loadR (n := 5) rfl rfl rfl Try.underlying45 rfl (by kernel_rfl) (fun w hw => Kn.hd0 (Kn.tl hw)) rfl rfl ?_
      simp only [qz]
      refine rf_loadR (n := 5) rfl rfl rfl Try.underlying45 rfl (by kernel_rfl) (fun w hw => Kn.hd0 hw) rfl rfl ?_
      simp only [qz]
      refine rf_loadR (n := 5) rfl rfl rfl Try.underlying45 rfl (by kernel_rfl) (fun w hw => Kn.hd0 hw) rfl rfl ?_
      simp only [qz]
      refine rf_loadR (n := 5) rfl rfl rfl Try.underlying45 rfl (by kernel_rfl) (fun w hw => Kn.hd0 (Kn.tl hw)) rfl rfl ?_
      simp only [qz]
      refine rg_newS (cs := ?_) (ty := ?_) (n := 4) (c := 4) (by rfl) (fun w => ?_) (fun _ h => by cases h) (fun g7 => ?_); rotate_left 2
      focus (go_simp; rfl)
      simp only [qz]
      refine rf_build (cs := fun a => #[a.eval (.const (.int .i64 2)), a.eval (.tmp 42)]) rfl rfl (by kernel_rfl) ?_
      simp only [qz]
      refine rf_storeR (n := 2) rfl rfl (by kernel_rfl) rfl rfl (UpdR.there _ (UpdR.there _ (UpdR.there _ (UpdR.there _ (UpdR.there _ (UpdR.here _ _ _ (Nat.le_of_ble_eq_true rfl))))))) (fun _ h => by cases h) ?_
      simp only [qz, Nat.reduceAdd]
      refine rg_nil (ek_next (wk_ret ?_))
      refine ek_ret (fun w hw => ⟨rfl, _, run_results1 rfl rfl (Kn.hd0 (Kn.tl (Kn.tl (Kn.tl (Kn.tl (Kn.tl hw)))))) Try.underlying38 rfl (by kernel_rfl), ?_⟩)
      (try simp only [qz])
      have e1 : ownN x = 2 := by (unfold ownN; rw [if_neg (by omega)])
      have e2 : ownL x = [halfN, sideN, sideN, halfN] := by (unfold ownL; rw [if_neg (by omega), if_neg (by omega)])
      rw [e1, e2]
      exact ⟨_, _, rfl, OwnN.wholeM (g := g7) (l := [halfN, sideN, sideN, halfN]) (by simp), hw.made (sc _ (sk _ (sk _ (sk _ (sk _ (sk _ (sk _ sn)))))))⟩
    (try simp only [qd, ne_eq] at h2)
    simp only [qz]
    refine rg_assign ?_
    simp only [qz]
    refine rg_nil (ek_next (wk_cond_t rfl (wk_seq ?_)))
    refine wk_region [0, 0, 0, 0, 1, 0, 1] rfl (by kernel_rfl) ?_
    simp only [qy]
    refine rf_loadR (n := 5) rfl rfl rfl Try.underlying45 rfl (by kernel_rfl) (fun w hw => Kn.hd0 (Kn.tl hw)) rfl rfl ?_
    simp only [qz]
    refine rf_loadR (n := 5) rfl rfl rfl Try.underlying45 rfl (by kernel_rfl) (fun w hw => Kn.hd0 hw) rfl rfl ?_
    simp only [qz]
    refine rf_loadR (n := 5) rfl rfl rfl Try.underlying45 rfl (by kernel_rfl) (fun w hw => Kn.hd0 hw) rfl rfl ?_
    simp only [qz]
    refine rf_loadR (n := 5) rfl rfl rfl Try.underlying45 rfl (by kernel_rfl) (fun w hw => Kn.hd0 (Kn.tl hw)) rfl rfl ?_
    simp only [qz]
    refine rg_newS (cs := ?_) (ty := ?_) (n := 4) (c := 4) (by rfl) (fun w => ?_) (fun _ h => by cases h) (fun g8 => ?_); rotate_left 2
    focus (go_simp; rfl)
    simp only [qz]
    refine rf_build (cs := fun a => #[a.eval (.const (.int .i64 2)), a.eval (.tmp 32)]) rfl rfl (by kernel_rfl) ?_
    simp only [qz]
    refine rf_storeR (n := 2) rfl rfl (by kernel_rfl) rfl rfl (UpdR.there _ (UpdR.there _ (UpdR.there _ (UpdR.here _ _ _ (Nat.le_of_ble_eq_true rfl))))) (fun _ h => by cases h) ?_
    simp only [qz, Nat.reduceAdd]
    refine rg_nil (ek_next (wk_ret (ek_block_ret (ek_then_ret ?_))))
    refine ek_ret (fun w hw => ⟨rfl, _, run_results1 rfl rfl (Kn.hd0 (Kn.tl (Kn.tl (Kn.tl hw)))) Try.underlying38 rfl (by kernel_rfl), ?_⟩)
    (try simp only [qz])
    have e1 : ownN x = 2 := by (unfold ownN; rw [if_neg (by omega)])
    have e2 : ownL x = [Nm.zero, Nm.one, Nm.one, Nm.zero] := by (unfold ownL; rw [if_neg (by omega), if_pos (by omega)])
    rw [e1, e2]
    exact ⟨_, _, rfl, OwnN.wholeM (g := g8) (l := [Nm.zero, Nm.one, Nm.one, Nm.zero]) (by simp), hw.made (sc _ (sk _ (sk _ (sk _ (sk _ sn)))))⟩
  (try simp only [qd, ne_eq] at h1)
  simp only [qz]
  refine rg_assign ?_
  simp only [qz]
  refine rg_nil (ek_next (wk_cond_t rfl (wk_seq ?_)))
  refine wk_region [0, 0, 0, 1, 0, 0, 0, 1, 1, 0] rfl (by kernel_rfl) ?_
  simp only [qy]
  refine rf_loadR (n := 5) rfl rfl rfl Try.underlying45 rfl (by kernel_rfl) (fun w hw => Kn.hd0 hw) rfl rfl ?_
  simp only [qz]
  refine rf_field (n := 0) (j := 2) rfl rfl rfl Try.underlying80 rfl (by kernel_rfl) rfl ?_
  simp only [qz]
  refine rf_load rfl rfl rfl Try.underlying3 rfl (fun w hw => (Kn.hd0 (Kn.tl (Kn.tl (Kn.tl hw)))).at rfl) ?_
  simp only [qz]
  apply rg_pure (by rfl) (by kernel_rfl)
  case hargs => (simp only [qm, qs, Act.eval]; exact rfl)
  case h => exact fun w hw => amTurn_ok Nm.one x.n one_ok w
  case hz => exact (fun _ h => by cases h)
  simp only [qz]
  refine rg_move ?_
  simp only [qz]
  refine rf_extract rfl rfl rfl rfl ?_
  simp only [qz]
  refine rf_extract rfl rfl rfl rfl ?_
  simp only [qz]
  refine rg_new (cs := ?_) (ty := ?_) (by rfl) (fun w => ?_) (fun _ h => by cases h) (fun g9 => ?_); rotate_left 2
  focus (go_simp; rfl)
  simp only [qz]
  refine rf_storeR (n := 5) rfl rfl (by kernel_rfl) rfl rfl (UpdR.here _ _ _ (Nat.le_of_ble_eq_true rfl)) (fun _ h => by cases h) ?_
  simp only [qz, Nat.reduceAdd]
  refine rg_assign ?_
  simp only [qz]
  refine rg_nil (ek_next (wk_seq ?_))
  refine wk_region [0, 1, 0, 1] rfl (by kernel_rfl) ?_
  simp only [qy]
  refine rf_loadR (n := 5) rfl rfl rfl Try.underlying45 rfl (by kernel_rfl) (fun w hw => Kn.hd0 hw) rfl rfl ?_
  simp only [qz]
  refine rg_newS (cs := ?_) (ty := ?_) (n := 1) (c := 1) (by rfl) (fun w => ?_) (fun _ h => by cases h) (fun g10 => ?_); rotate_left 2
  focus (go_simp; rfl)
  simp only [qz]
  refine rf_build (cs := fun a => #[a.eval (.const (.int .i64 1)), a.eval (.tmp 24)]) rfl rfl (by kernel_rfl) ?_
  simp only [qz]
  refine rf_storeR (n := 2) rfl rfl (by kernel_rfl) rfl rfl (UpdR.there _ (UpdR.there _ (UpdR.there _ (UpdR.there _ (UpdR.here _ _ _ (Nat.le_of_ble_eq_true rfl)))))) (fun _ h => by cases h) ?_
  simp only [qz, Nat.reduceAdd]
  refine rg_nil (ek_next (wk_ret (ek_block_ret (ek_then_ret ?_))))
  refine ek_ret (fun w hw => ⟨rfl, _, run_results1 rfl rfl (Kn.hd0 (Kn.tl (Kn.tl (Kn.tl (Kn.tl hw))))) Try.underlying38 rfl (by kernel_rfl), ?_⟩)
  (try simp only [qz])
  have e1 : ownN x = 1 := by (unfold ownN; rw [if_pos (by omega)])
  have e2 : ownL x = [Nm.turn (x.n % 8).toNat Nm.one] := by (unfold ownL; rw [if_pos (by omega)])
  rw [e1, e2]
  exact ⟨_, _, rfl, OwnN.wholeM (g := g10) (l := [Nm.turn (x.n % 8).toNat Nm.one]) (by simp), hw.made (sc _ (sk _ (sk _ (sk _ (sk _ (sk _ sn))))))⟩

end Go.Proofs.Ytccbinnlnkpplaa
namespace Go.Proofs.Ytccbinnlnkpplaa
set_option linter.all false
open Go.RowKit

set_option maxRecDepth 100000 in
set_option maxHeartbeats 1000000 in
theorem mplaced_any (N p m : Nat) (L : List Nm) (a : Option Addr) (c : Nat) (hN1 : 1 ≤ N) (hN6 : N ≤ 6) (hm1 : 1 ≤ m) (hpm : p + m ≤ N) (hL : Hid (L.length = m * m)) (w : World) (hA : AS w a (nms L)) : Calls Try.prog 132 #[.int .i64 N, .int .i64 ((p : Int) + 1), .agg #[.int .i64 m, .slice a L.length c]] w fun e w' => RetM1 w N (plcL N p m L) e w' := by
  obtain ⟨b, off, rfl, hlt, hcell⟩ := AS.openN hA (by rw [hL.out]; exact Nat.mul_pos (by omega) (by omega))
  have hz1 : 1 ≤ N * N := Nat.mul_pos (by omega) (by omega)
  have hidl := idM_len (N := N) (by omega) hN6
  obtain ⟨z0, hz0⟩ : ∃ r, idM N = r := ⟨_, rfl⟩
  go_enter Try.func132, Try.ntmps132
  refine wk_start ?_
  refine wk_seq ?_
  refine wk_region [1, 1] rfl (by kernel_rfl) ?_
  simp only [qy]
  refine rg_new (cs := ?_) (ty := ?_) (by rfl) (fun w => ?_) (fun _ h => by cases h) (fun g1 => ?_); rotate_left 2
  focus (go_simp; rfl)
  simp only [qz]
  refine rg_new (cs := ?_) (ty := ?_) (by rfl) (fun w => ?_) (fun _ h => by cases h) (fun g2 => ?_); rotate_left 2
  focus (go_simp; rfl)
  simp only [qz]
  refine rg_nil (ek_next (wk_seq ?_))
  refine wk_region [0, 1, 0, 0, 0, 1, 1, 0] rfl (by kernel_rfl) ?_
  simp only [qy]
  refine rg_move ?_
  simp only [qz]
  apply (rg_retM (n := (N : Int)) (zs := z0) (c := 0)) (by rfl) (by kernel_rfl)
  case hargs => (simp only [qm, qs, Act.eval]; exact rfl)
  case h => exact fun w hw => by have := identity_any N w; rw [ident_okM (by omega) hN6, Int.toNat_natCast] at this; rw [hz0] at this; exact this
  case hz => exact (fun _ h => by cases h)
  intro va3 vc3 u3 hO3
  simp only [qz]
  refine rg_move ?_
  simp only [qz]
  refine rf_extract rfl rfl rfl rfl ?_
  simp only [qz]
  refine rf_extract rfl rfl rfl rfl ?_
  simp only [qz]
  refine rg_new (cs := ?_) (ty := ?_) (by rfl) (fun w => ?_) (fun _ h => by cases h) (fun g4 => ?_); rotate_left 2
  focus (go_simp; rfl)
  simp only [qz]
  refine rf_storeR (n := 2) rfl rfl (by kernel_rfl) rfl rfl (UpdR.here _ _ _ (Nat.le_of_ble_eq_true rfl)) (fun _ h => by cases h) ?_
  simp only [qz, Nat.reduceAdd]
  refine rg_assign ?_
  simp only [qz]
  refine rg_nil (ek_next (wk_seq (wk_seq ?_)))
  have hzl : z0.length = N * N := by rw [← hz0]; exact hidl
  rw [hzl]
  clear hidl
  replace hzl := Lib.hid hzl
  replace hz0 := Lib.hid hz0
  refine wk_region [0, 0, 0] rfl (by kernel_rfl) ?_
  simp only [qy]
  refine rf_field (n := 0) (j := 0) rfl rfl rfl Try.underlying38 rfl (by kernel_rfl) rfl ?_
  simp only [qz]
  refine rf_load rfl rfl rfl Try.underlying3 rfl (fun w hw => (Kn.hd0 (Kn.tl (Kn.tlU (Kn.tl hw)))).at rfl) ?_
  simp only [qz]
  refine rg_move ?_
  simp only [qz]
  refine rg_nil (ek_next (wk_block ?_))
  refine wk_loopF [9, 10, 18, 19, 20, 21, 22, 23, 24, 25, 26, 27, 28, 29, 30, 31, 32, 33, 34, 35, 36, 37, 38, 39, 40, 41, 42, 43, 44, 45, 46, 47, 48, 49, 50, 51] (fun mz f s => ∃ (i : Nat) (u : List Blk), f 18 = .int .i64 i ∧ s = ((g4, .cells #[.int .i64 N, .slice va3 (N * N) vc3] 38) :: (u ++ ((g2, .cells #[.int .i64 0, .slice none 0 0] 38) :: ((g1, .cells #[.int .i64 m, .slice (some ⟨b, off, none⟩) L.length c] 38) :: [])))) ∧ mz = m - i ∧ i ≤ m ∧ OwnN u (.slice va3 (N * N) vc3) (plcS N p m L z0 (i * m))) ((fun (i : Nat) (u : List Blk) => m - i) (0) (u3)) ?_ (by kernel_rfl) ?_
  · exact ⟨0, u3, rfl, rfl, rfl, by omega, by rw [Nat.zero_mul]; show OwnN u3 (.slice va3 (N * N) vc3) z0; rw [← hzl.out]; exact hO3⟩
  rintro mz f1 s ⟨i, u, hs1_18, rfl, hn, hd1, hd2⟩
  simp only [Act.putF, List.foldl_cons, List.foldl_nil, hs1_18, Act.put, Act.eval, q1, q2, q3, q4, q5, q6, q7, q8, q9, q10, q11, q12, q13, q14, q15, q16, q17, q18, Nat.reduceAdd, Bool.not_true, Bool.not_false]
  clear hs1_18
  refine wk_seq ?_
  refine wk_region [0] rfl (by kernel_rfl) ?_
  simp only [qy]
  refine rfb_lss rfl rfl rfl rfl ?_
  intro x h1
  cases x
  · (try simp only [qd, ne_eq] at h1)
    simp only [qz]
    refine rg_nil (ek_next (wk_seq (wk_cond_f rfl (wk_exit (ek_then_exit (ek_then_exit (ek_block_exit (ek_next (wk_seq ?_)))))))))
    refine wk_region [0, 1] rfl (by kernel_rfl) ?_
    simp only [qy]
    refine rf_loadR (n := 2) rfl rfl rfl Try.underlying38 rfl (by kernel_rfl) (fun w hw => Kn.hd0 hw) rfl rfl ?_
    simp only [qz]
    refine rf_storeR (n := 2) rfl rfl (by kernel_rfl) rfl rfl (UpdR.there _ (UpdR.app _ (UpdR.here _ _ _ (Nat.le_of_ble_eq_true rfl)))) (fun _ h => by cases h) ?_
    simp only [qz, Nat.reduceAdd]
    refine rg_nil (ek_next (wk_ret ?_))
    refine ek_ret (fun w hw => ⟨rfl, _, run_results1 rfl rfl (Kn.hd0 (Kn.tlU (Kn.tl hw))) Try.underlying38 rfl (by kernel_rfl), ?_⟩)
    (try simp only [qz])
    obtain rfl : i = m := by omega
    have e1 : plcL N p i L = plcS N p i L z0 (i * i) := by (unfold plcL; rw [hz0.out])
    rw [e1]
    exact ⟨_, u, rfl, hd2, hw.made (List.Sublist.cons _ (List.sublist_append_left _ _))⟩
  (try simp only [qd, ne_eq] at h1)
  simp only [qz]
  refine rg_nil (ek_next (wk_seq (wk_cond_t rfl (wk_skip (ek_next (wk_seq (wk_block (wk_seq ?_))))))))
  refine wk_region [0, 0] rfl (by kernel_rfl) ?_
  simp only [qy]
  refine rg_move ?_
  simp only [qz]
  refine rg_assign ?_
  simp only [qz]
  refine rg_nil (ek_next (wk_seq ?_))
  refine wk_region [0, 0, 0] rfl (by kernel_rfl) ?_
  simp only [qy]
  refine rf_field (n := 0) (j := 0) rfl rfl rfl Try.underlying38 rfl (by kernel_rfl) rfl ?_
  simp only [qz]
  refine rf_load rfl rfl rfl Try.underlying3 rfl (fun w hw => (Kn.hd0 (Kn.tl (Kn.tlU (Kn.tl hw)))).at rfl) ?_
  simp only [qz]
  refine rg_move ?_
  simp only [qz]
  refine rg_nil (ek_next (wk_block ?_))
  refine wk_loopF [10, 23, 24, 25, 26, 27, 28, 29, 30, 31, 32, 33, 34, 35, 36, 37, 38, 39, 40, 41, 42, 43, 44, 45, 46, 47, 48, 49, 50] (fun mz f s => ∃ (k : Nat) (u2 : List Blk), f 23 = .int .i64 k ∧ s = ((g4, .cells #[.int .i64 N, .slice va3 (N * N) vc3] 38) :: (u2 ++ ((g2, .cells #[.int .i64 0, .slice none 0 0] 38) :: ((g1, .cells #[.int .i64 m, .slice (some ⟨b, off, none⟩) L.length c] 38) :: [])))) ∧ mz = m - k ∧ k ≤ m ∧ OwnN u2 (.slice va3 (N * N) vc3) (plcS N p m L z0 (i * m + k))) ((fun (k : Nat) (u2 : List Blk) => m - k) (0) (u)) ?_ (by kernel_rfl) ?_
  · exact ⟨0, u, rfl, rfl, rfl, by omega, hd2⟩
  rintro mz f2 s ⟨k, u2, hs2_23, rfl, hn, he1, he2⟩
  simp only [Act.putF, List.foldl_cons, List.foldl_nil, hs2_23, Act.put, Act.eval, q1, q2, q3, q4, q5, q6, q7, q8, q9, q10, q11, q12, q13, q14, q15, q16, q17, q18, Nat.reduceAdd, Bool.not_true, Bool.not_false]
  clear hs2_23
  refine wk_seq ?_
  refine wk_region [0] rfl (by kernel_rfl) ?_
  simp only [qy]
  refine rfb_lss rfl rfl rfl rfl ?_
  intro x h2
  cases x
  · (try simp only [qd, ne_eq] at h2)
    simp only [qz]
    refine rg_nil (ek_next (wk_seq (wk_cond_f rfl (wk_exit (ek_then_exit (ek_then_exit (ek_block_exit (ek_block (ek_next ?_)))))))))
    refine wk_region [0, 0] rfl (by kernel_rfl) ?_
    simp only [qy]
    refine rf_add rfl rfl rfl rfl (wrap_ok (by omega) (by omega)) ?_
    simp only [qz]
    refine rg_move ?_
    simp only [qz]
    refine rg_nil ?_
    obtain rfl : m = k := by omega
    refine ek_roundF (m - (i + 1)) (by omega) (by kernel_rfl) ?_
    exact ⟨i + 1, u2, rfl, by rfl, by rfl, (by omega), (by rw [show (i + 1) * m = i * m + m by rw [Nat.add_mul, Nat.one_mul]]; exact he2)⟩
  (try simp only [qd, ne_eq] at h2)
  simp only [qz]
  refine rg_nil (ek_next (wk_seq (wk_cond_t rfl (wk_skip (ek_next (wk_seq (wk_block (wk_seq ?_))))))))
  refine wk_region [0, 0] rfl (by kernel_rfl) ?_
  simp only [qy]
  refine rg_move ?_
  simp only [qz]
  refine rg_assign ?_
  simp only [qz]
  refine rg_nil (ek_next ?_)
  have hpl := plcS_len N p m L z0 (i * m + k)
  obtain ⟨go, capo, resto, hu, hvo, hco1, hco2, hco3⟩ := he2.openM (by rw [hpl, hzl.out]; omega)
  subst hu
  rw [hpl, hzl.out] at hvo hco1
  cases hvo
  have hix := ix_lt (N := N) (show p + i < N by omega) (show p + k < N by omega)
  have hmx := ix_lt (N := m) (show i < m by omega) (show k < m by omega)
  have hLm := hL.out
  have hm36 := Nat.mul_le_mul (show m ≤ 6 by omega) (show m ≤ 6 by omega)
  have hN36 := Nat.mul_le_mul hN6 hN6
  have hcst : (((p + i : Nat) : Int) * N) = (((p + i) * N : Nat) : Int) := (Int.natCast_mul _ _).symm
  have hcst2 : ((i : Int) * m) = ((i * m : Nat) : Int) := (Int.natCast_mul _ _).symm
  obtain ⟨ix, hixe⟩ : ∃ r, (p + i) * N + p + k = r := ⟨_, rfl⟩
  have hixl : ix < N * N := by omega
  obtain ⟨jx, hjxe⟩ : ∃ r, i * m + k = r := ⟨_, rfl⟩
  have hjxl : jx < L.length := by omega
  simp only [List.cons_append, List.nil_append]
  refine wk_draws_m (hz1 := (sc _ (sk _ (sc _ (sc _ sn))))) [(0, 0), (1, 0), (2, 0), (3, 0), (4, 0), (5, 0), (6, 0), (7, 0), (8, 0), (9, 0), (10, 0), (11, 0), (12, 0), (13, 0), (14, 0), (15, 0), (16, 0), (17, 0), (18, 0), (19, 0), (20, 0), (21, 0), (22, 0), (23, 0), (24, 2)] 24 (by kernel_rfl) (by kernel_rfl) (fun c d v a w h => by cases d <;> exact h) ?_
  simp only [List.map_cons, List.map_nil, List.getD_cons_zero, List.getD_cons_succ]
  refine rf_field (n := 0) (j := 1) rfl rfl rfl Try.underlying38 rfl (by kernel_rfl) rfl ?_
  simp only [qz]
  refine rf_load rfl rfl rfl Try.underlying36 rfl (fun w hw => (Kn.hd0 hw).at rfl) ?_
  simp only [qz]
  refine rg_move ?_
  simp only [qz]
  refine rf_sub (r := (p : Int)) rfl rfl rfl rfl (wrap_eqB (by omega) (by omega) (by omega)) ?_
  simp only [qz]
  refine rg_move ?_
  simp only [qz]
  refine rf_add (r := ((p + i : Nat) : Int)) rfl rfl rfl rfl (wrap_eqB (by omega) (by omega) (by omega)) ?_
  simp only [qz]
  refine rg_move ?_
  simp only [qz]
  refine rf_mul (r := (((p + i) * N : Nat) : Int)) rfl rfl rfl rfl (wrap_eqB hcst (by omega) (by omega)) ?_
  simp only [qz]
  refine rg_move ?_
  simp only [qz]
  refine rf_add (r := ((p + i) * N : Nat) + ((p : Int) + 1)) rfl rfl rfl rfl (wrap_eqB (by omega) (by omega) (by omega)) ?_
  simp only [qz]
  refine rf_sub (r := (((p + i) * N + p : Nat) : Int)) rfl rfl rfl rfl (wrap_eqB (by omega) (by omega) (by omega)) ?_
  simp only [qz]
  refine rg_move ?_
  simp only [qz]
  refine rf_add (r := ((ix : Nat) : Int)) rfl rfl rfl rfl (wrap_eqB (by omega) (by omega) (by omega)) ?_
  simp only [qz]
  refine rf_field (n := 0) (j := 1) rfl rfl rfl Try.underlying38 rfl (by kernel_rfl) rfl ?_
  simp only [qz]
  refine rf_load rfl rfl rfl Try.underlying36 rfl (fun w hw => (Kn.hd0 (Kn.tl (Kn.tl (Kn.tl hw)))).at rfl) ?_
  simp only [qz]
  refine rg_move ?_
  simp only [qz]
  refine rf_field (n := 0) (j := 0) rfl rfl rfl Try.underlying38 rfl (by kernel_rfl) rfl ?_
  simp only [qz]
  refine rf_load rfl rfl rfl Try.underlying3 rfl (fun w hw => (Kn.hd0 (Kn.tl (Kn.tl (Kn.tl hw)))).at rfl) ?_
  simp only [qz]
  refine rf_mul (r := ((i * m : Nat) : Int)) rfl rfl rfl rfl (wrap_eqB hcst2 (by omega) (by omega)) ?_
  simp only [qz]
  refine rg_move ?_
  simp only [qz]
  refine rf_add (r := ((jx : Nat) : Int)) rfl rfl rfl rfl (wrap_eqB (by omega) (by omega) (by omega)) ?_
  simp only [qz]
  refine rf_indexS (n := jx) (sz := 5) (j := off + jx * 5) rfl rfl rfl rfl Try.underlying36 (by kernel_rfl) (by omega) (by omega) rfl ?_
  simp only [qz]
  refine rf_loadC (n := 5) (vs := nmC (nm L jx)) rfl rfl rfl Try.underlying45 rfl (by kernel_rfl) rfl (fun w hw => atN_range ((hcell jx hjxl).kn hw hlt (by simp))) ?_
  simp only [qz]
  refine rf_indexS (n := ix) (sz := 5) (j := 0 + ix * 5) rfl rfl rfl rfl Try.underlying36 (by kernel_rfl) (by omega) (by omega) rfl ?_
  simp only [qz]
  have hsz := nm_szM (plcS N p m L z0 jx) ix (nm L jx) resto (by rw [← hjxe, hpl, hzl.out]; exact hixl)
  rw [hjxe]
  refine rf_storeRM (n := 5) (vs := nmC (nm L jx)) rfl rfl (by kernel_rfl) rfl rfl (UpdR.there _ (UpdR.here _ _ _ hsz)) (sc _ (sk _ (sc _ (sc _ sn)))) ?_
  have hstep : (plcS N p m L z0 jx).set ix (nm L jx) = plcS N p m L z0 (i * m + (k + 1)) := by
    rw [← Nat.add_assoc, plcS, hjxe, ← hixe, ← hjxe, ix_div (show k < m by omega), ix_mod (show k < m by omega)]
  rw [nm_flM _ _ _ _ (by rw [← hjxe, hpl, hzl.out]; exact hixl), hstep]
  have hON := OwnN.flM (g := go) (n := N * N) (l := plcS N p m L z0 (i * m + (k + 1))) (rest := resto) (by rw [plcS_len, hzl.out]) hco1 hco2 (by rw [List.length_append, El.flat_len, plcS_len, hzl.out] at hco3 ⊢; exact hco3)
  simp only [qz]
  refine rg_nil (ek_block (ek_next ?_))
  refine wk_region [0, 0] rfl (by kernel_rfl) ?_
  simp only [qy]
  refine rf_add rfl rfl rfl rfl (wrap_ok (by omega) (by omega)) ?_
  simp only [qz]
  refine rg_move ?_
  simp only [qz]
  refine rg_nil ?_
  refine ek_roundF (m - (k + 1)) (by omega) (by kernel_rfl) ?_
  exact ⟨k + 1, [(go, _)], rfl, by rfl, by rfl, (by omega), hON⟩

theorem mplaced_int (N p m : Nat) (z : Int) (L : List Nm) (a : Option Addr) (c : Nat) (hz : z = p + 1) (hN1 : 1 ≤ N) (hN6 : N ≤ 6) (hm1 : 1 ≤ m) (hpm : p + m ≤ N) (hL : Hid (L.length = m * m)) (w : World) (hA : AS w a (nms L)) : Calls Try.prog 132 #[.int .i64 N, .int .i64 z, .agg #[.int .i64 m, .slice a L.length c]] w fun e w' => RetM1 w N (plcL N p m L) e w' := by
  subst hz
  exact mplaced_any N p m L a c hN1 hN6 hm1 hpm hL w hA
end Go.Proofs.Ytccbinnlnkpplaa
namespace Go.Proofs.Ytccbinnlnkpplaa
set_option linter.all false
open Go.RowKit

theorem fit_own {N : Nat} {x : It} (h : fitB N x = true) : 1 ≤ x.at_ ∧ (x.at_ - 1).toNat + ownN x ≤ N ∧ 1 ≤ ownN x ∧ ownN x ≤ 2 ∧ x.at_ = ((x.at_ - 1).toNat : Int) + 1 := by
  unfold fitB at h
  rw [decide_eq_true_eq] at h
  obtain ⟨h1, h2, h3⟩ := h
  unfold wd at h1 h3
  unfold ownN
  by_cases hk : x.kind = 1
  · rw [if_pos hk] at h1 h3 ⊢
    split at h1
    · next hn => rw [if_pos hn] at h3; omega
    exact absurd rfl h1
  rw [if_neg hk] at h1 h3 ⊢
  split at h1
  · next hn =>
    rw [if_pos hn] at h3
    split at h1
    · next hm => rw [if_pos hm] at h3; omega
    exact absurd rfl h1
  exact absurd rfl h1
theorem itemE_zero {n : Int} {xs : List It} (h : itemE n xs = 0) : validI n xs = true := by
  unfold itemE at h
  split at h
  · split at h
    · assumption
    cases h
  cases h
theorem ownL_len (x : It) : (ownL x).length = ownN x * ownN x := by
  unfold ownL ownN
  by_cases hk : x.kind = 1
  · rw [if_pos hk, if_pos hk]; rfl
  rw [if_neg hk, if_neg hk]
  split <;> rfl
theorem itL_len {N : Nat} (h1 : 1 ≤ N) (h6 : N ≤ 6) (x : It) : (itL N x).length = N * N := by
  unfold itL plcL
  rw [plcS_len, idM_len h1 h6]
theorem mulM_code {n m : Int} {xs ys : List Nm} {c : Int} (h : mulM n m xs ys = .error c) : c ≠ 0 := by
  unfold mulM at h
  split at h
  · split at h
    · obtain ⟨i, hi, he⟩ := gather_err_mem h
      have := prodsR_code he
      omega
    cases h; decide
  cases h; decide
theorem matS_code {N : Nat} {xs : List It} : ∀ {j : Nat} {c : Int}, matS N xs j = .error c → c ≠ 0
  | 0, c, h => by cases h
  | j + 1, c, h => by
    simp only [matS] at h
    split at h
    · next c' hc => cases h; exact matS_code hc
    · exact mulM_code h
theorem rC_ok {r : LR} (hc : ∀ c, r = .error c → c ≠ 0) (h : rC r = 0) : ∃ l, r = .ok l := by
  cases r with
  | ok l => exact ⟨l, rfl⟩
  | error c => exact absurd h (hc c rfl)
theorem matS_len {N : Nat} {xs : List It} (h1 : 1 ≤ N) (h6 : N ≤ 6) : ∀ {j : Nat} {l : List Nm}, matS N xs j = .ok l → l.length = N * N
  | 0, l, h => by cases h; exact idM_len h1 h6
  | j + 1, l, h => by
    simp only [matS] at h
    split at h
    · cases h
    · unfold mulM at h
      split at h
      · rw [if_pos rfl, Int.toNat_natCast] at h
        exact made_len h
      · cases h
theorem itAt_range {w : World} {b off : Nat} {i : It} (h : ItAt w b off i) : w.rangeAt b off [.int .i64 i.kind, .int .i64 i.at_, .int .i64 i.n, .string i.name] := by
  intro j v hj
  match j, hj with
  | 0, hj => injection hj with hj; subst hj; exact h.c0
  | 1, hj => injection hj with hj; subst hj; exact h.c1
  | 2, hj => injection hj with hj; subst hj; exact h.c2
  | 3, hj => injection hj with hj; subst hj; exact h.c3
  | n + 4, hj => cases hj
theorem run_lookup_noneM (s : ByteArray) (w : World) : (Instr.lookup 148 (.map none) (.string s) true).run Try.prog w = .ok (.tuple #[.agg #[.int .i64 0, .slice none 0 0], .bool false]) w := by
  kernel_rfl
section
variable {R : Option Nat} {ops : Array Oper} {Q : Exit → Act → World → Prop} {B : World} {F : List Nat} {s0 : Option (List Blk × List Blk)}
variable {l : List (Oper × Nat)} {a : Act} {s : List Blk} {d : Option Tmp} {t : TypeId} {p : String} {af : Array Edge} {gd : Option (Nat × Bool)} {m : Nat}
theorem rf_lookM {x y : Operand} {nm_ : ByteArray} (hm : soft03 m = true) (hg : Region.wanted ⟨d, .lookup 148 x y true, t, p, af, gd⟩ (yielded ops a.tmps) = true)
    (hx : a.eval x = .map none) (hy : a.eval y = .string nm_) (h : Rg R Try.prog ops Q B F s0 l (a.put d (.tuple #[.agg #[.int .i64 0, .slice none 0 0], .bool false])) s) : Rg R Try.prog ops Q B F s0 ((⟨d, .lookup 148 x y true, t, p, af, gd⟩, m) :: l) a s := by
  refine rg_any hm hg (fun w => ?_) h
  unfold Yld
  have := run_lookup_noneM nm_ w
  simp [execOp, hx, hy, this]
end
set_option maxRecDepth 100000 in
set_option maxHeartbeats 1000000 in
theorem mcheck_any (n : Int) (xs : List It) (a : Option Addr) (c : Nat) (w : World) (hA : AS w a (its xs)) : Calls Try.prog 73 #[.int .i64 n, .slice a xs.length c] w fun e w' => e = .returned (.int .i64 (itemE n xs)) ∧ Below w.heap.size w w' := by
  go_enter Try.func73, Try.ntmps73
  refine wk_start ?_
  refine wk_seq ?_
  refine wk_region [0] rfl (by kernel_rfl) ?_
  simp only [qy]
  refine rg_assign ?_
  simp only [qz]
  refine rg_nil (ek_next (wk_seq (wk_block (wk_seq ?_))))
  refine wk_region [0, 1, 0, 0] rfl (by kernel_rfl) ?_
  simp only [qy]
  refine rg_move ?_
  simp only [qz]
  apply rg_pureb (by rfl) (by kernel_rfl)
  case hargs => (simp only [qm, qs, Act.eval]; exact rfl)
  case h => exact fun w hw => between_mesh 1 n 6 w
  case hz => exact (fun _ h => by cases h)
  intro x h1
  cases x
  · (try simp only [qd, ne_eq] at h1)
    simp only [qz]
    have hbt := betB_false h1
    clear h1
    refine rf_not rfl rfl rfl ?_
    simp only [qz]
    refine rg_assign ?_
    simp only [qz]
    refine rg_nil (ek_next (wk_cond_t rfl (wk_seq ?_)))
    refine wk_region [0] rfl (by kernel_rfl) ?_
    simp only [qy]
    refine rg_assign ?_
    simp only [qz]
    refine rg_nil (ek_next (wk_ret (ek_block_ret (ek_then_ret ?_))))
    refine ek_ret (fun w hw => ⟨rfl, _, res_t _ rfl, ?_⟩)
    (try simp only [qz])
    exact ⟨by unfold itemE; rw [if_neg hbt], hw.below⟩
  (try simp only [qd, ne_eq] at h1)
  simp only [qz]
  have hbt := betB_true h1
  clear h1
  refine rf_not rfl rfl rfl ?_
  simp only [qz]
  refine rg_assign ?_
  simp only [qz]
  refine rg_nil (ek_next (wk_cond_f rfl (wk_seq ?_)))
  refine wk_region [0, 0, 1, 0, 0] rfl (by kernel_rfl) ?_
  simp only [qy]
  refine rg_move ?_
  simp only [qz]
  refine rg_move ?_
  simp only [qz]
  apply rg_pureb (by rfl) (by kernel_rfl)
  case hargs => (simp only [qm, qs, Act.eval]; exact rfl)
  case h => exact fun w hw => mvalidI_any xs a c n w (hA.kn0 hw)
  case hz => exact (fun _ h => by cases h)
  intro x h2
  cases x
  · (try simp only [qd, ne_eq] at h2)
    simp only [qz]
    refine rf_not rfl rfl rfl ?_
    simp only [qz]
    refine rg_assign ?_
    simp only [qz]
    refine rg_nil (ek_next (wk_cond_t rfl (wk_seq ?_)))
    refine wk_region [0] rfl (by kernel_rfl) ?_
    simp only [qy]
    refine rg_assign ?_
    simp only [qz]
    refine rg_nil (ek_next (wk_ret (ek_block_ret (ek_then_ret ?_))))
    refine ek_ret (fun w hw => ⟨rfl, _, res_t _ rfl, ?_⟩)
    (try simp only [qz])
    exact ⟨by unfold itemE; rw [if_pos hbt, if_neg (by rw [h2]; decide)], hw.below⟩
  (try simp only [qd, ne_eq] at h2)
  simp only [qz]
  refine rf_not rfl rfl rfl ?_
  simp only [qz]
  refine rg_assign ?_
  simp only [qz]
  refine rg_nil (ek_next (wk_cond_f rfl (wk_skip (ek_block (ek_next (wk_seq ?_))))))
  refine wk_region [0] rfl (by kernel_rfl) ?_
  simp only [qy]
  refine rg_assign ?_
  simp only [qz]
  refine rg_nil (ek_next (wk_ret ?_))
  refine ek_ret (fun w hw => ⟨rfl, _, res_t _ rfl, ?_⟩)
  (try simp only [qz])
  exact ⟨by unfold itemE; rw [if_pos hbt, if_pos h2], hw.below⟩

set_option maxRecDepth 100000 in
set_option maxHeartbeats 1000000 in
theorem made_items (N : Nat) (xs : List It) (a : Option Addr) (c : Nat) (hN1 : 1 ≤ N) (hN6 : N ≤ 6) (hlx : xs.length ≤ 5000) (hfit : ∀ j, j < xs.length → fitB N (it xs j) = true) (w : World) (hA : AS w a (its xs)) : Calls Try.prog 74 #[.int .i64 N, .slice a xs.length c, .map none] w fun e w' => RetM w (rN N (matS N xs xs.length)) (rL (matS N xs xs.length)) (rC (matS N xs xs.length)) e w' := by
  go_enter Try.func74, Try.ntmps74
  refine wk_start ?_
  refine wk_seq ?_
  refine wk_region [1, 0] rfl (by kernel_rfl) ?_
  simp only [qy]
  refine rg_new (cs := ?_) (ty := ?_) (by rfl) (fun w => ?_) (fun _ h => by cases h) (fun g1 => ?_); rotate_left 2
  focus (go_simp; rfl)
  simp only [qz]
  refine rg_assign ?_
  simp only [qz]
  refine rg_nil (ek_next (wk_seq ?_))
  refine wk_region [0, 1, 0, 0, 0, 1, 1, 0] rfl (by kernel_rfl) ?_
  simp only [qy]
  refine rg_move ?_
  simp only [qz]
  apply (rg_retM (n := (N : Int)) (zs := idM N) (c := 0)) (by rfl) (by kernel_rfl)
  case hargs => (simp only [qm, qs, Act.eval]; exact rfl)
  case h => exact fun w hw => by have := identity_any N w; rw [ident_okM hN1 hN6, Int.toNat_natCast] at this; exact this
  case hz => exact (fun _ h => by cases h)
  intro va2 vc2 u2 hO2
  simp only [qz]
  refine rg_move ?_
  simp only [qz]
  refine rf_extract rfl rfl rfl rfl ?_
  simp only [qz]
  refine rf_extract rfl rfl rfl rfl ?_
  simp only [qz]
  refine rg_new (cs := ?_) (ty := ?_) (by rfl) (fun w => ?_) (fun _ h => by cases h) (fun g3 => ?_); rotate_left 2
  focus (go_simp; rfl)
  simp only [qz]
  refine rf_storeR (n := 2) rfl rfl (by kernel_rfl) rfl rfl (UpdR.here _ _ _ (Nat.le_of_ble_eq_true rfl)) (fun _ h => by cases h) ?_
  simp only [qz, Nat.reduceAdd]
  refine rg_assign ?_
  simp only [qz]
  refine rg_nil (ek_next (wk_seq (wk_seq ?_)))
  refine wk_region [0, 0, 0] rfl (by kernel_rfl) ?_
  simp only [qy]
  refine rg_move ?_
  simp only [qz]
  refine rf_len rfl rfl rfl Try.underlying32 ?_
  simp only [qz]
  refine rg_move ?_
  simp only [qz]
  refine rg_nil (ek_next (wk_block ?_))
  refine wk_loopF [7, 9, 11, 12, 13, 21, 22, 23, 24, 25, 26, 27, 28, 29, 30, 31, 32, 33, 34, 35, 36, 37, 38, 39, 40, 41, 42, 43, 44, 45, 46, 47, 48, 49, 50] (fun mz f s => ∃ (i : Nat) (r : LR) (va : Option Addr) (vc : Nat) (u : List Blk), f 9 = .int .i64 (rC r) ∧ f 21 = .int .i64 i ∧ s = ((g3, .cells #[.int .i64 (rN N r), .slice va (rL r).length vc] 38) :: (u ++ ((g1, .cells #[.int .i64 0, .slice none 0 0] 38) :: []))) ∧ mz = xs.length - i ∧ i ≤ xs.length ∧ Hid (matS N xs i = r) ∧ OwnN u (.slice va (rL r).length vc) (rL r)) ((fun (i : Nat) (r : LR) (va : Option Addr) (vc : Nat) (u : List Blk) => xs.length - i) (0) (.ok (idM N)) (va2) (vc2) (u2)) ?_ (by kernel_rfl) ?_
  · exact ⟨0, .ok (idM N), va2, vc2, u2, rfl, rfl, rfl, rfl, by omega, Lib.hid rfl, hO2⟩
  rintro mz f1 s ⟨i, r, va, vc, u, hs1_9, hs1_21, rfl, hn, hd1, hd2, hd3⟩
  simp only [Act.putF, List.foldl_cons, List.foldl_nil, hs1_9, hs1_21, Act.put, Act.eval, q1, q2, q3, q4, q5, q6, q7, q8, q9, q10, q11, q12, q13, q14, q15, q16, q17, q18, Nat.reduceAdd, Bool.not_true, Bool.not_false]
  clear hs1_9 hs1_21
  refine wk_seq ?_
  refine wk_region [0] rfl (by kernel_rfl) ?_
  simp only [qy]
  refine rfb_lss rfl rfl rfl rfl ?_
  intro x h1
  cases x
  · (try simp only [qd, ne_eq] at h1)
    simp only [qz]
    refine rg_nil (ek_next (wk_seq (wk_cond_f rfl (wk_exit (ek_then_exit (ek_then_exit (ek_block_exit (ek_next (wk_seq ?_)))))))))
    refine wk_region [0, 0, 1, 0] rfl (by kernel_rfl) ?_
    simp only [qy]
    refine rf_loadR (n := 2) rfl rfl rfl Try.underlying38 rfl (by kernel_rfl) (fun w hw => Kn.hd0 hw) rfl rfl ?_
    simp only [qz]
    refine rg_move ?_
    simp only [qz]
    refine rf_storeR (n := 2) rfl rfl (by kernel_rfl) rfl rfl (UpdR.there _ (UpdR.app _ (UpdR.here _ _ _ (Nat.le_of_ble_eq_true rfl)))) (fun _ h => by cases h) ?_
    simp only [qz, Nat.reduceAdd]
    refine rg_assign ?_
    simp only [qz]
    refine rg_nil (ek_next (wk_ret ?_))
    refine ek_ret (fun w hw => ⟨rfl, _, run_results2 rfl rfl (Kn.hd0 (Kn.tlU (Kn.tl hw))) Try.underlying38 rfl (by kernel_rfl), ?_⟩)
    (try simp only [qz])
    obtain rfl : i = xs.length := by omega
    rw [hd2.out]
    exact ⟨_, u, rfl, hd3, hw.made (List.Sublist.cons _ (List.sublist_append_left _ _))⟩
  (try simp only [qd, ne_eq] at h1)
  simp only [qz]
  refine rg_nil (ek_next (wk_seq (wk_cond_t rfl (wk_skip (ek_next (wk_seq (wk_block (wk_seq ?_))))))))
  obtain ⟨b, off, rfl, hlt, hcell⟩ := AS.openT hA (by omega)
  obtain ⟨x, hx⟩ : ∃ x, it xs i = x := ⟨_, rfl⟩
  have hit := hcell i (by omega)
  have hfx := hfit i (by omega)
  rw [hx] at hit hfx
  have hfo := fit_own hfx
  replace hx := Lib.hid hx
  refine wk_region [0, 0, 1, 1] rfl (by kernel_rfl) ?_
  simp only [qy]
  refine rf_indexS (n := i) (sz := 4) (j := off + i * 4) rfl rfl rfl rfl Try.underlying32 (by kernel_rfl) (by omega) (by omega) rfl ?_
  simp only [qz]
  refine rf_loadC (n := 4) (vs := itC x) rfl rfl rfl Try.underlying80 rfl (by kernel_rfl) rfl (fun w hw => itAt_range (hit.kn hw hlt (by simp))) ?_
  simp only [qz]
  refine rg_new (cs := ?_) (ty := ?_) (by rfl) (fun w => ?_) (fun _ h => by cases h) (fun g4 => ?_); rotate_left 2
  focus (go_simp; rfl)
  simp only [qz]
  refine rf_storeR (n := 4) rfl rfl (by kernel_rfl) rfl rfl (UpdR.here _ _ _ (Nat.le_of_ble_eq_true rfl)) (fun _ h => by cases h) ?_
  simp only [qz, Nat.reduceAdd]
  refine rg_nil (ek_next (wk_seq (wk_seq ?_)))
  refine wk_region [0, 0] rfl (by kernel_rfl) ?_
  simp only [qy]
  refine rg_move ?_
  simp only [qz]
  refine rfb_neq rfl rfl rfl rfl ?_
  intro x h2
  cases x
  · (try simp only [qd, ne_eq] at h2)
    simp only [qz]
    obtain ⟨l, hr⟩ := rC_ok (fun c h => matS_code (hd2.out.trans h)) (by simpa using h2)
    subst hr
    clear h2
    have hll := matS_len hN1 hN6 hd2.out
    have hil := itL_len hN1 hN6 x
    have hN36 := Nat.mul_le_mul hN6 hN6
    simp only [rN, rL, rC] at hd3 ⊢
    refine rg_nil (ek_next (wk_cond_f rfl (wk_skip (ek_next (wk_seq ?_)))))
    refine wk_region [0, 0, 0, 0, 0, 0, 0, 1, 1, 0] rfl (by kernel_rfl) ?_
    simp only [qy]
    refine rg_move ?_
    simp only [qz]
    refine rf_field (n := 0) (j := 3) rfl rfl rfl Try.underlying80 rfl (by kernel_rfl) rfl ?_
    simp only [qz]
    refine rf_load rfl rfl rfl Try.underlying9 rfl (fun w hw => (Kn.hd0 hw).at rfl) ?_
    simp only [qz]
    refine rf_lookM rfl rfl rfl rfl ?_
    simp only [qz]
    refine rg_move ?_
    simp only [qz]
    refine rf_extract rfl rfl rfl rfl ?_
    simp only [qz]
    refine rf_extract rfl rfl rfl rfl ?_
    simp only [qz]
    refine rg_new (cs := ?_) (ty := ?_) (by rfl) (fun w => ?_) (fun _ h => by cases h) (fun g5 => ?_); rotate_left 2
    focus (go_simp; rfl)
    simp only [qz]
    refine rf_storeR (n := 2) rfl rfl (by kernel_rfl) rfl rfl (UpdR.here _ _ _ (Nat.le_of_ble_eq_true rfl)) (fun _ h => by cases h) ?_
    simp only [qz, Nat.reduceAdd]
    refine rg_assign ?_
    simp only [qz]
    refine rg_nil (ek_next (wk_seq (wk_seq ?_)))
    refine wk_region [0, 0] rfl (by kernel_rfl) ?_
    simp only [qy]
    refine rg_move ?_
    simp only [qz]
    refine rf_not rfl rfl rfl ?_
    simp only [qz]
    refine rg_nil (ek_next (wk_cond_t rfl ?_))
    refine wk_region [0, 1, 1] rfl (by kernel_rfl) ?_
    simp only [qy]
    refine rf_loadR (n := 4) rfl rfl rfl Try.underlying80 rfl (by kernel_rfl) (fun w hw => Kn.hd0 (Kn.tl hw)) rfl rfl ?_
    simp only [qz]
    apply rg_retM1 (by rfl) (by kernel_rfl)
    case hargs => (simp only [qm, qs, Act.eval]; exact rfl)
    case h => exact fun w hw => own_any x w
    case hz => exact (fun _ h => by cases h)
    intro va6 vc6 u6 hO6
    simp only [qz]
    refine rf_storeR (n := 2) rfl rfl (by kernel_rfl) rfl rfl (UpdR.app _ (UpdR.here _ _ _ (Nat.le_of_ble_eq_true rfl))) (fun _ h => by cases h) ?_
    simp only [qz, Nat.reduceAdd]
    refine rg_nil (ek_next ?_)
    refine wk_draws_m (hz1 := (List.Sublist.append_left (sc _ (sc _ (sk _ (List.Sublist.append_left (sc _ sn) _)))) _)) [(0, 0), (1, 0), (2, 0), (3, 0), (5, 0), (4, 1), (6, 1), (7, 0), (8, 0), (9, 3), (10, 2), (11, 0)] 10 (by kernel_rfl) (by kernel_rfl) (fun c d v a w h => by cases d <;> exact h) ?_
    simp only [List.map_cons, List.map_nil, List.getD_cons_zero, List.getD_cons_succ]
    refine rg_move ?_
    simp only [qz]
    refine rf_field (n := 0) (j := 1) rfl rfl rfl Try.underlying80 rfl (by kernel_rfl) rfl ?_
    simp only [qz]
    refine rf_load rfl rfl rfl Try.underlying3 rfl (fun w hw => (Kn.hd0 (Kn.tl (Kn.tlU hw))).at rfl) ?_
    simp only [qz]
    refine rf_loadR (n := 2) rfl rfl rfl Try.underlying38 rfl (by kernel_rfl) (fun w hw => Kn.hd0 (Kn.tlU hw)) rfl rfl ?_
    simp only [qz]
    refine rf_loadR (n := 2) rfl rfl rfl Try.underlying38 rfl (by kernel_rfl) (fun w hw => Kn.hd0 (Kn.tl (Kn.tl (Kn.tlU hw)))) rfl rfl ?_
    simp only [qz]
    apply (rg_retM1 (n := (N : Int)) (zs := itL N x)) (by rfl) (by kernel_rfl)
    case hargs => (simp only [qm, qs, Act.eval]; exact rfl)
    case h => exact fun w hw => mplaced_int N (x.at_ - 1).toNat (ownN x) x.at_ (ownL x) va6 vc6 hfo.2.2.2.2 hN1 hN6 hfo.2.2.1 hfo.2.1 (Lib.hid (ownL_len x)) w (hO6.asM (hw.perm (List.Perm.refl _)))
    case hz => exact (fun _ h => by cases h; exact (List.Sublist.append_left (sc _ (sc _ (sc _ (List.Sublist.append_left (sc _ sn) _)))) _))
    intro va7 vc7 u7 hO7
    simp only [qz]
    apply (rg_retM (n := rN N (mulM N N (itL N x) l)) (zs := rL (mulM N N (itL N x) l)) (c := rC (mulM N N (itL N x) l))) (by rfl) (by kernel_rfl)
    case hargs => (simp only [qm, qs, Act.eval]; exact rfl)
    case h => exact fun w hw => by have := mul_any N N (itL N x) l va7 va vc7 vc (by omega) (by omega) w (hO7.asM (hw.perm (List.Perm.refl _))) (hd3.asM (hw.perm ((((((((((((List.Perm.refl _).cons _).trans (List.perm_middle (l₁ := u)).symm).cons _).trans (List.perm_middle (l₁ := u)).symm).cons _).trans (List.perm_middle (l₁ := u)).symm).append_left _).trans (List.perm_append_comm_assoc u6 u _)).append_left _).trans (List.perm_append_comm_assoc u7 u _)).trans ((List.Perm.refl _).append_left _)))); rw [Int.toNat_natCast] at this; exact this
    case hz => exact (fun _ h => by cases h; exact ((List.Sublist.append_left (sc _ (sc _ (sc _ (List.Sublist.append_left (sc _ sn) _)))) _).trans (List.sublist_append_right _ _)))
    intro va8 vc8 u8 hO8
    simp only [qz]
    refine rg_move ?_
    simp only [qz]
    refine rf_extract rfl rfl rfl rfl ?_
    simp only [qz]
    refine rf_extract rfl rfl rfl rfl ?_
    simp only [qz]
    refine rf_storeRM (n := 2) rfl rfl (by kernel_rfl) rfl rfl (UpdR.app _ (UpdR.app _ (UpdR.app _ (UpdR.there _ (UpdR.there _ (UpdR.here _ _ _ (Nat.le_of_ble_eq_true rfl))))))) (((List.Sublist.append_left (sc _ (sc _ (sk _ (List.Sublist.append_left (sc _ sn) _)))) _).trans (List.sublist_append_right _ _)).trans (List.sublist_append_right _ _)) ?_
    simp only [qz, Nat.reduceAdd]
    refine rg_assign ?_
    simp only [qz]
    refine rg_nil (ek_block (ek_next ?_))
    refine wk_region [0, 0] rfl (by kernel_rfl) ?_
    simp only [qy]
    refine rf_add rfl rfl rfl rfl (wrap_ok (by omega) (by omega)) ?_
    simp only [qz]
    refine rg_move ?_
    simp only [qz]
    refine rg_nil ?_
    refine ek_sub (List.Sublist.append_left (((sk _ (sk _ (sc _ ((sc _ sn).trans (List.sublist_append_right _ _))))).trans (List.sublist_append_right _ _)).trans (List.sublist_append_right _ _)) _) ?_
    refine ek_perm ((((List.Perm.refl _).append_left _).trans (List.perm_middle (l₁ := u8))).trans ((List.Perm.refl _).cons _)) ?_
    refine ek_roundF (xs.length - (i + 1)) (by omega) (by kernel_rfl) ?_
    exact ⟨i + 1, mulM N N (itL N x) l, va8, vc8, u8, rfl, rfl, by rfl, by rfl, (by omega), (Lib.hid (by rw [matS, hd2.out, hx.out])), hO8⟩
  (try simp only [qd, ne_eq] at h2)
  simp only [qz]
  refine rg_nil (ek_next (wk_cond_t rfl (wk_seq ?_)))
  refine wk_region [0, 0, 1, 0] rfl (by kernel_rfl) ?_
  simp only [qy]
  refine rf_build (cs := fun a => #[.int .i64 0, .slice none 0 0]) rfl rfl (by kernel_rfl) ?_
  simp only [qz]
  refine rg_move ?_
  simp only [qz]
  refine rf_storeR (n := 2) rfl rfl (by kernel_rfl) rfl rfl (UpdR.there _ (UpdR.there _ (UpdR.app _ (UpdR.here _ _ _ (Nat.le_of_ble_eq_true rfl))))) (fun _ h => by cases h) ?_
  simp only [qz, Nat.reduceAdd]
  refine rg_assign ?_
  simp only [qz]
  refine rg_nil (ek_next (wk_ret (ek_then_ret (ek_block_ret (ek_then_ret (ek_then_ret (ek_block_ret (ek_then_ret ?_))))))))
  refine ek_ret (fun w hw => ⟨rfl, _, run_results2 rfl rfl (Kn.hd0 (Kn.tlU (Kn.tl (Kn.tl hw)))) Try.underlying38 rfl (by kernel_rfl), ?_⟩)
  (try simp only [qz])
  cases r with
  | ok l => exact absurd rfl h2
  | error cc =>
    rw [matS_err hd2.out xs.length (by omega)]
    exact ⟨.slice none 0 0, [], rfl, OwnG.nil, .nil hw.below⟩

set_option maxRecDepth 100000 in
set_option maxHeartbeats 1000000 in
theorem matrixOf_any (n : Int) (xs : List It) (a : Option Addr) (c : Nat) (w : World) (hA : AS w a (its xs)) : Calls Try.prog 37 #[.int .i64 n, .slice a xs.length c] w fun e w' => RetM w (rN n.toNat (matO n xs)) (rL (matO n xs)) (rC (matO n xs)) e w' := by
  go_enter Try.func37, Try.ntmps37
  refine wk_start ?_
  refine wk_seq ?_
  refine wk_region [1, 0] rfl (by kernel_rfl) ?_
  simp only [qy]
  refine rg_new (cs := ?_) (ty := ?_) (by rfl) (fun w => ?_) (fun _ h => by cases h) (fun g1 => ?_); rotate_left 2
  focus (go_simp; rfl)
  simp only [qz]
  refine rg_assign ?_
  simp only [qz]
  refine rg_nil (ek_next (wk_seq (wk_seq ?_)))
  refine wk_region [0, 0, 1, 0] rfl (by kernel_rfl) ?_
  simp only [qy]
  refine rg_move ?_
  simp only [qz]
  refine rg_move ?_
  simp only [qz]
  apply rg_pure (by rfl) (by kernel_rfl)
  case hargs => (simp only [qm, qs, Act.eval]; exact rfl)
  case h => exact fun w hw => mcheck_any n xs a c w (hA.kn0 hw)
  case hz => exact (fun _ h => by cases h)
  simp only [qz]
  refine rg_assign ?_
  simp only [qz]
  refine rg_nil (ek_next (wk_seq ?_))
  refine wk_region [0, 0] rfl (by kernel_rfl) ?_
  simp only [qy]
  refine rg_move ?_
  simp only [qz]
  refine rfb_neq rfl rfl rfl rfl ?_
  intro x h1
  cases x
  · (try simp only [qd, ne_eq] at h1)
    simp only [qz]
    have hie : itemE n xs = 0 := by simpa using h1
    refine rg_nil (ek_next (wk_cond_f rfl (wk_skip (ek_next (wk_seq ?_)))))
    refine wk_region [0, 0, 1, 0, 0, 1, 0] rfl (by kernel_rfl) ?_
    simp only [qy]
    refine rg_move ?_
    simp only [qz]
    refine rg_move ?_
    simp only [qz]
    obtain ⟨hn1, hn6, hl5, hft⟩ := validB_all (n := n) (xs := xs) (itemE_zero hie)
    obtain ⟨N, rfl⟩ : ∃ N : Nat, n = N := ⟨n.toNat, by omega⟩
    have hmo : matO (N : Int) xs = matS N xs xs.length := by (unfold matO; rw [if_pos hie, Int.toNat_natCast])
    replace hmo := Lib.hid hmo
    apply rg_retM (by rfl) (by kernel_rfl)
    case hargs => (simp only [qm, qs, Act.eval]; exact rfl)
    case h => exact fun w hw => made_items N xs a c (by omega) (by omega) hl5 hft w (hA.kn0 hw)
    case hz => exact (fun _ h => by cases h)
    intro va2 vc2 u2 hO2
    simp only [qz]
    refine rf_extract rfl rfl rfl rfl ?_
    simp only [qz]
    refine rf_extract rfl rfl rfl rfl ?_
    simp only [qz]
    refine rf_storeR (n := 2) rfl rfl (by kernel_rfl) rfl rfl (UpdR.app _ (UpdR.here _ _ _ (Nat.le_of_ble_eq_true rfl))) (fun _ h => by cases h) ?_
    simp only [qz, Nat.reduceAdd]
    refine rg_assign ?_
    simp only [qz]
    refine rg_nil (ek_next (wk_ret ?_))
    refine ek_ret (fun w hw => ⟨rfl, _, run_results2 rfl rfl (Kn.hd0 (Kn.tlU hw)) Try.underlying38 rfl (by kernel_rfl), ?_⟩)
    (try simp only [qz])
    rw [hmo.out, Int.toNat_natCast]
    exact ⟨_, u2, rfl, hO2, hw.made (List.sublist_append_left _ _)⟩
  (try simp only [qd, ne_eq] at h1)
  simp only [qz]
  have hie : itemE n xs ≠ 0 := by simpa using h1
  refine rg_nil (ek_next (wk_cond_t rfl (wk_seq ?_)))
  refine wk_region [0, 0, 1, 0] rfl (by kernel_rfl) ?_
  simp only [qy]
  refine rf_build (cs := fun a => #[.int .i64 0, .slice none 0 0]) rfl rfl (by kernel_rfl) ?_
  simp only [qz]
  refine rg_move ?_
  simp only [qz]
  refine rf_storeR (n := 2) rfl rfl (by kernel_rfl) rfl rfl (UpdR.here _ _ _ (Nat.le_of_ble_eq_true rfl)) (fun _ h => by cases h) ?_
  simp only [qz, Nat.reduceAdd]
  refine rg_assign ?_
  simp only [qz]
  refine rg_nil (ek_next (wk_ret (ek_then_ret ?_)))
  refine ek_ret (fun w hw => ⟨rfl, _, run_results2 rfl rfl (Kn.hd0 hw) Try.underlying38 rfl (by kernel_rfl), ?_⟩)
  (try simp only [qz])
  have hmo : matO n xs = .error (itemE n xs) := by (unfold matO; rw [if_neg hie])
  rw [hmo]
  exact ⟨.slice none 0 0, [], rfl, OwnG.nil, .nil hw.below⟩

end Go.Proofs.Ytccbinnlnkpplaa
namespace Go.Proofs.Ytccbinnlnkpplaa
set_option linter.all false
open Go.RowKit
section
variable {R : Option Nat} {P : Program} {ops : Array Oper} {Q : Exit → Act → World → Prop} {B : World} {F : List Nat} {fuel : Nat} {listed : Array Bool} {a : Act} {s : List Blk}
def RR (R : Option Nat) (P : Program) (ops : Array Oper) (Q : Exit → Act → World → Prop) (B : World) (F : List Nat) (fuel : Nat) (listed : Array Bool) (a : Act) (s : List Blk) : Prop :=
  ∀ w, Kn B F s w → wpAnyIn (FR R) 0 P .any ops Q fuel listed a w
abbrev QR (R : Option Nat) (P : Program) (ops : Array Oper) (Q : Exit → Act → World → Prop) (fuel : Nat) (listed : Array Bool) : Exit → Act → World → Prop :=
  Exit.then (wpAnyIn (FR R) 0 P .any ops Q fuel listed) Q
theorem ek_rr (h : RR R P ops Q B F fuel listed a s) : Ek B F (QR R P ops Q fuel listed) .normal a s := h
theorem oper_out {K : Act → World → Prop} {o : Oper} {w : World} (h : o.wpIn (FR R) 0 P a w K (Exit.then K Q)) : o.wpIn (FR R) 0 P a w K Q := by
  unfold Oper.wpIn at *
  refine ⟨h.1, ?_⟩
  have h := h.2
  generalize (o.semAt (FR R).round a.eval).run P w = r at *
  cases r with
  | ok n w' =>
    cases n <;> simp only [Oper.uponIn] at h ⊢ <;>
      first
        | exact h
        | exact ⟨h.1, CallsIn.mono h.2 (fun e w'' he => by cases e <;> first | exact he | (obtain ⟨a₀, w₀, h₀⟩ := he; exact ⟨a₀, w₀, h₀⟩))⟩
        | exact ⟨h.1, RoundIn.mono h.2 (fun e w'' he => by cases e <;> first | exact he | (obtain ⟨a₀, w₀, h₀⟩ := he; exact ⟨a₀, w₀, h₀⟩))⟩
  | halt x w' => cases x <;> simp only [Oper.uponIn] at h ⊢ <;> exact h
theorem op_one {i : Nat} {o : Oper} {K : Act → World → Prop} {w : World} (ho : ops[i]? = some o) (h : wpListIn (FR R) 0 P ops (Exit.then K Q) [o] a w) : wpOpIn (FR R) 0 P ops Q i K a w := by
  unfold wpOpIn
  simp only [ho]
  unfold wpListIn at h
  split
  · next hw =>
    rw [if_pos hw] at h
    exact oper_out h
  · next hw =>
    rw [if_neg hw] at h
    exact h
theorem rr_step {f : Nat} {o : Oper} {listed' : Array Bool} (hd : noDefer [o] = true) (h : Rg R P ops (QR R P ops Q fuel listed') B F none [(o, f)] a s) (w : World) (K : Kn B F s w) :
    wpListIn (FR R) 0 P ops (QR R P ops Q fuel listed') [o] a w := rg_text [(o, f)] a s hd h w K
theorem any_ready {rs : List Nat} {w : World} (hr : Region.ready .any ops listed = rs) (hne : rs ≠ []) (h : ∀ i ∈ rs, wpOpIn (FR R) 0 P ops Q i (wpAnyIn (FR R) 0 P .any ops Q fuel (listed.setIfInBounds i true)) a w) : wpAnyIn (FR R) 0 P .any ops Q (fuel + 1) listed a w :=
  ⟨fun h0 => absurd (hr ▸ h0) hne, hr ▸ h⟩
theorem rr_hard1 {i f : Nat} {o : Oper} (hr : Region.ready .any ops listed = [i]) (ho : ops[i]? = some o) (hd : noDefer [o] = true)
    (h : Rg R P ops (QR R P ops Q fuel (listed.setIfInBounds i true)) B F none [(o, f)] a s) : RR R P ops Q B F (fuel + 1) listed a s := fun w K =>
  any_ready hr (by simp) fun k hk => by
    obtain rfl : k = i := by simpa using hk
    exact op_one ho (rr_step hd h w K)
theorem rr_hard2 {i j f g : Nat} {o u : Oper} (hr : Region.ready .any ops listed = [i, j]) (ho : ops[i]? = some o) (hu : ops[j]? = some u) (hd : noDefer [o] = true) (hd' : noDefer [u] = true)
    (h : Rg R P ops (QR R P ops Q fuel (listed.setIfInBounds i true)) B F none [(o, f)] a s)
    (h' : Rg R P ops (QR R P ops Q fuel (listed.setIfInBounds j true)) B F none [(u, g)] a s) : RR R P ops Q B F (fuel + 1) listed a s := fun w K =>
  any_ready hr (by simp) fun k hk => by
    rcases (by simpa using hk : k = i ∨ k = j) with rfl | rfl
    · exact op_one ho (rr_step hd h w K)
    · exact op_one hu (rr_step hd' h' w K)
theorem rr_hard3 {i j k f g e : Nat} {o u v : Oper} (hr : Region.ready .any ops listed = [i, j, k]) (ho : ops[i]? = some o) (hu : ops[j]? = some u) (hv : ops[k]? = some v) (hd : noDefer [o] = true) (hd' : noDefer [u] = true) (hd'' : noDefer [v] = true)
    (h : Rg R P ops (QR R P ops Q fuel (listed.setIfInBounds i true)) B F none [(o, f)] a s)
    (h' : Rg R P ops (QR R P ops Q fuel (listed.setIfInBounds j true)) B F none [(u, g)] a s)
    (h'' : Rg R P ops (QR R P ops Q fuel (listed.setIfInBounds k true)) B F none [(v, e)] a s) : RR R P ops Q B F (fuel + 1) listed a s := fun w K =>
  any_ready hr (by simp) fun x hx => by
    rcases (by simpa using hx : x = i ∨ x = j ∨ x = k) with rfl | rfl | rfl
    · exact op_one ho (rr_step hd h w K)
    · exact op_one hu (rr_step hd' h' w K)
    · exact op_one hv (rr_step hd'' h'' w K)
theorem rr_nil (hr : (Region.ready .any ops listed).isEmpty = true) (h : Ek B F Q .normal a s) : RR R P ops Q B F 0 listed a s := fun w K => ⟨by simpa using hr, h w K⟩
theorem wk_rr {id : Nat} {l : List Oper} (hm : P.follows .mixedOrders = true) (h : RR R P l.toArray Q B F l.length (Array.replicate l.length false) a s) :
    Wk R P B F Q a s (Code.region id l.toArray true) := fun w K => wpIn_region_any hm (by
      have := h w.drew K.drew
      simpa using this)
end
end Go.Proofs.Ytccbinnlnkpplaa
namespace Go.Proofs.Ytccbinnlnkpplaa
set_option linter.all false
open Go.RowKit

theorem fit_kind {N : Nat} {x : It} (h : fitB N x = true) : (x.kind = 1 ∧ 1 ≤ x.n ∧ x.n ≤ 7) ∨ x.kind = 2 ∨ x.kind = 3 := by
  have h' := of_decide_eq_true h
  have h1 := h'.1
  unfold wd at h1
  split at h1
  · next hk => split at h1
               · next hh => exact .inl ⟨hk, hh.1, hh.2.1⟩
               · exact absurd rfl h1
  split at h1
  · next hk => rcases hk with hk | hk
               · exact .inr (.inl hk)
               · exact .inr (.inr hk)
  exact absurd rfl h1
set_option maxRecDepth 100000 in
set_option maxHeartbeats 1000000 in
theorem r3placed_any (N p m : Nat) (L : List Nm) (a : Option Addr) (c : Nat) (hN1 : 1 ≤ N) (hN6 : N ≤ 6) (hm1 : 1 ≤ m) (hpm : p + m ≤ N) (hL : Hid (L.length = m * m)) (w : World) (hA : AS w a (nms L)) : Calls Try.prog 126 #[.int .i64 N, .int .i64 ((p : Int) + 1), .agg #[.int .i64 m, .slice a L.length c]] w fun e w' => RetM1 w N (plcL N p m L) e w' := by
  obtain ⟨b, off, rfl, hlt, hcell⟩ := AS.openN hA (by rw [hL.out]; exact Nat.mul_pos Ox Ox)
  have hz1 : 1 ≤ N * N := Nat.mul_pos Ox Ox
  have hidl := idM_len (N := N) Ox hN6
  obtain ⟨z0, hz0⟩ : ∃ r, idM N = r := ⟨_, rfl⟩
  go_enter Try.func126, Try.ntmps126
  refine wk_start ?_
  refine wk_seq ?_
  refine wk_region [1, 1] rfl Kx ?_
  simp only [qy]
  refine Rgn fun g1 => ?_
  simp only [qz]
  refine Rgn fun g2 => ?_
  simp only [qz]
  refine rg_nil (ek_next (wk_seq ?_))
  refine wk_region [0, 1, 1, 1] rfl Kx ?_
  simp only [qy]
  refine rg_move ?_
  simp only [qz]
  apply (rg_retM1 (n := (N : Int)) (zs := z0)) Rx Kx
  case hargs => exact Ax
  case h => exact fun w hw => by have := r3ident_any N Ox hN6 w; rw [hz0] at this; exact this
  case hz => exact Nz
  intro va3 vc3 u3 hO3
  simp only [qz]
  refine Rgn fun g4 => ?_
  simp only [qz]
  refine rf_storeR (n := 2) rfl rfl Kx rfl rfl (UpdR.here _ _ _ Nl) Nz ?_
  simp only [qz, Nat.reduceAdd]
  refine rg_nil (ek_next (wk_seq (wk_seq ?_)))
  have hzl : z0.length = N * N := by rw [← hz0]; exact hidl
  rw [hzl]
  clear hidl
  replace hzl := Lib.hid hzl
  replace hz0 := Lib.hid hz0
  refine wk_region [0, 0, 0] rfl Kx ?_
  simp only [qy]
  refine rf_field (n := 0) (j := 0) rfl rfl rfl Try.underlying38 rfl Kx rfl ?_
  simp only [qz]
  refine rf_load rfl rfl rfl Try.underlying3 rfl (fun w hw => (Kn.hd0 (Kn.tl (Kn.tlU (Kn.tl hw)))).at rfl) ?_
  simp only [qz]
  refine rg_move ?_
  simp only [qz]
  refine rg_nil (ek_next (wk_block ?_))
  refine wk_loopF [8, 9, 14, 15, 16, 17, 18, 19, 20, 21, 22, 23, 24, 25, 26, 27, 28, 29, 30, 31, 32, 33, 34, 35, 36, 37, 38, 39, 40, 41, 42, 43, 44, 45, 46, 47] (fun mz f s => ∃ (i : Nat) (u : List Blk), f 14 = .int .i64 i ∧ s = ((g4, .cells #[.int .i64 N, .slice va3 (N * N) vc3] 38) :: (u ++ ((g2, .cells #[.int .i64 0, .slice none 0 0] 38) :: ((g1, .cells #[.int .i64 m, .slice (some ⟨b, off, none⟩) L.length c] 38) :: [])))) ∧ mz = m - i ∧ i ≤ m ∧ OwnN u (.slice va3 (N * N) vc3) (plcS N p m L z0 (i * m))) ((fun (i : Nat) (u : List Blk) => m - i) (0) (u3)) ?_ Kx ?_
  · exact ⟨0, u3, rfl, rfl, rfl, by omega, by rw [Nat.zero_mul]; show OwnN u3 (.slice va3 (N * N) vc3) z0; rw [← hzl.out]; exact hO3⟩
  rintro mz f1 s ⟨i, u, hs1_14, rfl, hn, hd1, hd2⟩
  simp only [Act.putF, List.foldl_cons, List.foldl_nil, hs1_14, Act.put, Act.eval, q1, q2, q3, q4, q5, q6, q7, q8, q9, q10, q11, q12, q13, q14, q15, q16, q17, q18, Nat.reduceAdd, Bool.not_true, Bool.not_false]
  clear hs1_14
  refine wk_seq ?_
  refine wk_region [0] rfl Kx ?_
  simp only [qy]
  refine rfb_lss rfl rfl rfl rfl ?_
  intro x h1
  cases x
  · (try simp only [qd, ne_eq] at h1)
    simp only [qz]
    refine rg_nil (ek_next (wk_seq (wk_cond_f rfl (wk_exit (ek_then_exit (ek_then_exit (ek_block_exit (ek_next (wk_seq ?_)))))))))
    refine wk_region [0, 1] rfl Kx ?_
    simp only [qy]
    refine rf_loadR (n := 2) rfl rfl rfl Try.underlying38 rfl Kx (fun w hw => Kn.hd0 hw) rfl rfl ?_
    simp only [qz]
    refine rf_storeR (n := 2) rfl rfl Kx rfl rfl (UpdR.there _ (UpdR.app _ (UpdR.here _ _ _ Nl))) Nz ?_
    simp only [qz, Nat.reduceAdd]
    refine rg_nil (ek_next (wk_ret ?_))
    refine ek_ret (fun w hw => ⟨rfl, _, run_results1 rfl rfl (Kn.hd0 (Kn.tlU (Kn.tl hw))) Try.underlying38 rfl Kx, ?_⟩)
    (try simp only [qz])
    obtain rfl : i = m := by omega
    have e1 : plcL N p i L = plcS N p i L z0 (i * i) := by (unfold plcL; rw [hz0.out])
    rw [e1]
    exact ⟨_, u, rfl, hd2, hw.made (List.Sublist.cons _ (List.sublist_append_left _ _))⟩
  (try simp only [qd, ne_eq] at h1)
  simp only [qz]
  refine rg_nil (ek_next (wk_seq (wk_cond_t rfl (wk_skip (ek_next (wk_seq (wk_block (wk_seq ?_))))))))
  refine wk_region [0, 0] rfl Kx ?_
  simp only [qy]
  refine rg_move ?_
  simp only [qz]
  refine rg_assign ?_
  simp only [qz]
  refine rg_nil (ek_next (wk_seq ?_))
  refine wk_region [0, 0, 0] rfl Kx ?_
  simp only [qy]
  refine rf_field (n := 0) (j := 0) rfl rfl rfl Try.underlying38 rfl Kx rfl ?_
  simp only [qz]
  refine rf_load rfl rfl rfl Try.underlying3 rfl (fun w hw => (Kn.hd0 (Kn.tl (Kn.tlU (Kn.tl hw)))).at rfl) ?_
  simp only [qz]
  refine rg_move ?_
  simp only [qz]
  refine rg_nil (ek_next (wk_block ?_))
  refine wk_loopF [9, 19, 20, 21, 22, 23, 24, 25, 26, 27, 28, 29, 30, 31, 32, 33, 34, 35, 36, 37, 38, 39, 40, 41, 42, 43, 44, 45, 46] (fun mz f s => ∃ (k : Nat) (u2 : List Blk), f 19 = .int .i64 k ∧ s = ((g4, .cells #[.int .i64 N, .slice va3 (N * N) vc3] 38) :: (u2 ++ ((g2, .cells #[.int .i64 0, .slice none 0 0] 38) :: ((g1, .cells #[.int .i64 m, .slice (some ⟨b, off, none⟩) L.length c] 38) :: [])))) ∧ mz = m - k ∧ k ≤ m ∧ OwnN u2 (.slice va3 (N * N) vc3) (plcS N p m L z0 (i * m + k))) ((fun (k : Nat) (u2 : List Blk) => m - k) (0) (u)) ?_ Kx ?_
  · exact ⟨0, u, rfl, rfl, rfl, by omega, hd2⟩
  rintro mz f2 s ⟨k, u2, hs2_19, rfl, hn, he1, he2⟩
  simp only [Act.putF, List.foldl_cons, List.foldl_nil, hs2_19, Act.put, Act.eval, q1, q2, q3, q4, q5, q6, q7, q8, q9, q10, q11, q12, q13, q14, q15, q16, q17, q18, Nat.reduceAdd, Bool.not_true, Bool.not_false]
  clear hs2_19
  refine wk_seq ?_
  refine wk_region [0] rfl Kx ?_
  simp only [qy]
  refine rfb_lss rfl rfl rfl rfl ?_
  intro x h2
  cases x
  · (try simp only [qd, ne_eq] at h2)
    simp only [qz]
    refine rg_nil (ek_next (wk_seq (wk_cond_f rfl (wk_exit (ek_then_exit (ek_then_exit (ek_block_exit (ek_block (ek_next ?_)))))))))
    refine wk_region [0, 0] rfl Kx ?_
    simp only [qy]
    refine rf_add rfl rfl rfl rfl (wrap_ok Ox Ox) ?_
    simp only [qz]
    refine rg_move ?_
    simp only [qz]
    refine rg_nil ?_
    obtain rfl : m = k := by omega
    refine ek_roundF (m - (i + 1)) Ox Kx ?_
    exact ⟨i + 1, u2, rfl, by rfl, by rfl, Ox, (by rw [show (i + 1) * m = i * m + m by rw [Nat.add_mul, Nat.one_mul]]; exact he2)⟩
  (try simp only [qd, ne_eq] at h2)
  simp only [qz]
  refine rg_nil (ek_next (wk_seq (wk_cond_t rfl (wk_skip (ek_next (wk_seq (wk_block (wk_seq ?_))))))))
  refine wk_region [0, 0] rfl Kx ?_
  simp only [qy]
  refine rg_move ?_
  simp only [qz]
  refine rg_assign ?_
  simp only [qz]
  refine rg_nil (ek_next ?_)
  have hpl := plcS_len N p m L z0 (i * m + k)
  obtain ⟨go, capo, resto, hu, hvo, hco1, hco2, hco3⟩ := he2.openM (by rw [hpl, hzl.out]; omega)
  subst hu
  rw [hpl, hzl.out] at hvo hco1
  cases hvo
  have hix := ix_lt (N := N) (show p + i < N by omega) (show p + k < N by omega)
  have hmx := ix_lt (N := m) (show i < m by omega) (show k < m by omega)
  have hLm := hL.out
  have hm36 := Nat.mul_le_mul (show m ≤ 6 by omega) (show m ≤ 6 by omega)
  have hN36 := Nat.mul_le_mul hN6 hN6
  have hcst : (((p + i : Nat) : Int) * N) = (((p + i) * N : Nat) : Int) := (Int.natCast_mul _ _).symm
  have hcst2 : ((i : Int) * m) = ((i * m : Nat) : Int) := (Int.natCast_mul _ _).symm
  obtain ⟨ix, hixe⟩ : ∃ r, (p + i) * N + p + k = r := ⟨_, rfl⟩
  have hixl : ix < N * N := by omega
  obtain ⟨jx, hjxe⟩ : ∃ r, i * m + k = r := ⟨_, rfl⟩
  have hjxl : jx < L.length := by omega
  simp only [List.cons_append, List.nil_append]
  refine wk_draws_m (hz1 := (sc _ (sk _ (sc _ (sc _ sn))))) [(0, 0), (1, 0), (2, 0), (3, 0), (4, 0), (5, 0), (6, 0), (7, 0), (8, 0), (9, 0), (10, 0), (11, 0), (12, 0), (13, 0), (14, 0), (15, 0), (16, 0), (17, 0), (18, 0), (19, 0), (20, 0), (21, 0), (22, 0), (23, 0), (24, 2)] 24 Kx Kx (fun c d v a w h => by cases d <;> exact h) ?_
  simp only [List.map_cons, List.map_nil, List.getD_cons_zero, List.getD_cons_succ]
  refine rf_field (n := 0) (j := 1) rfl rfl rfl Try.underlying38 rfl Kx rfl ?_
  simp only [qz]
  refine rf_load rfl rfl rfl Try.underlying36 rfl (fun w hw => (Kn.hd0 hw).at rfl) ?_
  simp only [qz]
  refine rg_move ?_
  simp only [qz]
  refine rf_sub (r := (p : Int)) rfl rfl rfl rfl (wrap_eqB Ox Ox Ox) ?_
  simp only [qz]
  refine rg_move ?_
  simp only [qz]
  refine rf_add (r := ((p + i : Nat) : Int)) rfl rfl rfl rfl (wrap_eqB Ox Ox Ox) ?_
  simp only [qz]
  refine rg_move ?_
  simp only [qz]
  refine rf_mul (r := (((p + i) * N : Nat) : Int)) rfl rfl rfl rfl (wrap_eqB hcst Ox Ox) ?_
  simp only [qz]
  refine rg_move ?_
  simp only [qz]
  refine rf_add (r := ((p + i) * N : Nat) + ((p : Int) + 1)) rfl rfl rfl rfl (wrap_eqB Ox Ox Ox) ?_
  simp only [qz]
  refine rf_sub (r := (((p + i) * N + p : Nat) : Int)) rfl rfl rfl rfl (wrap_eqB Ox Ox Ox) ?_
  simp only [qz]
  refine rg_move ?_
  simp only [qz]
  refine rf_add (r := ((ix : Nat) : Int)) rfl rfl rfl rfl (wrap_eqB Ox Ox Ox) ?_
  simp only [qz]
  refine rf_field (n := 0) (j := 1) rfl rfl rfl Try.underlying38 rfl Kx rfl ?_
  simp only [qz]
  refine rf_load rfl rfl rfl Try.underlying36 rfl (fun w hw => (Kn.hd0 (Kn.tl (Kn.tl (Kn.tl hw)))).at rfl) ?_
  simp only [qz]
  refine rg_move ?_
  simp only [qz]
  refine rf_field (n := 0) (j := 0) rfl rfl rfl Try.underlying38 rfl Kx rfl ?_
  simp only [qz]
  refine rf_load rfl rfl rfl Try.underlying3 rfl (fun w hw => (Kn.hd0 (Kn.tl (Kn.tl (Kn.tl hw)))).at rfl) ?_
  simp only [qz]
  refine rf_mul (r := ((i * m : Nat) : Int)) rfl rfl rfl rfl (wrap_eqB hcst2 Ox Ox) ?_
  simp only [qz]
  refine rg_move ?_
  simp only [qz]
  refine rf_add (r := ((jx : Nat) : Int)) rfl rfl rfl rfl (wrap_eqB Ox Ox Ox) ?_
  simp only [qz]
  refine rf_indexS (n := jx) (sz := 5) (j := off + jx * 5) rfl rfl rfl rfl Try.underlying36 Kx Ox Ox rfl ?_
  simp only [qz]
  refine rf_loadC (n := 5) (vs := nmC (nm L jx)) rfl rfl rfl Try.underlying45 rfl Kx rfl (fun w hw => atN_range ((hcell jx hjxl).kn hw hlt (by simp))) ?_
  simp only [qz]
  refine rf_indexS (n := ix) (sz := 5) (j := 0 + ix * 5) rfl rfl rfl rfl Try.underlying36 Kx Ox Ox rfl ?_
  simp only [qz]
  have hsz := nm_szM (plcS N p m L z0 jx) ix (nm L jx) resto (by rw [← hjxe, hpl, hzl.out]; exact hixl)
  rw [hjxe]
  refine rf_storeRM (n := 5) (vs := nmC (nm L jx)) rfl rfl Kx rfl rfl (UpdR.there _ (UpdR.here _ _ _ hsz)) (sc _ (sk _ (sc _ (sc _ sn)))) ?_
  have hstep : (plcS N p m L z0 jx).set ix (nm L jx) = plcS N p m L z0 (i * m + (k + 1)) := by
    rw [← Nat.add_assoc, plcS, hjxe, ← hixe, ← hjxe, ix_div (show k < m by omega), ix_mod (show k < m by omega)]
  rw [nm_flM _ _ _ _ (by rw [← hjxe, hpl, hzl.out]; exact hixl), hstep]
  have hON := OwnN.flM (g := go) (n := N * N) (l := plcS N p m L z0 (i * m + (k + 1))) (rest := resto) (by rw [plcS_len, hzl.out]) hco1 hco2 (by rw [List.length_append, El.flat_len, plcS_len, hzl.out] at hco3 ⊢; exact hco3)
  simp only [qz]
  refine rg_nil (ek_block (ek_next ?_))
  refine wk_region [0, 0] rfl Kx ?_
  simp only [qy]
  refine rf_add rfl rfl rfl rfl (wrap_ok Ox Ox) ?_
  simp only [qz]
  refine rg_move ?_
  simp only [qz]
  refine rg_nil ?_
  refine ek_roundF (m - (k + 1)) Ox Kx ?_
  exact ⟨k + 1, [(go, _)], rfl, by rfl, by rfl, Ox, hON⟩

theorem r3placed_int (N p m : Nat) (z : Int) (L : List Nm) (a : Option Addr) (c : Nat) (hz : z = p + 1) (hN1 : 1 ≤ N) (hN6 : N ≤ 6) (hm1 : 1 ≤ m) (hpm : p + m ≤ N) (hL : Hid (L.length = m * m)) (w : World) (hA : AS w a (nms L)) : Calls Try.prog 126 #[.int .i64 N, .int .i64 z, .agg #[.int .i64 m, .slice a L.length c]] w fun e w' => RetM1 w N (plcL N p m L) e w' := by
  subst hz
  exact r3placed_any N p m L a c hN1 hN6 hm1 hpm hL w hA
set_option maxRecDepth 100000 in
set_option maxHeartbeats 1000000 in
theorem r3of_any (x : It) (hk : (x.kind = 1 ∧ 1 ≤ x.n ∧ x.n ≤ 7) ∨ x.kind = 2 ∨ x.kind = 3) (w : World) : Calls Try.prog 127 #[.agg #[.int .i64 x.kind, .int .i64 x.at_, .int .i64 x.n, .string x.name]] w fun e w' => RetM1 w (ownN x) (ownL x) e w' := by
  go_enter Try.func127, Try.ntmps127
  refine wk_start ?_
  refine wk_seq ?_
  refine wk_region [1, 1] rfl Kx ?_
  simp only [qy]
  refine Rgn fun g1 => ?_
  simp only [qz]
  refine Rgn fun g2 => ?_
  simp only [qz]
  refine rg_nil (ek_next (wk_seq ?_))
  refine wk_region [0, 0, 1, 1] rfl Kx ?_
  simp only [qy]
  refine rf_build (cs := fun a => #[a.eval (.const (.int .i64 1)), .int .i64 0, .int .i64 0, .int .i64 0]) rfl rfl Kx ?_
  simp only [qz]
  refine rf_build (cs := fun a => #[cellAt (a.eval (.tmp 7)) 0, cellAt (a.eval (.tmp 7)) 1, cellAt (a.eval (.tmp 7)) 2, cellAt (a.eval (.tmp 7)) 3, a.eval (.const (.int .i64 1))]) rfl rfl Kx ?_
  simp only [qz]
  refine Rgn fun g3 => ?_
  simp only [qz]
  refine rf_storeR (n := 5) rfl rfl Kx rfl rfl (UpdR.here _ _ _ Nl) Nz ?_
  simp only [qz, Nat.reduceAdd]
  refine rg_nil (ek_next (wk_seq ?_))
  refine wk_region [0, 0, 1, 1] rfl Kx ?_
  simp only [qy]
  refine rf_build (cs := fun a => #[a.eval (.const (.int .i64 0)), a.eval (.const (.int .i64 0)), a.eval (.const (.int .i64 1)), .int .i64 0]) rfl rfl Kx ?_
  simp only [qz]
  refine rf_build (cs := fun a => #[cellAt (a.eval (.tmp 9)) 0, cellAt (a.eval (.tmp 9)) 1, cellAt (a.eval (.tmp 9)) 2, cellAt (a.eval (.tmp 9)) 3, a.eval (.const (.int .i64 1))]) rfl rfl Kx ?_
  simp only [qz]
  refine Rgn fun g4 => ?_
  simp only [qz]
  refine rf_storeR (n := 5) rfl rfl Kx rfl rfl (UpdR.here _ _ _ Nl) Nz ?_
  simp only [qz, Nat.reduceAdd]
  refine rg_nil (ek_next (wk_seq (wk_seq ?_)))
  refine wk_region [0, 0] rfl Kx ?_
  simp only [qy]
  refine rf_field (n := 0) (j := 0) rfl rfl rfl Try.underlying80 rfl Kx rfl ?_
  simp only [qz]
  refine rf_load rfl rfl rfl Try.underlying3 rfl (fun w hw => (Kn.hd0 (Kn.tl (Kn.tl (Kn.tl hw)))).at rfl) ?_
  simp only [qz]
  refine rg_nil (ek_next (wk_block (wk_seq ?_)))
  refine wk_region [0, 0] rfl Kx ?_
  simp only [qy]
  refine rfb_eql rfl rfl rfl rfl ?_
  intro x h1
  cases x
  · (try simp only [qd, ne_eq] at h1)
    simp only [qz]
    refine rg_assign ?_
    simp only [qz]
    refine rg_nil (ek_next (wk_cond_f rfl (wk_seq ?_)))
    refine wk_region [0, 0] rfl Kx ?_
    simp only [qy]
    refine rfb_eql rfl rfl rfl rfl ?_
    intro x h2
    cases x
    · (try simp only [qd, ne_eq] at h2)
      simp only [qz]
      refine rg_assign ?_
      simp only [qz]
      refine rg_nil (ek_next (wk_cond_f rfl (wk_skip (ek_block (ek_next (wk_seq ?_))))))
      refine wk_rt _ Kx (sc _ (sc _ (sc _ (sc _ sn)))) ?_
      refine rt_soft (i := 1) rfl Kx (fun c d v a w h => by cases d <;> exact h) (sc _ (sc _ (sc _ (sc _ sn)))) ?_
      refine rf_field (n := 0) (j := 2) rfl rfl rfl Try.underlying80 rfl Kx rfl ?_
      simp only [qz]
      refine rg_nil ?_
      refine ek_rt (sc _ (sc _ (sc _ (sc _ sn)))) ?_
      refine rt_soft (i := 2) rfl Kx (fun c d v a w h => by cases d <;> exact h) (sc _ (sc _ (sc _ (sc _ sn)))) ?_
      refine rf_load rfl rfl rfl Try.underlying3 rfl (fun w hw => (Kn.hd0 (Kn.tl (Kn.tl (Kn.tl hw)))).at rfl) ?_
      simp only [qz]
      refine rg_nil ?_
      refine ek_rt (sc _ (sc _ (sc _ (sc _ sn)))) ?_
      refine rt_hard2 (i := 0) (j := 7) Kx rfl rfl ?_ ?_
      · apply rg_pure Rx Kx
        case hargs => exact Ax
        case h => exact fun w hw => r3one_any w
        case hz => exact (fun _ h => by cases h; exact (sc _ (sc _ (sc _ (sc _ sn)))))
        simp only [qz]
        refine rg_nil ?_
        refine ek_rt (sc _ (sc _ (sc _ (sc _ sn)))) ?_
        refine rt_hard2 (i := 3) (j := 7) Kx rfl rfl ?_ ?_
        · apply rg_pure Rx Kx
          case hargs => exact Ax
          case h => exact fun w hw => r1Turn_ok Nm.one x.n one_ok Ox Ox w
          case hz => exact (fun _ h => by cases h; exact (sc _ (sc _ (sc _ (sc _ sn)))))
          simp only [qz]
          refine rg_nil ?_
          refine ek_rt (sc _ (sc _ (sc _ (sc _ sn)))) ?_
          refine rt_soft (i := 4) rfl Kx (fun c d v a w h => by cases d <;> exact h) (sc _ (sc _ (sc _ (sc _ sn)))) ?_
          refine rg_move ?_
          simp only [qz]
          refine rg_nil ?_
          refine ek_rt (sc _ (sc _ (sc _ (sc _ sn)))) ?_
          refine rt_soft (i := 5) rfl Kx (fun c d v a w h => by cases d <;> exact h) (sc _ (sc _ (sc _ (sc _ sn)))) ?_
          refine rf_extract rfl rfl rfl rfl ?_
          simp only [qz]
          refine rg_nil ?_
          refine ek_rt (sc _ (sc _ (sc _ (sc _ sn)))) ?_
          refine rt_soft (i := 6) rfl Kx (fun c d v a w h => by cases d <;> exact h) (sc _ (sc _ (sc _ (sc _ sn)))) ?_
          refine rf_extract rfl rfl rfl rfl ?_
          simp only [qz]
          refine rg_nil ?_
          refine ek_rt (sc _ (sc _ (sc _ (sc _ sn)))) ?_
          refine rt_hard1 (i := 7) Kx rfl ?_
          refine rg_new (cs := ?_) (ty := ?_) Rx (fun w => ?_) (fun _ h => by cases h; exact (sc _ (sc _ (sc _ (sc _ sn))))) (fun g5 => ?_); rotate_left 2
          focus (go_simp; rfl)
          simp only [qz]
          refine rg_nil ?_
          refine ek_rt (sk _ (sc _ (sc _ (sc _ (sc _ sn))))) ?_
          refine rt_hard1 (i := 8) Kx rfl ?_
          refine rf_storeR (n := 5) rfl rfl Kx rfl rfl (UpdR.here _ _ _ Nl) (fun _ h => by cases h; exact (sk _ (sc _ (sc _ (sc _ (sc _ sn)))))) ?_
          simp only [qz, Nat.reduceAdd]
          refine rg_nil ?_
          refine ek_rt (sk _ (sc _ (sc _ (sc _ (sc _ sn))))) ?_
          refine rt_soft (i := 9) rfl Kx (fun c d v a w h => by cases d <;> exact h) (sk _ (sc _ (sc _ (sc _ (sc _ sn))))) ?_
          refine rg_assign ?_
          simp only [qz]
          refine rg_nil ?_
          refine ek_rt (sk _ (sc _ (sc _ (sc _ (sc _ sn))))) ?_
          refine rt_nil Kx ?_
          refine ek_next (wk_seq ?_)
          refine wk_region [0, 1, 0, 1] rfl Kx ?_
          simp only [qy]
          refine rf_loadR (n := 5) rfl rfl rfl Try.underlying45 rfl Kx (fun w hw => Kn.hd0 hw) rfl rfl ?_
          simp only [qz]
          refine rg_newS (cs := ?_) (ty := ?_) (n := 1) (c := 1) Rx (fun w => ?_) Nz (fun g6 => ?_); rotate_left 2
          focus (go_simp; rfl)
          simp only [qz]
          refine rf_build (cs := fun a => #[a.eval (.const (.int .i64 1)), a.eval (.tmp 37)]) rfl rfl Kx ?_
          simp only [qz]
          refine rf_storeR (n := 2) rfl rfl Kx rfl rfl (UpdR.there _ (UpdR.there _ (UpdR.there _ (UpdR.there _ (UpdR.here _ _ _ Nl))))) Nz ?_
          simp only [qz, Nat.reduceAdd]
          refine rg_nil (ek_next (wk_ret ?_))
          refine ek_ret (fun w hw => ⟨rfl, _, run_results1 rfl rfl (Kn.hd0 (Kn.tl (Kn.tl (Kn.tl (Kn.tl hw))))) Try.underlying38 rfl Kx, ?_⟩)
          (try simp only [qz])
          have e1 : ownN x = 1 := by (unfold ownN; rw [if_pos Ox])
          have e2 : ownL x = [Nm.turn (x.n % 8).toNat Nm.one] := by (unfold ownL; rw [if_pos Ox])
          rw [show (x.n % 8).toNat = x.n.toNat by congr 1; omega] at e2
          rw [e1, e2]
          exact ⟨_, _, rfl, OwnN.wholeM (g := g6) (l := [Nm.turn x.n.toNat Nm.one]) (by simp), hw.made (sc _ (sk _ (sk _ (sk _ (sk _ (sk _ sn))))))⟩
        refine rg_new (cs := ?_) (ty := ?_) Rx (fun w => ?_) (fun _ h => by cases h; exact (sc _ (sc _ (sc _ (sc _ sn))))) (fun g7 => ?_); rotate_left 2
        focus (go_simp; rfl)
        simp only [qz]
        refine rg_nil ?_
        refine ek_rt (sk _ (sc _ (sc _ (sc _ (sc _ sn))))) ?_
        refine rt_hard1 (i := 3) Kx rfl ?_
        apply rg_pure Rx Kx
        case hargs => exact Ax
        case h => exact fun w hw => r1Turn_ok Nm.one x.n one_ok Ox Ox w
        case hz => exact (fun _ h => by cases h; exact (sk _ (sc _ (sc _ (sc _ (sc _ sn))))))
        simp only [qz]
        refine rg_nil ?_
        refine ek_rt (sk _ (sc _ (sc _ (sc _ (sc _ sn))))) ?_
        refine rt_soft (i := 4) rfl Kx (fun c d v a w h => by cases d <;> exact h) (sk _ (sc _ (sc _ (sc _ (sc _ sn))))) ?_
        refine rg_move ?_
        simp only [qz]
        refine rg_nil ?_
        refine ek_rt (sk _ (sc _ (sc _ (sc _ (sc _ sn))))) ?_
        refine rt_soft (i := 5) rfl Kx (fun c d v a w h => by cases d <;> exact h) (sk _ (sc _ (sc _ (sc _ (sc _ sn))))) ?_
        refine rf_extract rfl rfl rfl rfl ?_
        simp only [qz]
        refine rg_nil ?_
        refine ek_rt (sk _ (sc _ (sc _ (sc _ (sc _ sn))))) ?_
        refine rt_soft (i := 6) rfl Kx (fun c d v a w h => by cases d <;> exact h) (sk _ (sc _ (sc _ (sc _ (sc _ sn))))) ?_
        refine rf_extract rfl rfl rfl rfl ?_
        simp only [qz]
        refine rg_nil ?_
        refine ek_rt (sk _ (sc _ (sc _ (sc _ (sc _ sn))))) ?_
        refine rt_hard1 (i := 8) Kx rfl ?_
        refine rf_storeR (n := 5) rfl rfl Kx rfl rfl (UpdR.here _ _ _ Nl) (fun _ h => by cases h; exact (sk _ (sc _ (sc _ (sc _ (sc _ sn)))))) ?_
        simp only [qz, Nat.reduceAdd]
        refine rg_nil ?_
        refine ek_rt (sk _ (sc _ (sc _ (sc _ (sc _ sn))))) ?_
        refine rt_soft (i := 9) rfl Kx (fun c d v a w h => by cases d <;> exact h) (sk _ (sc _ (sc _ (sc _ (sc _ sn))))) ?_
        refine rg_assign ?_
        simp only [qz]
        refine rg_nil ?_
        refine ek_rt (sk _ (sc _ (sc _ (sc _ (sc _ sn))))) ?_
        refine rt_nil Kx ?_
        refine ek_next (wk_seq ?_)
        refine wk_region [0, 1, 0, 1] rfl Kx ?_
        simp only [qy]
        refine rf_loadR (n := 5) rfl rfl rfl Try.underlying45 rfl Kx (fun w hw => Kn.hd0 hw) rfl rfl ?_
        simp only [qz]
        refine rg_newS (cs := ?_) (ty := ?_) (n := 1) (c := 1) Rx (fun w => ?_) Nz (fun g8 => ?_); rotate_left 2
        focus (go_simp; rfl)
        simp only [qz]
        refine rf_build (cs := fun a => #[a.eval (.const (.int .i64 1)), a.eval (.tmp 37)]) rfl rfl Kx ?_
        simp only [qz]
        refine rf_storeR (n := 2) rfl rfl Kx rfl rfl (UpdR.there _ (UpdR.there _ (UpdR.there _ (UpdR.there _ (UpdR.here _ _ _ Nl))))) Nz ?_
        simp only [qz, Nat.reduceAdd]
        refine rg_nil (ek_next (wk_ret ?_))
        refine ek_ret (fun w hw => ⟨rfl, _, run_results1 rfl rfl (Kn.hd0 (Kn.tl (Kn.tl (Kn.tl (Kn.tl hw))))) Try.underlying38 rfl Kx, ?_⟩)
        (try simp only [qz])
        have e1 : ownN x = 1 := by (unfold ownN; rw [if_pos Ox])
        have e2 : ownL x = [Nm.turn (x.n % 8).toNat Nm.one] := by (unfold ownL; rw [if_pos Ox])
        rw [show (x.n % 8).toNat = x.n.toNat by congr 1; omega] at e2
        rw [e1, e2]
        exact ⟨_, _, rfl, OwnN.wholeM (g := g8) (l := [Nm.turn x.n.toNat Nm.one]) (by simp), hw.made (sc _ (sk _ (sk _ (sk _ (sk _ (sk _ sn))))))⟩
      refine rg_new (cs := ?_) (ty := ?_) Rx (fun w => ?_) (fun _ h => by cases h; exact (sc _ (sc _ (sc _ (sc _ sn))))) (fun g9 => ?_); rotate_left 2
      focus (go_simp; rfl)
      simp only [qz]
      refine rg_nil ?_
      refine ek_rt (sk _ (sc _ (sc _ (sc _ (sc _ sn))))) ?_
      refine rt_hard1 (i := 0) Kx rfl ?_
      apply rg_pure Rx Kx
      case hargs => exact Ax
      case h => exact fun w hw => r3one_any w
      case hz => exact (fun _ h => by cases h; exact (sk _ (sc _ (sc _ (sc _ (sc _ sn))))))
      simp only [qz]
      refine rg_nil ?_
      refine ek_rt (sk _ (sc _ (sc _ (sc _ (sc _ sn))))) ?_
      refine rt_hard1 (i := 3) Kx rfl ?_
      apply rg_pure Rx Kx
      case hargs => exact Ax
      case h => exact fun w hw => r1Turn_ok Nm.one x.n one_ok Ox Ox w
      case hz => exact (fun _ h => by cases h; exact (sk _ (sc _ (sc _ (sc _ (sc _ sn))))))
      simp only [qz]
      refine rg_nil ?_
      refine ek_rt (sk _ (sc _ (sc _ (sc _ (sc _ sn))))) ?_
      refine rt_soft (i := 4) rfl Kx (fun c d v a w h => by cases d <;> exact h) (sk _ (sc _ (sc _ (sc _ (sc _ sn))))) ?_
      refine rg_move ?_
      simp only [qz]
      refine rg_nil ?_
      refine ek_rt (sk _ (sc _ (sc _ (sc _ (sc _ sn))))) ?_
      refine rt_soft (i := 5) rfl Kx (fun c d v a w h => by cases d <;> exact h) (sk _ (sc _ (sc _ (sc _ (sc _ sn))))) ?_
      refine rf_extract rfl rfl rfl rfl ?_
      simp only [qz]
      refine rg_nil ?_
      refine ek_rt (sk _ (sc _ (sc _ (sc _ (sc _ sn))))) ?_
      refine rt_soft (i := 6) rfl Kx (fun c d v a w h => by cases d <;> exact h) (sk _ (sc _ (sc _ (sc _ (sc _ sn))))) ?_
      refine rf_extract rfl rfl rfl rfl ?_
      simp only [qz]
      refine rg_nil ?_
      refine ek_rt (sk _ (sc _ (sc _ (sc _ (sc _ sn))))) ?_
      refine rt_hard1 (i := 8) Kx rfl ?_
      refine rf_storeR (n := 5) rfl rfl Kx rfl rfl (UpdR.here _ _ _ Nl) (fun _ h => by cases h; exact (sk _ (sc _ (sc _ (sc _ (sc _ sn)))))) ?_
      simp only [qz, Nat.reduceAdd]
      refine rg_nil ?_
      refine ek_rt (sk _ (sc _ (sc _ (sc _ (sc _ sn))))) ?_
      refine rt_soft (i := 9) rfl Kx (fun c d v a w h => by cases d <;> exact h) (sk _ (sc _ (sc _ (sc _ (sc _ sn))))) ?_
      refine rg_assign ?_
      simp only [qz]
      refine rg_nil ?_
      refine ek_rt (sk _ (sc _ (sc _ (sc _ (sc _ sn))))) ?_
      refine rt_nil Kx ?_
      refine ek_next (wk_seq ?_)
      refine wk_region [0, 1, 0, 1] rfl Kx ?_
      simp only [qy]
      refine rf_loadR (n := 5) rfl rfl rfl Try.underlying45 rfl Kx (fun w hw => Kn.hd0 hw) rfl rfl ?_
      simp only [qz]
      refine rg_newS (cs := ?_) (ty := ?_) (n := 1) (c := 1) Rx (fun w => ?_) Nz (fun g10 => ?_); rotate_left 2
      focus (go_simp; rfl)
      simp only [qz]
      refine rf_build (cs := fun a => #[a.eval (.const (.int .i64 1)), a.eval (.tmp 37)]) rfl rfl Kx ?_
      simp only [qz]
      refine rf_storeR (n := 2) rfl rfl Kx rfl rfl (UpdR.there _ (UpdR.there _ (UpdR.there _ (UpdR.there _ (UpdR.here _ _ _ Nl))))) Nz ?_
      simp only [qz, Nat.reduceAdd]
      refine rg_nil (ek_next (wk_ret ?_))
      refine ek_ret (fun w hw => ⟨rfl, _, run_results1 rfl rfl (Kn.hd0 (Kn.tl (Kn.tl (Kn.tl (Kn.tl hw))))) Try.underlying38 rfl Kx, ?_⟩)
      (try simp only [qz])
      have e1 : ownN x = 1 := by (unfold ownN; rw [if_pos Ox])
      have e2 : ownL x = [Nm.turn (x.n % 8).toNat Nm.one] := by (unfold ownL; rw [if_pos Ox])
      rw [show (x.n % 8).toNat = x.n.toNat by congr 1; omega] at e2
      rw [e1, e2]
      exact ⟨_, _, rfl, OwnN.wholeM (g := g10) (l := [Nm.turn x.n.toNat Nm.one]) (by simp), hw.made (sc _ (sk _ (sk _ (sk _ (sk _ (sk _ sn))))))⟩
    (try simp only [qd, ne_eq] at h2)
    simp only [qz]
    refine rg_assign ?_
    simp only [qz]
    refine rg_nil (ek_next (wk_cond_t rfl (wk_seq ?_)))
    refine wk_region [1, 1, 1, 1, 1, 0, 1] rfl Kx ?_
    simp only [qy]
    apply rg_pure Rx Kx
    case hargs => exact Ax
    case h => exact fun w hw => r3none_any w
    case hz => exact Nz
    simp only [qz]
    apply rg_pure Rx Kx
    case hargs => exact Ax
    case h => exact fun w hw => r3one_any w
    case hz => exact Nz
    simp only [qz]
    apply rg_pure Rx Kx
    case hargs => exact Ax
    case h => exact fun w hw => r3one_any w
    case hz => exact Nz
    simp only [qz]
    apply rg_pure Rx Kx
    case hargs => exact Ax
    case h => exact fun w hw => r3none_any w
    case hz => exact Nz
    simp only [qz]
    refine rg_newS (cs := ?_) (ty := ?_) (n := 4) (c := 4) Rx (fun w => ?_) Nz (fun g11 => ?_); rotate_left 2
    focus (go_simp; rfl)
    simp only [qz]
    refine rf_build (cs := fun a => #[a.eval (.const (.int .i64 2)), a.eval (.tmp 27)]) rfl rfl Kx ?_
    simp only [qz]
    refine rf_storeR (n := 2) rfl rfl Kx rfl rfl (UpdR.there _ (UpdR.there _ (UpdR.there _ (UpdR.here _ _ _ Nl)))) Nz ?_
    simp only [qz, Nat.reduceAdd]
    refine rg_nil (ek_next (wk_ret (ek_block_ret (ek_then_ret ?_))))
    refine ek_ret (fun w hw => ⟨rfl, _, run_results1 rfl rfl (Kn.hd0 (Kn.tl (Kn.tl (Kn.tl hw)))) Try.underlying38 rfl Kx, ?_⟩)
    (try simp only [qz])
    have e1 : ownN x = 2 := by (unfold ownN; rw [if_neg Ox])
    have e2 : ownL x = [Nm.zero, Nm.one, Nm.one, Nm.zero] := by (unfold ownL; rw [if_neg Ox, if_pos Ox])
    rw [e1, e2]
    exact ⟨_, _, rfl, OwnN.wholeM (g := g11) (l := [Nm.zero, Nm.one, Nm.one, Nm.zero]) (by simp), hw.made (sc _ (sk _ (sk _ (sk _ (sk _ sn)))))⟩
  (try simp only [qd, ne_eq] at h1)
  simp only [qz]
  refine rg_assign ?_
  simp only [qz]
  refine rg_nil (ek_next (wk_cond_t rfl (wk_seq ?_)))
  refine wk_region [0, 0, 0, 0, 1, 0, 1] rfl Kx ?_
  simp only [qy]
  refine rf_loadR (n := 5) rfl rfl rfl Try.underlying45 rfl Kx (fun w hw => Kn.hd0 (Kn.tl hw)) rfl rfl ?_
  simp only [qz]
  refine rf_loadR (n := 5) rfl rfl rfl Try.underlying45 rfl Kx (fun w hw => Kn.hd0 hw) rfl rfl ?_
  simp only [qz]
  refine rf_loadR (n := 5) rfl rfl rfl Try.underlying45 rfl Kx (fun w hw => Kn.hd0 hw) rfl rfl ?_
  simp only [qz]
  refine rf_loadR (n := 5) rfl rfl rfl Try.underlying45 rfl Kx (fun w hw => Kn.hd0 (Kn.tl hw)) rfl rfl ?_
  simp only [qz]
  refine rg_newS (cs := ?_) (ty := ?_) (n := 4) (c := 4) Rx (fun w => ?_) Nz (fun g12 => ?_); rotate_left 2
  focus (go_simp; rfl)
  simp only [qz]
  refine rf_build (cs := fun a => #[a.eval (.const (.int .i64 2)), a.eval (.tmp 19)]) rfl rfl Kx ?_
  simp only [qz]
  refine rf_storeR (n := 2) rfl rfl Kx rfl rfl (UpdR.there _ (UpdR.there _ (UpdR.there _ (UpdR.here _ _ _ Nl)))) Nz ?_
  simp only [qz, Nat.reduceAdd]
  refine rg_nil (ek_next (wk_ret (ek_block_ret (ek_then_ret ?_))))
  refine ek_ret (fun w hw => ⟨rfl, _, run_results1 rfl rfl (Kn.hd0 (Kn.tl (Kn.tl (Kn.tl hw)))) Try.underlying38 rfl Kx, ?_⟩)
  (try simp only [qz])
  have e1 : ownN x = 2 := by (unfold ownN; rw [if_neg Ox])
  have e2 : ownL x = [halfN, sideN, sideN, halfN] := by (unfold ownL; rw [if_neg Ox, if_neg Ox])
  rw [e1, e2]
  exact ⟨_, _, rfl, OwnN.wholeM (g := g12) (l := [halfN, sideN, sideN, halfN]) (by simp), hw.made (sc _ (sk _ (sk _ (sk _ (sk _ sn)))))⟩

set_option maxRecDepth 100000 in
set_option maxHeartbeats 1000000 in
theorem r3asked_any (n : Int) (xs : List It) (a : Option Addr) (c : Nat) (w : World) (hA : AS w a (its xs)) : Calls Try.prog 123 #[.int .i64 n, .slice a xs.length c] w fun e w' => e = .returned (.int .i64 (itemE n xs)) ∧ Below w.heap.size w w' := by
  go_enter Try.func123, Try.ntmps123
  refine wk_start ?_
  refine wk_seq ?_
  refine wk_region [0] rfl Kx ?_
  simp only [qy]
  refine rg_assign ?_
  simp only [qz]
  refine rg_nil (ek_next (wk_seq (wk_seq ?_)))
  refine wk_region [0, 0, 0, 0, 0, 0] rfl Kx ?_
  simp only [qy]
  refine rg_move ?_
  simp only [qz]
  refine rfb_lss rfl rfl rfl rfl ?_
  intro x h1
  cases x
  · (try simp only [qd, ne_eq] at h1)
    simp only [qz]
    refine rg_move ?_
    simp only [qz]
    apply rg_soft_g
    case hg => rfl
    case hy => (intro w hw; go_simp; (try go_bits); exact Yld.mk _ _)
    simp only [qz]
    refine rfb_gtr rfl rfl rfl rfl ?_
    intro x h2
    cases x
    · (try simp only [qd, ne_eq] at h2)
      simp only [qz]
      refine rf_pick rfl rfl rfl ?_
      simp only [qz]
      refine rg_nil (ek_next (wk_cond_f rfl (wk_skip (ek_next (wk_seq (wk_seq ?_))))))
      refine wk_region [0, 0, 1, 0] rfl Kx ?_
      simp only [qy]
      refine rg_move ?_
      simp only [qz]
      refine rg_move ?_
      simp only [qz]
      apply rg_pureb Rx Kx
      case hargs => exact Ax
      case h => exact fun w hw => rvalidItems_any xs a c n w (hA.kn0 hw)
      case hz => exact Nz
      intro x h3
      cases x
      · (try simp only [qd, ne_eq] at h3)
        simp only [qz]
        refine rf_not rfl rfl rfl ?_
        simp only [qz]
        refine rg_nil (ek_next (wk_cond_t rfl (wk_seq ?_)))
        refine wk_region [0] rfl Kx ?_
        simp only [qy]
        refine rg_assign ?_
        simp only [qz]
        refine rg_nil (ek_next (wk_ret (ek_then_ret ?_)))
        refine ek_ret (fun w hw => ⟨rfl, _, res_t _ rfl, ?_⟩)
        (try simp only [qz])
        exact ⟨by unfold itemE; rw [if_pos Ox, if_neg (by rw [h3]; decide)], hw.below⟩
      (try simp only [qd, ne_eq] at h3)
      simp only [qz]
      refine rf_not rfl rfl rfl ?_
      simp only [qz]
      refine rg_nil (ek_next (wk_cond_f rfl (wk_skip (ek_next (wk_seq ?_)))))
      refine wk_region [0] rfl Kx ?_
      simp only [qy]
      refine rg_assign ?_
      simp only [qz]
      refine rg_nil (ek_next (wk_ret ?_))
      refine ek_ret (fun w hw => ⟨rfl, _, res_t _ rfl, ?_⟩)
      (try simp only [qz])
      exact ⟨by unfold itemE; rw [if_pos Ox, if_pos h3], hw.below⟩
    (try simp only [qd, ne_eq] at h2)
    simp only [qz]
    refine rf_pick rfl rfl rfl ?_
    simp only [qz]
    refine rg_nil (ek_next (wk_cond_t rfl (wk_seq ?_)))
    refine wk_region [0] rfl Kx ?_
    simp only [qy]
    refine rg_assign ?_
    simp only [qz]
    refine rg_nil (ek_next (wk_ret (ek_then_ret ?_)))
    refine ek_ret (fun w hw => ⟨rfl, _, res_t _ rfl, ?_⟩)
    (try simp only [qz])
    exact ⟨by unfold itemE; rw [if_neg Ox], hw.below⟩
  (try simp only [qd, ne_eq] at h1)
  simp only [qz]
  refine rg_move ?_
  simp only [qz]
  refine rg_skip Rx ?_
  simp only [qz]
  refine rg_skip Rx ?_
  simp only [qz]
  refine rf_pick rfl rfl rfl ?_
  simp only [qz]
  refine rg_nil (ek_next (wk_cond_t rfl (wk_seq ?_)))
  refine wk_region [0] rfl Kx ?_
  simp only [qy]
  refine rg_assign ?_
  simp only [qz]
  refine rg_nil (ek_next (wk_ret (ek_then_ret ?_)))
  refine ek_ret (fun w hw => ⟨rfl, _, res_t _ rfl, ?_⟩)
  (try simp only [qz])
  exact ⟨by unfold itemE; rw [if_neg Ox], hw.below⟩

theorem rC_err {r : LR} (h : rC r ≠ 0) : ∃ c, r = .error c := by
  cases r with
  | ok l => exact absurd rfl h
  | error c => exact ⟨c, rfl⟩
theorem own_ok (x : It) : allOk (ownL x) = true := by
  unfold ownL
  split
  · exact allOk_true fun k hk => by
      obtain rfl : k = 0 := by simpa using hk
      exact okB_iff.2 (turn_ok one_ok _)
  split <;> rfl
theorem allOk_set {l : List Nm} (h : allOk l = true) (i : Nat) {z : Nm} (hz : z.Ok) : allOk (l.set i z) = true := by
  refine allOk_true fun k hk => ?_
  rw [List.length_set] at hk
  by_cases hi : i < l.length
  · show Nm.okB (El.at NmE _ _) = true
    rw [El.at_set _ _ _ _ hi]
    split
    · exact okB_iff.2 hz
    exact okB_iff.2 (ok_at h hk)
  rw [List.set_eq_of_length_le Ox]
  exact okB_iff.2 (ok_at h hk)
theorem plcS_ok {N p m : Nat} {L l : List Nm} (hL : allOk L = true) (hl : allOk l = true) : ∀ t, t ≤ L.length → allOk (plcS N p m L l t) = true
  | 0, _ => hl
  | t + 1, h => by
    rw [plcS]
    exact allOk_set (plcS_ok hL hl t Ox) _ (ok_at hL Ox)
theorem idM_ok {N : Nat} (h1 : 1 ≤ N) (h6 : N ≤ 6) : allOk (idM N) = true := by
  rw [idS_all h1 h6]
  refine allOk_true fun t ht => okB_iff.2 ?_
  rw [idS_len] at ht
  show (El.at NmE _ _).Ok
  unfold El.at idS
  rw [List.getD_eq_getElem?_getD, List.getElem?_map, List.getElem?_range ht]
  show (if t / N = t % N then Nm.one else Nm.zero : Nm).Ok
  split
  · exact one_ok
  exact zero_ok
theorem itL_ok {N : Nat} {x : It} (h1 : 1 ≤ N) (h6 : N ≤ 6) (hf : fitB N x = true) : allOk (itL N x) = true := by
  unfold itL plcL
  exact plcS_ok (own_ok x) (idM_ok h1 h6) _ (by rw [ownL_len]; exact Nat.le_refl _)
theorem valid_of {N : Nat} {l : List Nm} (h1 : 1 ≤ N) (h6 : N ≤ 6) (hl : l.length = N * N) (ho : allOk l = true) : validB N l = true := by
  have e : ((N * N : Nat) : Int) = (N : Int) * N := Int.natCast_mul N N
  unfold validB
  simp only [Bool.and_eq_true, decide_eq_true_eq]
  exact ⟨by omega, by omega, by rw [hl]; omega, ho⟩
theorem mulM_good {N : Nat} {xs ys : List Nm} (h1 : 1 ≤ N) (h6 : N ≤ 6) (hlx : xs.length = N * N) (hly : ys.length = N * N) (hox : allOk xs = true) (hoy : allOk ys = true) : mulM N N xs ys = madeR N (mulF N xs ys) := by
  unfold mulM
  rw [valid_of h1 h6 hlx hox, valid_of h1 h6 hly hoy, Bool.and_self, if_pos rfl, if_pos rfl, Int.toNat_natCast]
theorem prodsR_okQ {x y : Nat → Nm} : ∀ n {z : Nm}, (∀ k, k < n → (x k).Ok) → (∀ k, k < n → (y k).Ok) → prodsR x y n = .ok z → z.Ok
  | 0, z, _, _, h => by cases h; exact zero_ok
  | n + 1, z, hx, hy, h => by
    simp only [prodsR] at h
    split at h
    · cases h
    · next s hs =>
      split at h
      · cases h
      · next p hp =>
        have hso := prodsR_okQ n (fun k hk => hx k Ox) (fun k hk => hy k Ox) hs
        exact (mk_ok (addR_k hso.k0) h).1
theorem madeR_allOk {N : Nat} {xs ys l : List Nm} (h6 : N ≤ 6) (hlx : xs.length = N * N) (hly : ys.length = N * N) (hox : allOk xs = true) (hoy : allOk ys = true) (h : madeR N (mulF N xs ys) = .ok l) : allOk l = true := by
  have hl := made_len h
  refine allOk_true fun t ht => okB_iff.2 ?_
  rw [hl] at ht
  have hg : mulF N xs ys (t / N) (t % N) = .ok (nm l t) := gather_get h t ht
  have hN : 0 < N := by
    rcases Nat.eq_zero_or_pos N with h0 | h0
    · subst h0; simp at ht
    · exact h0
  exact prodsR_okQ N (fun j hj => elemOk hox hlx (Nat.div_lt_of_lt_mul ht) hj) (fun j hj => elemOk hoy hly hj (Nat.mod_lt _ hN)) hg
theorem matS_good {N : Nat} {xs : List It} (h1 : 1 ≤ N) (h6 : N ≤ 6) (hf : ∀ j, j < xs.length → fitB N (it xs j) = true) : ∀ {j : Nat} {l : List Nm}, matS N xs j = .ok l → j ≤ xs.length → validB N l = true ∧ l.length = N * N ∧ allOk l = true ∧ l.length ≤ 36
  | 0, l, h, _ => by
    cases h
    have hl := idM_len h1 h6
    have ho := idM_ok h1 h6
    exact ⟨valid_of h1 h6 hl ho, hl, ho, by rw [hl]; exact Nat.mul_le_mul h6 h6⟩
  | j + 1, l, h, hj => by
    simp only [matS] at h
    split at h
    · cases h
    · next l0 h0 =>
      obtain ⟨_, hl0, ho0, _⟩ := matS_good h1 h6 hf h0 Ox
      have hil := itL_len h1 h6 (it xs j)
      have hio := itL_ok h1 h6 (hf j Ox)
      rw [mulM_good h1 h6 hil hl0 hio ho0] at h
      have hl := made_len h
      have ho := madeR_allOk h6 hil hl0 hio ho0 h
      exact ⟨valid_of h1 h6 hl ho, hl, ho, by rw [hl]; exact Nat.mul_le_mul h6 h6⟩
set_option maxRecDepth 100000 in
set_option maxHeartbeats 1000000 in
theorem r3matrixOf_any (n : Int) (xs : List It) (a : Option Addr) (c : Nat) (w : World) (hA : AS w a (its xs)) : Calls Try.prog 72 #[.int .i64 n, .slice a xs.length c] w fun e w' => RetM w (rN n.toNat (matO n xs)) (rL (matO n xs)) (rC (matO n xs)) e w' := by
  go_enter Try.func72, Try.ntmps72
  refine wk_start ?_
  refine wk_seq ?_
  refine wk_region [1, 0] rfl Kx ?_
  simp only [qy]
  refine Rgn fun g1 => ?_
  simp only [qz]
  refine rg_assign ?_
  simp only [qz]
  refine rg_nil (ek_next (wk_seq (wk_seq ?_)))
  refine wk_region [0, 0, 1, 0] rfl Kx ?_
  simp only [qy]
  refine rg_move ?_
  simp only [qz]
  refine rg_move ?_
  simp only [qz]
  apply rg_pure Rx Kx
  case hargs => exact Ax
  case h => exact fun w hw => r3asked_any n xs a c w (hA.kn0 hw)
  case hz => exact Nz
  simp only [qz]
  refine rg_assign ?_
  simp only [qz]
  refine rg_nil (ek_next (wk_seq ?_))
  refine wk_region [0, 0] rfl Kx ?_
  simp only [qy]
  refine rg_move ?_
  simp only [qz]
  refine rfb_neq rfl rfl rfl rfl ?_
  intro x h1
  cases x
  · (try simp only [qd, ne_eq] at h1)
    simp only [qz]
    have hie : itemE n xs = 0 := by simpa using h1
    refine rg_nil (ek_next (wk_cond_f rfl (wk_skip (ek_next (wk_seq ?_)))))
    refine wk_region [0, 1, 1, 1] rfl Kx ?_
    simp only [qy]
    refine rg_move ?_
    simp only [qz]
    obtain ⟨hn1, hn6, hl5, hfit⟩ := validB_all (n := n) (xs := xs) (itemE_zero hie)
    obtain ⟨N, rfl⟩ : ∃ N : Nat, n = N := ⟨n.toNat, by omega⟩
    have hmo : matO (N : Int) xs = matS N xs xs.length := by (unfold matO; rw [if_pos hie, Int.toNat_natCast])
    replace hmo := Lib.hid hmo
    replace hie := Lib.hid hie
    have hN1 : 1 ≤ N := by omega
    have hN6 : N ≤ 6 := by omega
    apply (rg_retM1 (n := (N : Int)) (zs := idM N)) Rx Kx
    case hargs => exact Ax
    case h => exact fun w hw => r3ident_any N hN1 hN6 w
    case hz => exact Nz
    intro va2 vc2 u2 hO2
    simp only [qz]
    refine Rgn fun g3 => ?_
    simp only [qz]
    refine rf_storeR (n := 2) rfl rfl Kx rfl rfl (UpdR.here _ _ _ Nl) Nz ?_
    simp only [qz, Nat.reduceAdd]
    refine rg_nil (ek_next (wk_seq (wk_seq ?_)))
    refine wk_region [0, 0, 0] rfl Kx ?_
    simp only [qy]
    refine rg_move ?_
    simp only [qz]
    refine rf_len rfl rfl rfl Try.underlying32 ?_
    simp only [qz]
    refine rg_move ?_
    simp only [qz]
    refine rg_nil (ek_next (wk_block ?_))
    refine wk_loopF [5, 9, 10, 11, 23, 24, 25, 26, 27, 28, 29, 30, 31, 32, 33, 34, 35, 36, 37, 38, 39, 40, 41, 42, 43] (fun mz f s => ∃ (i : Nat) (l : List Nm) (va : Option Addr) (vc : Nat) (u : List Blk), f 23 = .int .i64 i ∧ s = ((g3, .cells #[.int .i64 N, .slice va l.length vc] 38) :: (u ++ ((g1, .cells #[.int .i64 0, .slice none 0 0] 38) :: []))) ∧ mz = xs.length - i ∧ i ≤ xs.length ∧ Hid (matS N xs i = .ok l) ∧ OwnN u (.slice va l.length vc) l) ((fun (i : Nat) (l : List Nm) (va : Option Addr) (vc : Nat) (u : List Blk) => xs.length - i) (0) (idM N) (va2) (vc2) (u2)) ?_ Kx ?_
    · exact ⟨0, idM N, va2, vc2, u2, rfl, rfl, rfl, by omega, Lib.hid rfl, hO2⟩
    rintro mz f1 s ⟨i, l, va, vc, u, hs1_23, rfl, hn, hd1, hd2, hd3⟩
    simp only [Act.putF, List.foldl_cons, List.foldl_nil, hs1_23, Act.put, Act.eval, q1, q2, q3, q4, q5, q6, q7, q8, q9, q10, q11, q12, q13, q14, q15, q16, q17, q18, Nat.reduceAdd, Bool.not_true, Bool.not_false]
    clear hs1_23
    refine wk_seq ?_
    refine wk_region [0] rfl Kx ?_
    simp only [qy]
    refine rfb_lss rfl rfl rfl rfl ?_
    intro x h2
    cases x
    · (try simp only [qd, ne_eq] at h2)
      simp only [qz]
      refine rg_nil (ek_next (wk_seq (wk_cond_f rfl (wk_exit (ek_then_exit (ek_then_exit (ek_block_exit (ek_next (wk_seq ?_)))))))))
      refine wk_region [0, 1, 0] rfl Kx ?_
      simp only [qy]
      refine rf_loadR (n := 2) rfl rfl rfl Try.underlying38 rfl Kx (fun w hw => Kn.hd0 hw) rfl rfl ?_
      simp only [qz]
      refine rf_storeR (n := 2) rfl rfl Kx rfl rfl (UpdR.there _ (UpdR.app _ (UpdR.here _ _ _ Nl))) Nz ?_
      simp only [qz, Nat.reduceAdd]
      refine rg_assign ?_
      simp only [qz]
      refine rg_nil (ek_next (wk_ret ?_))
      refine ek_ret (fun w hw => ⟨rfl, _, run_results2 rfl rfl (Kn.hd0 (Kn.tlU (Kn.tl hw))) Try.underlying38 rfl Kx, ?_⟩)
      (try simp only [qz])
      obtain rfl : i = xs.length := by omega
      rw [hmo.out, hd2.out, Int.toNat_natCast]
      exact ⟨_, u, rfl, hd3, hw.made (List.Sublist.cons _ (List.sublist_append_left _ _))⟩
    (try simp only [qd, ne_eq] at h2)
    simp only [qz]
    refine rg_nil (ek_next (wk_seq (wk_cond_t rfl (wk_skip (ek_next (wk_seq (wk_block (wk_seq ?_))))))))
    obtain ⟨b, off, rfl, hlt, hcell⟩ := AS.openT hA Ox
    obtain ⟨x, hx⟩ : ∃ x, it xs i = x := ⟨_, rfl⟩
    have hit := hcell i Ox
    have hfx := hfit i Ox
    rw [hx] at hit hfx
    have hfo := fit_own hfx
    have hfk := fit_kind hfx
    replace hx := Lib.hid hx
    obtain ⟨hvl, hll, hoi, hlb⟩ := matS_good hN1 hN6 hfit hd2.out Ox
    have hil := itL_len hN1 hN6 x
    have hoi2 := itL_ok hN1 hN6 hfx
    refine wk_region [0, 0, 1, 1] rfl Kx ?_
    simp only [qy]
    refine rf_indexS (n := i) (sz := 4) (j := off + i * 4) rfl rfl rfl rfl Try.underlying32 Kx Ox Ox rfl ?_
    simp only [qz]
    refine rf_loadC (n := 4) (vs := itC x) rfl rfl rfl Try.underlying80 rfl Kx rfl (fun w hw => itAt_range (hit.kn hw hlt (by simp))) ?_
    simp only [qz]
    refine Rgn fun g4 => ?_
    simp only [qz]
    refine rf_storeR (n := 4) rfl rfl Kx rfl rfl (UpdR.here _ _ _ Nl) Nz ?_
    simp only [qz, Nat.reduceAdd]
    refine rg_nil (ek_next (wk_seq ?_))
    refine wk_rt _ Kx (sc _ (sc _ (List.Sublist.append_left (sc _ sn) _))) ?_
    refine rt_soft (i := 0) rfl Kx (fun c d v a w h => by cases d <;> exact h) (sc _ (sc _ (List.Sublist.append_left (sc _ sn) _))) ?_
    refine rg_move ?_
    simp only [qz]
    refine rg_nil ?_
    refine ek_rt (sc _ (sc _ (List.Sublist.append_left (sc _ sn) _))) ?_
    refine rt_soft (i := 1) rfl Kx (fun c d v a w h => by cases d <;> exact h) (sc _ (sc _ (List.Sublist.append_left (sc _ sn) _))) ?_
    refine rf_field (n := 0) (j := 1) rfl rfl rfl Try.underlying80 rfl Kx rfl ?_
    simp only [qz]
    refine rg_nil ?_
    refine ek_rt (sc _ (sc _ (List.Sublist.append_left (sc _ sn) _))) ?_
    refine rt_soft (i := 2) rfl Kx (fun c d v a w h => by cases d <;> exact h) (sc _ (sc _ (List.Sublist.append_left (sc _ sn) _))) ?_
    refine rf_load rfl rfl rfl Try.underlying3 rfl (fun w hw => (Kn.hd0 hw).at rfl) ?_
    simp only [qz]
    refine rg_nil ?_
    refine ek_rt (sc _ (sc _ (List.Sublist.append_left (sc _ sn) _))) ?_
    refine rt_soft (i := 3) rfl Kx (fun c d v a w h => by cases d <;> exact h) (sc _ (sc _ (List.Sublist.append_left (sc _ sn) _))) ?_
    refine rf_loadR (n := 4) rfl rfl rfl Try.underlying80 rfl Kx (fun w hw => Kn.hd0 hw) rfl rfl ?_
    simp only [qz]
    refine rg_nil ?_
    refine ek_rt (sc _ (sc _ (List.Sublist.append_left (sc _ sn) _))) ?_
    refine rt_soft (i := 6) rfl Kx (fun c d v a w h => by cases d <;> exact h) (sc _ (sc _ (List.Sublist.append_left (sc _ sn) _))) ?_
    refine rf_loadR (n := 2) rfl rfl rfl Try.underlying38 rfl Kx (fun w hw => Kn.hd0 (Kn.tl hw)) rfl rfl ?_
    simp only [qz]
    refine rg_nil ?_
    refine ek_rt (sc _ (sc _ (List.Sublist.append_left (sc _ sn) _))) ?_
    refine rt_hard2 (i := 4) (j := 11) Kx rfl rfl ?_ ?_
    · apply rg_retM1 Rx Kx
      case hargs => exact Ax
      case h => exact fun w hw => r3of_any x hfk w
      case hz => exact (fun _ h => by cases h; exact (sc _ (sc _ (List.Sublist.append_left (sc _ sn) _))))
      intro va5 vc5 u5 hO5
      simp only [qz]
      refine rg_nil ?_
      refine ek_rt ((sc _ (sc _ (List.Sublist.append_left (sc _ sn) _))).trans (List.sublist_append_right _ _)) ?_
      refine rt_hard2 (i := 5) (j := 11) Kx rfl rfl ?_ ?_
      · apply (rg_retM1 (n := (N : Int)) (zs := itL N x)) Rx Kx
        case hargs => exact Ax
        case h => exact fun w hw => r3placed_int N (x.at_ - 1).toNat (ownN x) x.at_ (ownL x) va5 vc5 hfo.2.2.2.2 hN1 hN6 hfo.2.2.1 hfo.2.1 (Lib.hid (ownL_len x)) w (hO5.asM (hw.perm (List.Perm.refl _)))
        case hz => exact (fun _ h => by cases h; exact ((sc _ (sc _ (List.Sublist.append_left (sc _ sn) _))).trans (List.sublist_append_right _ _)))
        intro va6 vc6 u6 hO6
        simp only [qz]
        refine rg_nil ?_
        refine ek_rt (((sc _ (sc _ (List.Sublist.append_left (sc _ sn) _))).trans (List.sublist_append_right _ _)).trans (List.sublist_append_right _ _)) ?_
        refine rt_hard2 (i := 7) (j := 11) Kx rfl rfl ?_ ?_
        · apply (rg_retM (n := rN N (madeR N (mulF N (itL N x) l))) (zs := rL (madeR N (mulF N (itL N x) l))) (c := rC (madeR N (mulF N (itL N x) l)))) Rx Kx
          case hargs => exact Ax
          case h => exact fun w hw => r3times_any N (itL N x) l va6 va vc6 vc hN1 hN6 hil hll hoi2 hoi w (hO6.asM (hw.perm (List.Perm.refl _))) (hd3.asM (hw.perm ((((((((((List.Perm.refl _).cons _).trans (List.perm_middle (l₁ := u)).symm).cons _).trans (List.perm_middle (l₁ := u)).symm).append_left _).trans (List.perm_append_comm_assoc u5 u _)).append_left _).trans (List.perm_append_comm_assoc u6 u _)).trans ((List.Perm.refl _).append_left _))))
          case hz => exact (fun _ h => by cases h; exact (((sc _ (sc _ (List.Sublist.append_left (sc _ sn) _))).trans (List.sublist_append_right _ _)).trans (List.sublist_append_right _ _)))
          intro va7 vc7 u7 hO7
          simp only [qz]
          refine rg_nil ?_
          refine ek_rt ((((sc _ (sc _ (List.Sublist.append_left (sc _ sn) _))).trans (List.sublist_append_right _ _)).trans (List.sublist_append_right _ _)).trans (List.sublist_append_right _ _)) ?_
          refine rt_soft (i := 8) rfl Kx (fun c d v a w h => by cases d <;> exact h) ((((sc _ (sc _ (List.Sublist.append_left (sc _ sn) _))).trans (List.sublist_append_right _ _)).trans (List.sublist_append_right _ _)).trans (List.sublist_append_right _ _)) ?_
          refine rg_move ?_
          simp only [qz]
          refine rg_nil ?_
          refine ek_rt ((((sc _ (sc _ (List.Sublist.append_left (sc _ sn) _))).trans (List.sublist_append_right _ _)).trans (List.sublist_append_right _ _)).trans (List.sublist_append_right _ _)) ?_
          refine rt_soft (i := 9) rfl Kx (fun c d v a w h => by cases d <;> exact h) ((((sc _ (sc _ (List.Sublist.append_left (sc _ sn) _))).trans (List.sublist_append_right _ _)).trans (List.sublist_append_right _ _)).trans (List.sublist_append_right _ _)) ?_
          refine rf_extract rfl rfl rfl rfl ?_
          simp only [qz]
          refine rg_nil ?_
          refine ek_rt ((((sc _ (sc _ (List.Sublist.append_left (sc _ sn) _))).trans (List.sublist_append_right _ _)).trans (List.sublist_append_right _ _)).trans (List.sublist_append_right _ _)) ?_
          refine rt_soft (i := 10) rfl Kx (fun c d v a w h => by cases d <;> exact h) ((((sc _ (sc _ (List.Sublist.append_left (sc _ sn) _))).trans (List.sublist_append_right _ _)).trans (List.sublist_append_right _ _)).trans (List.sublist_append_right _ _)) ?_
          refine rf_extract rfl rfl rfl rfl ?_
          simp only [qz]
          refine rg_nil ?_
          refine ek_rt ((((sc _ (sc _ (List.Sublist.append_left (sc _ sn) _))).trans (List.sublist_append_right _ _)).trans (List.sublist_append_right _ _)).trans (List.sublist_append_right _ _)) ?_
          refine rt_hard1 (i := 11) Kx rfl ?_
          refine rg_new (cs := ?_) (ty := ?_) Rx (fun w => ?_) (fun _ h => by cases h; exact ((((sc _ (sc _ (List.Sublist.append_left (sc _ sn) _))).trans (List.sublist_append_right _ _)).trans (List.sublist_append_right _ _)).trans (List.sublist_append_right _ _))) (fun g8 => ?_); rotate_left 2
          focus (go_simp; rfl)
          simp only [qz]
          refine rg_nil ?_
          refine ek_rt (sk _ ((((sc _ (sc _ (List.Sublist.append_left (sc _ sn) _))).trans (List.sublist_append_right _ _)).trans (List.sublist_append_right _ _)).trans (List.sublist_append_right _ _))) ?_
          refine rt_hard1 (i := 12) Kx rfl ?_
          refine rf_storeR (n := 2) rfl rfl Kx rfl rfl (UpdR.here _ _ _ Nl) (fun _ h => by cases h; exact (sk _ ((((sc _ (sc _ (List.Sublist.append_left (sc _ sn) _))).trans (List.sublist_append_right _ _)).trans (List.sublist_append_right _ _)).trans (List.sublist_append_right _ _)))) ?_
          simp only [qz, Nat.reduceAdd]
          refine rg_nil ?_
          refine ek_rt (sk _ ((((sc _ (sc _ (List.Sublist.append_left (sc _ sn) _))).trans (List.sublist_append_right _ _)).trans (List.sublist_append_right _ _)).trans (List.sublist_append_right _ _))) ?_
          refine rt_soft (i := 13) rfl Kx (fun c d v a w h => by cases d <;> exact h) (sk _ ((((sc _ (sc _ (List.Sublist.append_left (sc _ sn) _))).trans (List.sublist_append_right _ _)).trans (List.sublist_append_right _ _)).trans (List.sublist_append_right _ _))) ?_
          refine rg_assign ?_
          simp only [qz]
          refine rg_nil ?_
          refine ek_rt (sk _ ((((sc _ (sc _ (List.Sublist.append_left (sc _ sn) _))).trans (List.sublist_append_right _ _)).trans (List.sublist_append_right _ _)).trans (List.sublist_append_right _ _))) ?_
          refine rt_nil Kx ?_
          refine ek_next (wk_seq (wk_seq ?_))
          refine wk_region [0, 0] rfl Kx ?_
          simp only [qy]
          refine rg_move ?_
          simp only [qz]
          refine rfb_neq rfl rfl rfl rfl ?_
          intro x h3
          cases x
          · (try simp only [qd, ne_eq] at h3)
            simp only [qz]
            obtain ⟨l2, hm2⟩ := rC_ok (fun c h => mulM_code ((mulM_good hN1 hN6 hil hll hoi2 hoi).trans h)) (by simpa using h3)
            have hr2 : mulM N N (itL N x) l = .ok l2 := (mulM_good hN1 hN6 hil hll hoi2 hoi).trans hm2
            rw [hm2] at hO7
            clear h3
            rw [hm2]
            simp only [rN, rL, rC] at hO7 ⊢
            refine rg_nil (ek_next (wk_cond_f rfl (wk_skip (ek_next ?_))))
            refine wk_region [0, 1] rfl Kx ?_
            simp only [qy]
            refine rf_loadR (n := 2) rfl rfl rfl Try.underlying38 rfl Kx (fun w hw => Kn.hd0 hw) rfl rfl ?_
            simp only [qz]
            refine rf_storeR (n := 2) rfl rfl Kx rfl rfl (UpdR.there _ (UpdR.app _ (UpdR.app _ (UpdR.app _ (UpdR.there _ (UpdR.here _ _ _ Nl)))))) Nz ?_
            simp only [qz, Nat.reduceAdd]
            refine rg_nil (ek_block (ek_next ?_))
            refine wk_region [0, 0] rfl Kx ?_
            simp only [qy]
            refine rf_add rfl rfl rfl rfl (wrap_ok Ox Ox) ?_
            simp only [qz]
            refine rg_move ?_
            simp only [qz]
            refine rg_nil ?_
            refine ek_sub (sk _ (List.Sublist.append_left (((sk _ (sc _ ((sc _ sn).trans (List.sublist_append_right _ _)))).trans (List.sublist_append_right _ _)).trans (List.sublist_append_right _ _)) _)) ?_
            refine ek_perm ((((List.Perm.refl _).append_left _).trans (List.perm_middle (l₁ := u7))).trans ((List.Perm.refl _).cons _)) ?_
            refine ek_roundF (xs.length - (i + 1)) Ox Kx ?_
            exact ⟨i + 1, l2, va7, vc7, u7, rfl, by rfl, by rfl, Ox, (Lib.hid (by rw [matS, hd2.out, hx.out]; exact hr2)), hO7⟩
          (try simp only [qd, ne_eq] at h3)
          simp only [qz]
          obtain ⟨cc, hm2⟩ := rC_err (by simpa using h3)
          have hr2 : mulM N N (itL N x) l = .error cc := (mulM_good hN1 hN6 hil hll hoi2 hoi).trans hm2
          refine rg_nil (ek_next (wk_cond_t rfl (wk_seq ?_)))
          refine wk_region [0, 0, 1, 0] rfl Kx ?_
          simp only [qy]
          refine rf_build (cs := fun a => #[.int .i64 0, .slice none 0 0]) rfl rfl Kx ?_
          simp only [qz]
          refine rg_move ?_
          simp only [qz]
          refine rf_storeR (n := 2) rfl rfl Kx rfl rfl (UpdR.there _ (UpdR.app _ (UpdR.app _ (UpdR.app _ (UpdR.there _ (UpdR.there _ (UpdR.app _ (UpdR.here _ _ _ Nl)))))))) Nz ?_
          simp only [qz, Nat.reduceAdd]
          refine rg_assign ?_
          simp only [qz]
          refine rg_nil (ek_next (wk_ret (ek_then_ret (ek_block_ret (ek_then_ret (ek_then_ret (ek_block_ret (ek_then_ret ?_))))))))
          refine ek_ret (fun w hw => ⟨rfl, _, run_results2 rfl rfl (Kn.hd0 (Kn.tlU (Kn.tl (Kn.tl (Kn.tlU (Kn.tlU (Kn.tlU (Kn.tl hw)))))))) Try.underlying38 rfl Kx, ?_⟩)
          (try simp only [qz])
          have hE : matS N xs (i + 1) = .error cc := by rw [matS, hd2.out, hx.out]; exact hr2
          rw [hmo.out, matS_err hE xs.length Ox, hm2]
          exact ⟨.slice none 0 0, [], rfl, OwnG.nil, .nil hw.below⟩
        refine rg_new (cs := ?_) (ty := ?_) Rx (fun w => ?_) (fun _ h => by cases h; exact (((sc _ (sc _ (List.Sublist.append_left (sc _ sn) _))).trans (List.sublist_append_right _ _)).trans (List.sublist_append_right _ _))) (fun g9 => ?_); rotate_left 2
        focus (go_simp; rfl)
        simp only [qz]
        refine rg_nil ?_
        refine ek_rt (sk _ (((sc _ (sc _ (List.Sublist.append_left (sc _ sn) _))).trans (List.sublist_append_right _ _)).trans (List.sublist_append_right _ _))) ?_
        refine rt_hard1 (i := 7) Kx rfl ?_
        apply (rg_retM (n := rN N (madeR N (mulF N (itL N x) l))) (zs := rL (madeR N (mulF N (itL N x) l))) (c := rC (madeR N (mulF N (itL N x) l)))) Rx Kx
        case hargs => exact Ax
        case h => exact fun w hw => r3times_any N (itL N x) l va6 va vc6 vc hN1 hN6 hil hll hoi2 hoi w (hO6.asM (hw.perm (perm_atU (l := [_]) (u := u6) (List.Perm.refl _)))) (hd3.asM (hw.perm ((((((((((((List.Perm.refl _).cons _).trans (List.perm_middle (l₁ := u)).symm).cons _).trans (List.perm_middle (l₁ := u)).symm).append_left _).trans (List.perm_append_comm_assoc u5 u _)).append_left _).trans (List.perm_append_comm_assoc u6 u _)).cons _).trans (List.perm_middle (l₁ := u)).symm).trans ((List.Perm.refl _).append_left _))))
        case hz => exact (fun _ h => by cases h; exact (sk _ (((sc _ (sc _ (List.Sublist.append_left (sc _ sn) _))).trans (List.sublist_append_right _ _)).trans (List.sublist_append_right _ _))))
        intro va10 vc10 u10 hO10
        simp only [qz]
        refine rg_nil ?_
        refine ek_rt ((sk _ (((sc _ (sc _ (List.Sublist.append_left (sc _ sn) _))).trans (List.sublist_append_right _ _)).trans (List.sublist_append_right _ _))).trans (List.sublist_append_right _ _)) ?_
        refine rt_soft (i := 8) rfl Kx (fun c d v a w h => by cases d <;> exact h) ((sk _ (((sc _ (sc _ (List.Sublist.append_left (sc _ sn) _))).trans (List.sublist_append_right _ _)).trans (List.sublist_append_right _ _))).trans (List.sublist_append_right _ _)) ?_
        refine rg_move ?_
        simp only [qz]
        refine rg_nil ?_
        refine ek_rt ((sk _ (((sc _ (sc _ (List.Sublist.append_left (sc _ sn) _))).trans (List.sublist_append_right _ _)).trans (List.sublist_append_right _ _))).trans (List.sublist_append_right _ _)) ?_
        refine rt_soft (i := 9) rfl Kx (fun c d v a w h => by cases d <;> exact h) ((sk _ (((sc _ (sc _ (List.Sublist.append_left (sc _ sn) _))).trans (List.sublist_append_right _ _)).trans (List.sublist_append_right _ _))).trans (List.sublist_append_right _ _)) ?_
        refine rf_extract rfl rfl rfl rfl ?_
        simp only [qz]
        refine rg_nil ?_
        refine ek_rt ((sk _ (((sc _ (sc _ (List.Sublist.append_left (sc _ sn) _))).trans (List.sublist_append_right _ _)).trans (List.sublist_append_right _ _))).trans (List.sublist_append_right _ _)) ?_
        refine rt_soft (i := 10) rfl Kx (fun c d v a w h => by cases d <;> exact h) ((sk _ (((sc _ (sc _ (List.Sublist.append_left (sc _ sn) _))).trans (List.sublist_append_right _ _)).trans (List.sublist_append_right _ _))).trans (List.sublist_append_right _ _)) ?_
        refine rf_extract rfl rfl rfl rfl ?_
        simp only [qz]
        refine rg_nil ?_
        refine ek_rt ((sk _ (((sc _ (sc _ (List.Sublist.append_left (sc _ sn) _))).trans (List.sublist_append_right _ _)).trans (List.sublist_append_right _ _))).trans (List.sublist_append_right _ _)) ?_
        refine rt_hard1 (i := 12) Kx rfl ?_
        refine rf_storeR (n := 2) rfl rfl Kx rfl rfl (UpdR.app _ (UpdR.here _ _ _ Nl)) (fun _ h => by cases h; exact ((sk _ (((sc _ (sc _ (List.Sublist.append_left (sc _ sn) _))).trans (List.sublist_append_right _ _)).trans (List.sublist_append_right _ _))).trans (List.sublist_append_right _ _))) ?_
        simp only [qz, Nat.reduceAdd]
        refine rg_nil ?_
        refine ek_rt ((sk _ (((sc _ (sc _ (List.Sublist.append_left (sc _ sn) _))).trans (List.sublist_append_right _ _)).trans (List.sublist_append_right _ _))).trans (List.sublist_append_right _ _)) ?_
        refine rt_soft (i := 13) rfl Kx (fun c d v a w h => by cases d <;> exact h) ((sk _ (((sc _ (sc _ (List.Sublist.append_left (sc _ sn) _))).trans (List.sublist_append_right _ _)).trans (List.sublist_append_right _ _))).trans (List.sublist_append_right _ _)) ?_
        refine rg_assign ?_
        simp only [qz]
        refine rg_nil ?_
        refine ek_rt ((sk _ (((sc _ (sc _ (List.Sublist.append_left (sc _ sn) _))).trans (List.sublist_append_right _ _)).trans (List.sublist_append_right _ _))).trans (List.sublist_append_right _ _)) ?_
        refine rt_nil Kx ?_
        refine ek_next (wk_seq (wk_seq ?_))
        refine wk_region [0, 0] rfl Kx ?_
        simp only [qy]
        refine rg_move ?_
        simp only [qz]
        refine rfb_neq rfl rfl rfl rfl ?_
        intro x h4
        cases x
        · (try simp only [qd, ne_eq] at h4)
          simp only [qz]
          obtain ⟨l2, hm2⟩ := rC_ok (fun c h => mulM_code ((mulM_good hN1 hN6 hil hll hoi2 hoi).trans h)) (by simpa using h4)
          have hr2 : mulM N N (itL N x) l = .ok l2 := (mulM_good hN1 hN6 hil hll hoi2 hoi).trans hm2
          rw [hm2] at hO10
          clear h4
          rw [hm2]
          simp only [rN, rL, rC] at hO10 ⊢
          refine rg_nil (ek_next (wk_cond_f rfl (wk_skip (ek_next ?_))))
          refine wk_region [0, 1] rfl Kx ?_
          simp only [qy]
          refine rf_loadR (n := 2) rfl rfl rfl Try.underlying38 rfl Kx (fun w hw => Kn.hd0 (Kn.tlU hw)) rfl rfl ?_
          simp only [qz]
          refine rf_storeR (n := 2) rfl rfl Kx rfl rfl (UpdR.app _ (UpdR.there _ (UpdR.app _ (UpdR.app _ (UpdR.there _ (UpdR.here _ _ _ Nl)))))) Nz ?_
          simp only [qz, Nat.reduceAdd]
          refine rg_nil (ek_block (ek_next ?_))
          refine wk_region [0, 0] rfl Kx ?_
          simp only [qy]
          refine rf_add rfl rfl rfl rfl (wrap_ok Ox Ox) ?_
          simp only [qz]
          refine rg_move ?_
          simp only [qz]
          refine rg_nil ?_
          refine ek_sub (List.Sublist.append_left (sk _ (((sk _ (sc _ ((sc _ sn).trans (List.sublist_append_right _ _)))).trans (List.sublist_append_right _ _)).trans (List.sublist_append_right _ _))) _) ?_
          refine ek_perm ((((List.Perm.refl _).append_left _).trans (List.perm_middle (l₁ := u10))).trans ((List.Perm.refl _).cons _)) ?_
          refine ek_roundF (xs.length - (i + 1)) Ox Kx ?_
          exact ⟨i + 1, l2, va10, vc10, u10, rfl, by rfl, by rfl, Ox, (Lib.hid (by rw [matS, hd2.out, hx.out]; exact hr2)), hO10⟩
        (try simp only [qd, ne_eq] at h4)
        simp only [qz]
        obtain ⟨cc, hm2⟩ := rC_err (by simpa using h4)
        have hr2 : mulM N N (itL N x) l = .error cc := (mulM_good hN1 hN6 hil hll hoi2 hoi).trans hm2
        refine rg_nil (ek_next (wk_cond_t rfl (wk_seq ?_)))
        refine wk_region [0, 0, 1, 0] rfl Kx ?_
        simp only [qy]
        refine rf_build (cs := fun a => #[.int .i64 0, .slice none 0 0]) rfl rfl Kx ?_
        simp only [qz]
        refine rg_move ?_
        simp only [qz]
        refine rf_storeR (n := 2) rfl rfl Kx rfl rfl (UpdR.app _ (UpdR.there _ (UpdR.app _ (UpdR.app _ (UpdR.there _ (UpdR.there _ (UpdR.app _ (UpdR.here _ _ _ Nl)))))))) Nz ?_
        simp only [qz, Nat.reduceAdd]
        refine rg_assign ?_
        simp only [qz]
        refine rg_nil (ek_next (wk_ret (ek_then_ret (ek_block_ret (ek_then_ret (ek_then_ret (ek_block_ret (ek_then_ret ?_))))))))
        refine ek_ret (fun w hw => ⟨rfl, _, run_results2 rfl rfl (Kn.hd0 (Kn.tlU (Kn.tl (Kn.tl (Kn.tlU (Kn.tlU (Kn.tl (Kn.tlU hw)))))))) Try.underlying38 rfl Kx, ?_⟩)
        (try simp only [qz])
        have hE : matS N xs (i + 1) = .error cc := by rw [matS, hd2.out, hx.out]; exact hr2
        rw [hmo.out, matS_err hE xs.length Ox, hm2]
        exact ⟨.slice none 0 0, [], rfl, OwnG.nil, .nil hw.below⟩
      refine rg_new (cs := ?_) (ty := ?_) Rx (fun w => ?_) (fun _ h => by cases h; exact ((sc _ (sc _ (List.Sublist.append_left (sc _ sn) _))).trans (List.sublist_append_right _ _))) (fun g11 => ?_); rotate_left 2
      focus (go_simp; rfl)
      simp only [qz]
      refine rg_nil ?_
      refine ek_rt (sk _ ((sc _ (sc _ (List.Sublist.append_left (sc _ sn) _))).trans (List.sublist_append_right _ _))) ?_
      refine rt_hard1 (i := 5) Kx rfl ?_
      apply (rg_retM1 (n := (N : Int)) (zs := itL N x)) Rx Kx
      case hargs => exact Ax
      case h => exact fun w hw => r3placed_int N (x.at_ - 1).toNat (ownN x) x.at_ (ownL x) va5 vc5 hfo.2.2.2.2 hN1 hN6 hfo.2.2.1 hfo.2.1 (Lib.hid (ownL_len x)) w (hO5.asM (hw.perm (perm_atU (l := [_]) (u := u5) (List.Perm.refl _))))
      case hz => exact (fun _ h => by cases h; exact (sk _ ((sc _ (sc _ (List.Sublist.append_left (sc _ sn) _))).trans (List.sublist_append_right _ _))))
      intro va12 vc12 u12 hO12
      simp only [qz]
      refine rg_nil ?_
      refine ek_rt ((sk _ ((sc _ (sc _ (List.Sublist.append_left (sc _ sn) _))).trans (List.sublist_append_right _ _))).trans (List.sublist_append_right _ _)) ?_
      refine rt_hard1 (i := 7) Kx rfl ?_
      apply (rg_retM (n := rN N (madeR N (mulF N (itL N x) l))) (zs := rL (madeR N (mulF N (itL N x) l))) (c := rC (madeR N (mulF N (itL N x) l)))) Rx Kx
      case hargs => exact Ax
      case h => exact fun w hw => r3times_any N (itL N x) l va12 va vc12 vc hN1 hN6 hil hll hoi2 hoi w (hO12.asM (hw.perm (List.Perm.refl _))) (hd3.asM (hw.perm ((((((((((((List.Perm.refl _).cons _).trans (List.perm_middle (l₁ := u)).symm).cons _).trans (List.perm_middle (l₁ := u)).symm).append_left _).trans (List.perm_append_comm_assoc u5 u _)).cons _).trans (List.perm_middle (l₁ := u)).symm).append_left _).trans (List.perm_append_comm_assoc u12 u _)).trans ((List.Perm.refl _).append_left _))))
      case hz => exact (fun _ h => by cases h; exact ((sk _ ((sc _ (sc _ (List.Sublist.append_left (sc _ sn) _))).trans (List.sublist_append_right _ _))).trans (List.sublist_append_right _ _)))
      intro va13 vc13 u13 hO13
      simp only [qz]
      refine rg_nil ?_
      refine ek_rt (((sk _ ((sc _ (sc _ (List.Sublist.append_left (sc _ sn) _))).trans (List.sublist_append_right _ _))).trans (List.sublist_append_right _ _)).trans (List.sublist_append_right _ _)) ?_
      refine rt_soft (i := 8) rfl Kx (fun c d v a w h => by cases d <;> exact h) (((sk _ ((sc _ (sc _ (List.Sublist.append_left (sc _ sn) _))).trans (List.sublist_append_right _ _))).trans (List.sublist_append_right _ _)).trans (List.sublist_append_right _ _)) ?_
      refine rg_move ?_
      simp only [qz]
      refine rg_nil ?_
      refine ek_rt (((sk _ ((sc _ (sc _ (List.Sublist.append_left (sc _ sn) _))).trans (List.sublist_append_right _ _))).trans (List.sublist_append_right _ _)).trans (List.sublist_append_right _ _)) ?_
      refine rt_soft (i := 9) rfl Kx (fun c d v a w h => by cases d <;> exact h) (((sk _ ((sc _ (sc _ (List.Sublist.append_left (sc _ sn) _))).trans (List.sublist_append_right _ _))).trans (List.sublist_append_right _ _)).trans (List.sublist_append_right _ _)) ?_
      refine rf_extract rfl rfl rfl rfl ?_
      simp only [qz]
      refine rg_nil ?_
      refine ek_rt (((sk _ ((sc _ (sc _ (List.Sublist.append_left (sc _ sn) _))).trans (List.sublist_append_right _ _))).trans (List.sublist_append_right _ _)).trans (List.sublist_append_right _ _)) ?_
      refine rt_soft (i := 10) rfl Kx (fun c d v a w h => by cases d <;> exact h) (((sk _ ((sc _ (sc _ (List.Sublist.append_left (sc _ sn) _))).trans (List.sublist_append_right _ _))).trans (List.sublist_append_right _ _)).trans (List.sublist_append_right _ _)) ?_
      refine rf_extract rfl rfl rfl rfl ?_
      simp only [qz]
      refine rg_nil ?_
      refine ek_rt (((sk _ ((sc _ (sc _ (List.Sublist.append_left (sc _ sn) _))).trans (List.sublist_append_right _ _))).trans (List.sublist_append_right _ _)).trans (List.sublist_append_right _ _)) ?_
      refine rt_hard1 (i := 12) Kx rfl ?_
      refine rf_storeR (n := 2) rfl rfl Kx rfl rfl (UpdR.app _ (UpdR.app _ (UpdR.here _ _ _ Nl))) (fun _ h => by cases h; exact (((sk _ ((sc _ (sc _ (List.Sublist.append_left (sc _ sn) _))).trans (List.sublist_append_right _ _))).trans (List.sublist_append_right _ _)).trans (List.sublist_append_right _ _))) ?_
      simp only [qz, Nat.reduceAdd]
      refine rg_nil ?_
      refine ek_rt (((sk _ ((sc _ (sc _ (List.Sublist.append_left (sc _ sn) _))).trans (List.sublist_append_right _ _))).trans (List.sublist_append_right _ _)).trans (List.sublist_append_right _ _)) ?_
      refine rt_soft (i := 13) rfl Kx (fun c d v a w h => by cases d <;> exact h) (((sk _ ((sc _ (sc _ (List.Sublist.append_left (sc _ sn) _))).trans (List.sublist_append_right _ _))).trans (List.sublist_append_right _ _)).trans (List.sublist_append_right _ _)) ?_
      refine rg_assign ?_
      simp only [qz]
      refine rg_nil ?_
      refine ek_rt (((sk _ ((sc _ (sc _ (List.Sublist.append_left (sc _ sn) _))).trans (List.sublist_append_right _ _))).trans (List.sublist_append_right _ _)).trans (List.sublist_append_right _ _)) ?_
      refine rt_nil Kx ?_
      refine ek_next (wk_seq (wk_seq ?_))
      refine wk_region [0, 0] rfl Kx ?_
      simp only [qy]
      refine rg_move ?_
      simp only [qz]
      refine rfb_neq rfl rfl rfl rfl ?_
      intro x h5
      cases x
      · (try simp only [qd, ne_eq] at h5)
        simp only [qz]
        obtain ⟨l2, hm2⟩ := rC_ok (fun c h => mulM_code ((mulM_good hN1 hN6 hil hll hoi2 hoi).trans h)) (by simpa using h5)
        have hr2 : mulM N N (itL N x) l = .ok l2 := (mulM_good hN1 hN6 hil hll hoi2 hoi).trans hm2
        rw [hm2] at hO13
        clear h5
        rw [hm2]
        simp only [rN, rL, rC] at hO13 ⊢
        refine rg_nil (ek_next (wk_cond_f rfl (wk_skip (ek_next ?_))))
        refine wk_region [0, 1] rfl Kx ?_
        simp only [qy]
        refine rf_loadR (n := 2) rfl rfl rfl Try.underlying38 rfl Kx (fun w hw => Kn.hd0 (Kn.tlU (Kn.tlU hw))) rfl rfl ?_
        simp only [qz]
        refine rf_storeR (n := 2) rfl rfl Kx rfl rfl (UpdR.app _ (UpdR.app _ (UpdR.there _ (UpdR.app _ (UpdR.there _ (UpdR.here _ _ _ Nl)))))) Nz ?_
        simp only [qz, Nat.reduceAdd]
        refine rg_nil (ek_block (ek_next ?_))
        refine wk_region [0, 0] rfl Kx ?_
        simp only [qy]
        refine rf_add rfl rfl rfl rfl (wrap_ok Ox Ox) ?_
        simp only [qz]
        refine rg_move ?_
        simp only [qz]
        refine rg_nil ?_
        refine ek_sub (List.Sublist.append_left ((sk _ ((sk _ (sc _ ((sc _ sn).trans (List.sublist_append_right _ _)))).trans (List.sublist_append_right _ _))).trans (List.sublist_append_right _ _)) _) ?_
        refine ek_perm ((((List.Perm.refl _).append_left _).trans (List.perm_middle (l₁ := u13))).trans ((List.Perm.refl _).cons _)) ?_
        refine ek_roundF (xs.length - (i + 1)) Ox Kx ?_
        exact ⟨i + 1, l2, va13, vc13, u13, rfl, by rfl, by rfl, Ox, (Lib.hid (by rw [matS, hd2.out, hx.out]; exact hr2)), hO13⟩
      (try simp only [qd, ne_eq] at h5)
      simp only [qz]
      obtain ⟨cc, hm2⟩ := rC_err (by simpa using h5)
      have hr2 : mulM N N (itL N x) l = .error cc := (mulM_good hN1 hN6 hil hll hoi2 hoi).trans hm2
      refine rg_nil (ek_next (wk_cond_t rfl (wk_seq ?_)))
      refine wk_region [0, 0, 1, 0] rfl Kx ?_
      simp only [qy]
      refine rf_build (cs := fun a => #[.int .i64 0, .slice none 0 0]) rfl rfl Kx ?_
      simp only [qz]
      refine rg_move ?_
      simp only [qz]
      refine rf_storeR (n := 2) rfl rfl Kx rfl rfl (UpdR.app _ (UpdR.app _ (UpdR.there _ (UpdR.app _ (UpdR.there _ (UpdR.there _ (UpdR.app _ (UpdR.here _ _ _ Nl)))))))) Nz ?_
      simp only [qz, Nat.reduceAdd]
      refine rg_assign ?_
      simp only [qz]
      refine rg_nil (ek_next (wk_ret (ek_then_ret (ek_block_ret (ek_then_ret (ek_then_ret (ek_block_ret (ek_then_ret ?_))))))))
      refine ek_ret (fun w hw => ⟨rfl, _, run_results2 rfl rfl (Kn.hd0 (Kn.tlU (Kn.tl (Kn.tl (Kn.tlU (Kn.tl (Kn.tlU (Kn.tlU hw)))))))) Try.underlying38 rfl Kx, ?_⟩)
      (try simp only [qz])
      have hE : matS N xs (i + 1) = .error cc := by rw [matS, hd2.out, hx.out]; exact hr2
      rw [hmo.out, matS_err hE xs.length Ox, hm2]
      exact ⟨.slice none 0 0, [], rfl, OwnG.nil, .nil hw.below⟩
    refine rg_new (cs := ?_) (ty := ?_) Rx (fun w => ?_) (fun _ h => by cases h; exact (sc _ (sc _ (List.Sublist.append_left (sc _ sn) _)))) (fun g14 => ?_); rotate_left 2
    focus (go_simp; rfl)
    simp only [qz]
    refine rg_nil ?_
    refine ek_rt (sk _ (sc _ (sc _ (List.Sublist.append_left (sc _ sn) _)))) ?_
    refine rt_hard1 (i := 4) Kx rfl ?_
    apply rg_retM1 Rx Kx
    case hargs => exact Ax
    case h => exact fun w hw => r3of_any x hfk w
    case hz => exact (fun _ h => by cases h; exact (sk _ (sc _ (sc _ (List.Sublist.append_left (sc _ sn) _)))))
    intro va15 vc15 u15 hO15
    simp only [qz]
    refine rg_nil ?_
    refine ek_rt ((sk _ (sc _ (sc _ (List.Sublist.append_left (sc _ sn) _)))).trans (List.sublist_append_right _ _)) ?_
    refine rt_hard1 (i := 5) Kx rfl ?_
    apply (rg_retM1 (n := (N : Int)) (zs := itL N x)) Rx Kx
    case hargs => exact Ax
    case h => exact fun w hw => r3placed_int N (x.at_ - 1).toNat (ownN x) x.at_ (ownL x) va15 vc15 hfo.2.2.2.2 hN1 hN6 hfo.2.2.1 hfo.2.1 (Lib.hid (ownL_len x)) w (hO15.asM (hw.perm (List.Perm.refl _)))
    case hz => exact (fun _ h => by cases h; exact ((sk _ (sc _ (sc _ (List.Sublist.append_left (sc _ sn) _)))).trans (List.sublist_append_right _ _)))
    intro va16 vc16 u16 hO16
    simp only [qz]
    refine rg_nil ?_
    refine ek_rt (((sk _ (sc _ (sc _ (List.Sublist.append_left (sc _ sn) _)))).trans (List.sublist_append_right _ _)).trans (List.sublist_append_right _ _)) ?_
    refine rt_hard1 (i := 7) Kx rfl ?_
    apply (rg_retM (n := rN N (madeR N (mulF N (itL N x) l))) (zs := rL (madeR N (mulF N (itL N x) l))) (c := rC (madeR N (mulF N (itL N x) l)))) Rx Kx
    case hargs => exact Ax
    case h => exact fun w hw => r3times_any N (itL N x) l va16 va vc16 vc hN1 hN6 hil hll hoi2 hoi w (hO16.asM (hw.perm (List.Perm.refl _))) (hd3.asM (hw.perm ((((((((((((List.Perm.refl _).cons _).trans (List.perm_middle (l₁ := u)).symm).cons _).trans (List.perm_middle (l₁ := u)).symm).cons _).trans (List.perm_middle (l₁ := u)).symm).append_left _).trans (List.perm_append_comm_assoc u15 u _)).append_left _).trans (List.perm_append_comm_assoc u16 u _)).trans ((List.Perm.refl _).append_left _))))
    case hz => exact (fun _ h => by cases h; exact (((sk _ (sc _ (sc _ (List.Sublist.append_left (sc _ sn) _)))).trans (List.sublist_append_right _ _)).trans (List.sublist_append_right _ _)))
    intro va17 vc17 u17 hO17
    simp only [qz]
    refine rg_nil ?_
    refine ek_rt ((((sk _ (sc _ (sc _ (List.Sublist.append_left (sc _ sn) _)))).trans (List.sublist_append_right _ _)).trans (List.sublist_append_right _ _)).trans (List.sublist_append_right _ _)) ?_
    refine rt_soft (i := 8) rfl Kx (fun c d v a w h => by cases d <;> exact h) ((((sk _ (sc _ (sc _ (List.Sublist.append_left (sc _ sn) _)))).trans (List.sublist_append_right _ _)).trans (List.sublist_append_right _ _)).trans (List.sublist_append_right _ _)) ?_
    refine rg_move ?_
    simp only [qz]
    refine rg_nil ?_
    refine ek_rt ((((sk _ (sc _ (sc _ (List.Sublist.append_left (sc _ sn) _)))).trans (List.sublist_append_right _ _)).trans (List.sublist_append_right _ _)).trans (List.sublist_append_right _ _)) ?_
    refine rt_soft (i := 9) rfl Kx (fun c d v a w h => by cases d <;> exact h) ((((sk _ (sc _ (sc _ (List.Sublist.append_left (sc _ sn) _)))).trans (List.sublist_append_right _ _)).trans (List.sublist_append_right _ _)).trans (List.sublist_append_right _ _)) ?_
    refine rf_extract rfl rfl rfl rfl ?_
    simp only [qz]
    refine rg_nil ?_
    refine ek_rt ((((sk _ (sc _ (sc _ (List.Sublist.append_left (sc _ sn) _)))).trans (List.sublist_append_right _ _)).trans (List.sublist_append_right _ _)).trans (List.sublist_append_right _ _)) ?_
    refine rt_soft (i := 10) rfl Kx (fun c d v a w h => by cases d <;> exact h) ((((sk _ (sc _ (sc _ (List.Sublist.append_left (sc _ sn) _)))).trans (List.sublist_append_right _ _)).trans (List.sublist_append_right _ _)).trans (List.sublist_append_right _ _)) ?_
    refine rf_extract rfl rfl rfl rfl ?_
    simp only [qz]
    refine rg_nil ?_
    refine ek_rt ((((sk _ (sc _ (sc _ (List.Sublist.append_left (sc _ sn) _)))).trans (List.sublist_append_right _ _)).trans (List.sublist_append_right _ _)).trans (List.sublist_append_right _ _)) ?_
    refine rt_hard1 (i := 12) Kx rfl ?_
    refine rf_storeR (n := 2) rfl rfl Kx rfl rfl (UpdR.app _ (UpdR.app _ (UpdR.app _ (UpdR.here _ _ _ Nl)))) (fun _ h => by cases h; exact ((((sk _ (sc _ (sc _ (List.Sublist.append_left (sc _ sn) _)))).trans (List.sublist_append_right _ _)).trans (List.sublist_append_right _ _)).trans (List.sublist_append_right _ _))) ?_
    simp only [qz, Nat.reduceAdd]
    refine rg_nil ?_
    refine ek_rt ((((sk _ (sc _ (sc _ (List.Sublist.append_left (sc _ sn) _)))).trans (List.sublist_append_right _ _)).trans (List.sublist_append_right _ _)).trans (List.sublist_append_right _ _)) ?_
    refine rt_soft (i := 13) rfl Kx (fun c d v a w h => by cases d <;> exact h) ((((sk _ (sc _ (sc _ (List.Sublist.append_left (sc _ sn) _)))).trans (List.sublist_append_right _ _)).trans (List.sublist_append_right _ _)).trans (List.sublist_append_right _ _)) ?_
    refine rg_assign ?_
    simp only [qz]
    refine rg_nil ?_
    refine ek_rt ((((sk _ (sc _ (sc _ (List.Sublist.append_left (sc _ sn) _)))).trans (List.sublist_append_right _ _)).trans (List.sublist_append_right _ _)).trans (List.sublist_append_right _ _)) ?_
    refine rt_nil Kx ?_
    refine ek_next (wk_seq (wk_seq ?_))
    refine wk_region [0, 0] rfl Kx ?_
    simp only [qy]
    refine rg_move ?_
    simp only [qz]
    refine rfb_neq rfl rfl rfl rfl ?_
    intro x h6
    cases x
    · (try simp only [qd, ne_eq] at h6)
      simp only [qz]
      obtain ⟨l2, hm2⟩ := rC_ok (fun c h => mulM_code ((mulM_good hN1 hN6 hil hll hoi2 hoi).trans h)) (by simpa using h6)
      have hr2 : mulM N N (itL N x) l = .ok l2 := (mulM_good hN1 hN6 hil hll hoi2 hoi).trans hm2
      rw [hm2] at hO17
      clear h6
      rw [hm2]
      simp only [rN, rL, rC] at hO17 ⊢
      refine rg_nil (ek_next (wk_cond_f rfl (wk_skip (ek_next ?_))))
      refine wk_region [0, 1] rfl Kx ?_
      simp only [qy]
      refine rf_loadR (n := 2) rfl rfl rfl Try.underlying38 rfl Kx (fun w hw => Kn.hd0 (Kn.tlU (Kn.tlU (Kn.tlU hw)))) rfl rfl ?_
      simp only [qz]
      refine rf_storeR (n := 2) rfl rfl Kx rfl rfl (UpdR.app _ (UpdR.app _ (UpdR.app _ (UpdR.there _ (UpdR.there _ (UpdR.here _ _ _ Nl)))))) Nz ?_
      simp only [qz, Nat.reduceAdd]
      refine rg_nil (ek_block (ek_next ?_))
      refine wk_region [0, 0] rfl Kx ?_
      simp only [qy]
      refine rf_add rfl rfl rfl rfl (wrap_ok Ox Ox) ?_
      simp only [qz]
      refine rg_move ?_
      simp only [qz]
      refine rg_nil ?_
      refine ek_sub (List.Sublist.append_left (((sk _ (sk _ (sc _ ((sc _ sn).trans (List.sublist_append_right _ _))))).trans (List.sublist_append_right _ _)).trans (List.sublist_append_right _ _)) _) ?_
      refine ek_perm ((((List.Perm.refl _).append_left _).trans (List.perm_middle (l₁ := u17))).trans ((List.Perm.refl _).cons _)) ?_
      refine ek_roundF (xs.length - (i + 1)) Ox Kx ?_
      exact ⟨i + 1, l2, va17, vc17, u17, rfl, by rfl, by rfl, Ox, (Lib.hid (by rw [matS, hd2.out, hx.out]; exact hr2)), hO17⟩
    (try simp only [qd, ne_eq] at h6)
    simp only [qz]
    obtain ⟨cc, hm2⟩ := rC_err (by simpa using h6)
    have hr2 : mulM N N (itL N x) l = .error cc := (mulM_good hN1 hN6 hil hll hoi2 hoi).trans hm2
    refine rg_nil (ek_next (wk_cond_t rfl (wk_seq ?_)))
    refine wk_region [0, 0, 1, 0] rfl Kx ?_
    simp only [qy]
    refine rf_build (cs := fun a => #[.int .i64 0, .slice none 0 0]) rfl rfl Kx ?_
    simp only [qz]
    refine rg_move ?_
    simp only [qz]
    refine rf_storeR (n := 2) rfl rfl Kx rfl rfl (UpdR.app _ (UpdR.app _ (UpdR.app _ (UpdR.there _ (UpdR.there _ (UpdR.there _ (UpdR.app _ (UpdR.here _ _ _ Nl)))))))) Nz ?_
    simp only [qz, Nat.reduceAdd]
    refine rg_assign ?_
    simp only [qz]
    refine rg_nil (ek_next (wk_ret (ek_then_ret (ek_block_ret (ek_then_ret (ek_then_ret (ek_block_ret (ek_then_ret ?_))))))))
    refine ek_ret (fun w hw => ⟨rfl, _, run_results2 rfl rfl (Kn.hd0 (Kn.tlU (Kn.tl (Kn.tl (Kn.tl (Kn.tlU (Kn.tlU (Kn.tlU hw)))))))) Try.underlying38 rfl Kx, ?_⟩)
    (try simp only [qz])
    have hE : matS N xs (i + 1) = .error cc := by rw [matS, hd2.out, hx.out]; exact hr2
    rw [hmo.out, matS_err hE xs.length Ox, hm2]
    exact ⟨.slice none 0 0, [], rfl, OwnG.nil, .nil hw.below⟩
  (try simp only [qd, ne_eq] at h1)
  simp only [qz]
  have hie : itemE n xs ≠ 0 := by simpa using h1
  refine rg_nil (ek_next (wk_cond_t rfl (wk_seq ?_)))
  refine wk_region [0, 0, 1, 0] rfl Kx ?_
  simp only [qy]
  refine rf_build (cs := fun a => #[.int .i64 0, .slice none 0 0]) rfl rfl Kx ?_
  simp only [qz]
  refine rg_move ?_
  simp only [qz]
  refine rf_storeR (n := 2) rfl rfl Kx rfl rfl (UpdR.here _ _ _ Nl) Nz ?_
  simp only [qz, Nat.reduceAdd]
  refine rg_assign ?_
  simp only [qz]
  refine rg_nil (ek_next (wk_ret (ek_then_ret ?_)))
  refine ek_ret (fun w hw => ⟨rfl, _, run_results2 rfl rfl (Kn.hd0 hw) Try.underlying38 rfl Kx, ?_⟩)
  (try simp only [qz])
  have hmo : matO n xs = .error (itemE n xs) := by (unfold matO; rw [if_neg hie])
  rw [hmo]
  exact ⟨.slice none 0 0, [], rfl, OwnG.nil, .nil hw.below⟩

end Go.Proofs.Ytccbinnlnkpplaa
namespace Go.Proofs.Ytccbinnlnkpplaa
set_option linter.all false
open Go.RowKit

theorem matO_code {n : Int} {xs : List It} {c : Int} (h : matO n xs = .error c) : c ≠ 0 := by
  unfold matO at h
  split at h
  · exact matS_code h
  next hh => cases h; exact hh
theorem matO_len {n : Int} {xs : List It} {l : List Nm} (h : matO n xs = .ok l) : l.length ≤ 36 := by
  unfold matO at h
  split at h
  · next hh =>
    obtain ⟨h1, h2, h3, h4⟩ := validB_all (itemE_zero hh)
    obtain ⟨N, rfl⟩ : ∃ N : Nat, n = N := ⟨n.toNat, by omega⟩
    rw [Int.toNat_natCast] at h
    exact (matS_good Ox Ox h4 h (Nat.le_refl _)).2.2.2
  cases h
/-- Equal, as both answer. -/
def eqR (n : Int) (xs ys : List It) : Value :=
  if itemE n xs = 0 then (if itemE n ys = 0 then (match matO n xs with
    | .error c => .tuple #[.bool false, .int .i64 c]
    | .ok l => match matO n ys with
      | .error c => .tuple #[.bool false, .int .i64 c]
      | .ok m => .tuple #[.bool (decide (l = m)), .int .i64 0]) else .tuple #[.bool false, .int .i64 (itemE n ys)]) else .tuple #[.bool false, .int .i64 (itemE n xs)]
theorem eqR_two (n : Int) (xs ys : List It) : ∃ (b : Bool) (c : Int), eqR n xs ys = .tuple #[.bool b, .int .i64 c] := by
  unfold eqR
  split
  · split
    · split
      · exact ⟨_, _, rfl⟩
      split <;> exact ⟨_, _, rfl⟩
    exact ⟨_, _, rfl⟩
  exact ⟨_, _, rfl⟩
theorem eqR_1 {n : Int} {xs ys : List It} (h : itemE n xs ≠ 0) : eqR n xs ys = .tuple #[.bool false, .int .i64 (itemE n xs)] := by unfold eqR; rw [if_neg h]
theorem eqR_2 {n : Int} {xs ys : List It} (h : itemE n xs = 0) (h2 : itemE n ys ≠ 0) : eqR n xs ys = .tuple #[.bool false, .int .i64 (itemE n ys)] := by unfold eqR; rw [if_pos h, if_neg h2]
theorem eqR_3 {n : Int} {xs ys : List It} {c : Int} (h : itemE n xs = 0) (h2 : itemE n ys = 0) (h3 : matO n xs = .error c) : eqR n xs ys = .tuple #[.bool false, .int .i64 c] := by unfold eqR; rw [if_pos h, if_pos h2, h3]
theorem eqR_4 {n : Int} {xs ys : List It} {l : List Nm} {c : Int} (h : itemE n xs = 0) (h2 : itemE n ys = 0) (h3 : matO n xs = .ok l) (h4 : matO n ys = .error c) : eqR n xs ys = .tuple #[.bool false, .int .i64 c] := by unfold eqR; rw [if_pos h, if_pos h2, h3, h4]
theorem eqR_5 {n : Int} {xs ys : List It} {l m : List Nm} (h : itemE n xs = 0) (h2 : itemE n ys = 0) (h3 : matO n xs = .ok l) (h4 : matO n ys = .ok m) : eqR n xs ys = .tuple #[.bool (decide (l = m)), .int .i64 0] := by unfold eqR; rw [if_pos h, if_pos h2, h3, h4]
theorem list_ne {xs ys : List Nm} {i : Nat} (h : nm xs i ≠ nm ys i) : decide (xs = ys) = false := decide_eq_false fun e => h (by rw [e])
theorem list_nl {xs ys : List Nm} (h : xs.length ≠ ys.length) : decide (xs = ys) = false := decide_eq_false fun e => h (by rw [e])
theorem list_eq {xs ys : List Nm} (hl : xs.length = ys.length) (h : ∀ i, i < xs.length → nm xs i = nm ys i) : decide (xs = ys) = true := decide_eq_true (NmE.ext_at hl h)
set_option maxRecDepth 100000 in
set_option maxHeartbeats 1000000 in
theorem slEq_any (xs ys : List Nm) (a a' : Option Addr) (c c' : Nat) (hl : xs.length ≤ 1000000) (hl2 : ys.length ≤ 1000000) (w : World) (hA : AS w a (nms xs)) (hB : AS w a' (nms ys)) : Calls Try.prog 71 #[.slice a xs.length c, .slice a' ys.length c'] w fun e w' => e = .returned (.bool (decide (xs = ys))) ∧ Below w.heap.size w w' := by
  go_enter Try.func71, Try.ntmps71
  refine wk_start ?_
  refine wk_seq ?_
  refine wk_region [0] rfl Kx ?_
  simp only [qy]
  refine rg_assign ?_
  simp only [qz]
  refine rg_nil (ek_next (wk_seq (wk_seq ?_)))
  refine wk_region [0, 0, 0, 0, 0] rfl Kx ?_
  simp only [qy]
  refine rg_move ?_
  simp only [qz]
  refine rf_len rfl rfl rfl Try.underlying36 ?_
  simp only [qz]
  refine rg_move ?_
  simp only [qz]
  refine rf_len rfl rfl rfl Try.underlying36 ?_
  simp only [qz]
  refine rfb_neq rfl rfl rfl rfl ?_
  intro x h1
  cases x
  · (try simp only [qd, ne_eq] at h1)
    simp only [qz]
    refine rg_nil (ek_next (wk_cond_f rfl (wk_skip (ek_next (wk_seq (wk_seq ?_))))))
    refine wk_region [0, 0, 0] rfl Kx ?_
    simp only [qy]
    refine rg_move ?_
    simp only [qz]
    refine rf_len rfl rfl rfl Try.underlying36 ?_
    simp only [qz]
    refine rg_move ?_
    simp only [qz]
    refine rg_nil (ek_next (wk_block ?_))
    refine wk_loopF [4, 5, 13, 14, 15, 16, 17, 18, 19, 20, 21, 22, 23, 24, 25] (fun mz f s => ∃ (i : Nat), f 13 = .int .i64 i ∧ s = [] ∧ mz = xs.length - i ∧ i ≤ xs.length ∧ (∀ j, j < i → nm xs j = nm ys j)) ((fun (i : Nat) => xs.length - i) (0)) ?_ Kx ?_
    · exact ⟨0, rfl, rfl, rfl, by omega, fun j hj => by omega⟩
    rintro mz f1 s ⟨i, hs1_13, rfl, hn, hd1, hd2⟩
    simp only [Act.putF, List.foldl_cons, List.foldl_nil, hs1_13, Act.put, Act.eval, q1, q2, q3, q4, q5, q6, q7, q8, q9, q10, q11, q12, q13, q14, q15, q16, q17, q18, Nat.reduceAdd, Bool.not_true, Bool.not_false]
    clear hs1_13
    refine wk_seq ?_
    refine wk_region [0] rfl Kx ?_
    simp only [qy]
    refine rfb_lss rfl rfl rfl rfl ?_
    intro x h2
    cases x
    · (try simp only [qd, ne_eq] at h2)
      simp only [qz]
      refine rg_nil (ek_next (wk_seq (wk_cond_f rfl (wk_exit (ek_then_exit (ek_then_exit (ek_block_exit (ek_next (wk_seq ?_)))))))))
      refine wk_region [0] rfl Kx ?_
      simp only [qy]
      refine rg_assign ?_
      simp only [qz]
      refine rg_nil (ek_next (wk_ret ?_))
      refine ek_ret (fun w hw => ⟨rfl, _, res_t _ rfl, ?_⟩)
      (try simp only [qz])
      exact ⟨by rw [list_eq Ox (fun j hj => hd2 j Ox)], hw.below⟩
    (try simp only [qd, ne_eq] at h2)
    simp only [qz]
    refine rg_nil (ek_next (wk_seq (wk_cond_t rfl (wk_skip (ek_next (wk_seq (wk_block (wk_seq ?_))))))))
    refine wk_region [0, 0] rfl Kx ?_
    simp only [qy]
    refine rg_move ?_
    simp only [qz]
    refine rg_assign ?_
    simp only [qz]
    refine rg_nil (ek_next (wk_seq ?_))
    obtain ⟨b, off, ha, hlt, hcell⟩ := AS.openN hA Ox
    obtain ⟨b', off', ha', hlt', hcell'⟩ := AS.openN hB Ox
    subst ha ha'
    refine wk_draws _ _ [(0, 0), (1, 0), (2, 0), (3, 0), (4, 0), (5, 0), (6, 0), (7, 0), (8, 0)] [] Kx Kx (fun c d v a w h => by cases d <;> exact h) (sn) (fun e => by first | exact absurd e (by decide) | rfl) ?_
    simp only [List.map_cons, List.map_nil, List.getD_cons_zero, List.getD_cons_succ]
    refine rg_move ?_
    simp only [qz]
    refine rg_move ?_
    simp only [qz]
    refine rf_indexS (n := i) (sz := 5) (j := off + i * 5) rfl rfl rfl rfl Try.underlying36 Kx Ox Ox rfl ?_
    simp only [qz]
    refine rf_loadC (n := 5) (vs := [.int .i64 (nm xs i).a, .int .i64 (nm xs i).b, .int .i64 (nm xs i).c, .int .i64 (nm xs i).d, .int .i64 (nm xs i).k]) rfl rfl rfl Try.underlying45 rfl Kx rfl (fun w hw => atN_range ((hcell i Ox).kn hw hlt (by simp))) ?_
    simp only [qz]
    refine rg_move ?_
    simp only [qz]
    refine rg_move ?_
    simp only [qz]
    refine rf_indexS (n := i) (sz := 5) (j := off' + i * 5) rfl rfl rfl rfl Try.underlying36 Kx Ox Ox rfl ?_
    simp only [qz]
    refine rf_loadC (n := 5) (vs := [.int .i64 (nm ys i).a, .int .i64 (nm ys i).b, .int .i64 (nm ys i).c, .int .i64 (nm ys i).d, .int .i64 (nm ys i).k]) rfl rfl rfl Try.underlying45 rfl Kx rfl (fun w hw => atN_range ((hcell' i Ox).kn hw hlt' (by simp))) ?_
    simp only [qz]
    refine rfb_neN (nm xs i) (nm ys i) rfl rfl rfl rfl ?_
    intro x h3
    cases x
    · (try simp only [qd, ne_eq] at h3)
      simp only [qz]
      refine rg_nil (ek_next (wk_cond_f rfl (wk_skip (ek_block (ek_next ?_)))))
      refine wk_region [0, 0] rfl Kx ?_
      simp only [qy]
      refine rf_add rfl rfl rfl rfl (wrap_ok Ox Ox) ?_
      simp only [qz]
      refine rg_move ?_
      simp only [qz]
      refine rg_nil ?_
      refine ek_roundF (xs.length - (i + 1)) Ox Kx ?_
      exact ⟨i + 1, rfl, by rfl, by rfl, Ox, (fun j hj => by rcases (by omega : j < i ∨ j = i) with h | rfl; exact hd2 j h; exact h3)⟩
    (try simp only [qd, ne_eq] at h3)
    simp only [qz]
    refine rg_nil (ek_next (wk_cond_t rfl (wk_seq ?_)))
    refine wk_region [0] rfl Kx ?_
    simp only [qy]
    refine rg_assign ?_
    simp only [qz]
    refine rg_nil (ek_next (wk_ret (ek_block_ret (ek_then_ret (ek_then_ret (ek_block_ret (ek_then_ret ?_)))))))
    refine ek_ret (fun w hw => ⟨rfl, _, res_t _ rfl, ?_⟩)
    (try simp only [qz])
    exact ⟨by rw [list_ne (i := i) h3], hw.below⟩
  (try simp only [qd, ne_eq] at h1)
  simp only [qz]
  refine rg_nil (ek_next (wk_cond_t rfl (wk_seq ?_)))
  refine wk_region [0] rfl Kx ?_
  simp only [qy]
  refine rg_assign ?_
  simp only [qz]
  refine rg_nil (ek_next (wk_ret (ek_then_ret ?_)))
  refine ek_ret (fun w hw => ⟨rfl, _, res_t _ rfl, ?_⟩)
  (try simp only [qz])
  exact ⟨by rw [list_nl Ox], hw.below⟩

set_option maxRecDepth 100000 in
set_option maxHeartbeats 1000000 in
theorem rSameQ_any (n : Int) (xs ys : List Nm) (a a' : Option Addr) (c c' : Nat) (hl : xs.length ≤ 1000000) (hl2 : ys.length ≤ 1000000) (w : World) (hA : AS w a (nms xs)) (hB : AS w a' (nms ys)) : Calls Try.prog 36 #[.agg #[.int .i64 n, .slice a xs.length c], .agg #[.int .i64 n, .slice a' ys.length c']] w fun e w' => e = .returned (.bool (decide (xs = ys))) ∧ Below w.heap.size w w' := by
  go_enter Try.func36, Try.ntmps36
  refine wk_start ?_
  refine wk_seq ?_
  refine wk_region [1, 1, 0] rfl Kx ?_
  simp only [qy]
  refine Rgn fun g1 => ?_
  simp only [qz]
  refine Rgn fun g2 => ?_
  simp only [qz]
  refine rg_assign ?_
  simp only [qz]
  refine rg_nil (ek_next (wk_seq (wk_seq ?_)))
  refine wk_region [0, 0, 0, 0, 0, 0, 0, 0, 0, 0, 0, 0, 0, 0] rfl Kx ?_
  simp only [qy]
  refine rf_field (n := 0) (j := 0) rfl rfl rfl Try.underlying38 rfl Kx rfl ?_
  simp only [qz]
  refine rf_load rfl rfl rfl Try.underlying3 rfl (fun w hw => (Kn.hd0 (Kn.tl hw)).at rfl) ?_
  simp only [qz]
  refine rf_field (n := 0) (j := 0) rfl rfl rfl Try.underlying38 rfl Kx rfl ?_
  simp only [qz]
  refine rf_load rfl rfl rfl Try.underlying3 rfl (fun w hw => (Kn.hd0 hw).at rfl) ?_
  simp only [qz]
  refine rfb_neq rfl rfl rfl rfl ?_
  intro x h1
  obtain rfl : x = false := by (refine h1.symm.trans ?_; exact decide_eq_false Ox)
  clear h1
  simp only [qz]
  refine rg_move ?_
  simp only [qz]
  refine rf_field (n := 0) (j := 1) rfl rfl rfl Try.underlying38 rfl Kx rfl ?_
  simp only [qz]
  refine rf_load rfl rfl rfl Try.underlying36 rfl (fun w hw => (Kn.hd0 (Kn.tl hw)).at rfl) ?_
  simp only [qz]
  refine rf_len rfl rfl rfl Try.underlying36 ?_
  simp only [qz]
  refine rf_field (n := 0) (j := 1) rfl rfl rfl Try.underlying38 rfl Kx rfl ?_
  simp only [qz]
  refine rf_load rfl rfl rfl Try.underlying36 rfl (fun w hw => (Kn.hd0 hw).at rfl) ?_
  simp only [qz]
  refine rf_len rfl rfl rfl Try.underlying36 ?_
  simp only [qz]
  refine rfb_neq rfl rfl rfl rfl ?_
  intro x h2
  cases x
  · (try simp only [qd, ne_eq] at h2)
    simp only [qz]
    refine rf_pick rfl rfl rfl ?_
    simp only [qz]
    refine rg_nil (ek_next (wk_cond_f rfl (wk_skip (ek_next (wk_seq (wk_seq ?_))))))
    refine wk_region [0] rfl Kx ?_
    simp only [qy]
    refine rg_assign ?_
    simp only [qz]
    refine rg_nil (ek_next (wk_block ?_))
    refine wk_loopF [4, 5, 20, 21, 22, 23, 24, 25, 26, 27, 28, 29, 30, 31, 32, 33, 34, 35, 36, 37] (fun mz f s => ∃ (i : Nat), f 5 = .int .i64 i ∧ s = ((g2, .cells #[.int .i64 n, .slice a' ys.length c'] 38) :: ((g1, .cells #[.int .i64 n, .slice a xs.length c] 38) :: [])) ∧ mz = xs.length - i ∧ i ≤ xs.length ∧ (∀ j, j < i → nm xs j = nm ys j)) ((fun (i : Nat) => xs.length - i) (0)) ?_ Kx ?_
    · exact ⟨0, rfl, rfl, rfl, by omega, fun j hj => by omega⟩
    rintro mz f1 s ⟨i, hs1_5, rfl, hn, hd1, hd2⟩
    simp only [Act.putF, List.foldl_cons, List.foldl_nil, hs1_5, Act.put, Act.eval, q1, q2, q3, q4, q5, q6, q7, q8, q9, q10, q11, q12, q13, q14, q15, q16, q17, q18, Nat.reduceAdd, Bool.not_true, Bool.not_false]
    clear hs1_5
    refine wk_seq (wk_seq ?_)
    refine wk_region [0, 0, 0, 0, 0] rfl Kx ?_
    simp only [qy]
    refine rg_move ?_
    simp only [qz]
    refine rf_field (n := 0) (j := 1) rfl rfl rfl Try.underlying38 rfl Kx rfl ?_
    simp only [qz]
    refine rf_load rfl rfl rfl Try.underlying36 rfl (fun w hw => (Kn.hd0 (Kn.tl hw)).at rfl) ?_
    simp only [qz]
    refine rf_len rfl rfl rfl Try.underlying36 ?_
    simp only [qz]
    refine rfb_lss rfl rfl rfl rfl ?_
    intro x h3
    cases x
    · (try simp only [qd, ne_eq] at h3)
      simp only [qz]
      refine rg_nil (ek_next (wk_cond_f rfl (wk_exit (ek_then_exit (ek_then_exit (ek_block_exit (ek_next (wk_seq ?_))))))))
      refine wk_region [0] rfl Kx ?_
      simp only [qy]
      refine rg_assign ?_
      simp only [qz]
      refine rg_nil (ek_next (wk_ret ?_))
      refine ek_ret (fun w hw => ⟨rfl, _, res_t _ rfl, ?_⟩)
      (try simp only [qz])
      exact ⟨by rw [list_eq Ox (fun j hj => hd2 j Ox)], hw.below⟩
    (try simp only [qd, ne_eq] at h3)
    simp only [qz]
    refine rg_nil (ek_next (wk_cond_t rfl (wk_skip (ek_next (wk_seq (wk_block (wk_seq ?_)))))))
    obtain ⟨b, off, ha, hlt, hcell⟩ := AS.openN hA Ox
    obtain ⟨b', off', ha', hlt', hcell'⟩ := AS.openN hB Ox
    subst ha ha'
    refine wk_draws _ _ [(0, 0), (1, 0), (2, 0), (3, 0), (4, 0), (5, 0), (6, 0), (7, 0), (8, 0), (9, 0), (10, 0)] [] Kx Kx (fun c d v a w h => by cases d <;> exact h) ((sc _ (sc _ sn))) (fun e => by first | exact absurd e (by decide) | rfl) ?_
    simp only [List.map_cons, List.map_nil, List.getD_cons_zero, List.getD_cons_succ]
    refine rf_field (n := 0) (j := 1) rfl rfl rfl Try.underlying38 rfl Kx rfl ?_
    simp only [qz]
    refine rf_load rfl rfl rfl Try.underlying36 rfl (fun w hw => (Kn.hd0 (Kn.tl hw)).at rfl) ?_
    simp only [qz]
    refine rg_move ?_
    simp only [qz]
    refine rf_indexS (n := i) (sz := 5) (j := off + i * 5) rfl rfl rfl rfl Try.underlying36 Kx Ox Ox rfl ?_
    simp only [qz]
    refine rf_loadC (n := 5) (vs := [.int .i64 (nm xs i).a, .int .i64 (nm xs i).b, .int .i64 (nm xs i).c, .int .i64 (nm xs i).d, .int .i64 (nm xs i).k]) rfl rfl rfl Try.underlying45 rfl Kx rfl (fun w hw => atN_range ((hcell i Ox).kn hw hlt (by simp))) ?_
    simp only [qz]
    refine rf_field (n := 0) (j := 1) rfl rfl rfl Try.underlying38 rfl Kx rfl ?_
    simp only [qz]
    refine rf_load rfl rfl rfl Try.underlying36 rfl (fun w hw => (Kn.hd0 hw).at rfl) ?_
    simp only [qz]
    refine rg_move ?_
    simp only [qz]
    refine rf_indexS (n := i) (sz := 5) (j := off' + i * 5) rfl rfl rfl rfl Try.underlying36 Kx Ox Ox rfl ?_
    simp only [qz]
    refine rf_loadC (n := 5) (vs := [.int .i64 (nm ys i).a, .int .i64 (nm ys i).b, .int .i64 (nm ys i).c, .int .i64 (nm ys i).d, .int .i64 (nm ys i).k]) rfl rfl rfl Try.underlying45 rfl Kx rfl (fun w hw => atN_range ((hcell' i Ox).kn hw hlt' (by simp))) ?_
    simp only [qz]
    refine rfb_neN (nm xs i) (nm ys i) rfl rfl rfl rfl ?_
    intro x h4
    cases x
    · (try simp only [qd, ne_eq] at h4)
      simp only [qz]
      refine rg_nil (ek_next (wk_cond_f rfl (wk_skip (ek_block (ek_next ?_)))))
      refine wk_region [0, 0, 0] rfl Kx ?_
      simp only [qy]
      refine rg_move ?_
      simp only [qz]
      refine rf_add rfl rfl rfl rfl (wrap_ok Ox Ox) ?_
      simp only [qz]
      refine rg_assign ?_
      simp only [qz]
      refine rg_nil ?_
      refine ek_roundF (xs.length - (i + 1)) Ox Kx ?_
      exact ⟨i + 1, rfl, by rfl, by rfl, Ox, (fun j hj => by rcases (by omega : j < i ∨ j = i) with h | rfl; exact hd2 j h; exact h4)⟩
    (try simp only [qd, ne_eq] at h4)
    simp only [qz]
    refine rg_nil (ek_next (wk_cond_t rfl (wk_seq ?_)))
    refine wk_region [0] rfl Kx ?_
    simp only [qy]
    refine rg_assign ?_
    simp only [qz]
    refine rg_nil (ek_next (wk_ret (ek_block_ret (ek_then_ret (ek_then_ret (ek_block_ret (ek_then_ret ?_)))))))
    refine ek_ret (fun w hw => ⟨rfl, _, res_t _ rfl, ?_⟩)
    (try simp only [qz])
    exact ⟨by rw [list_ne (i := i) h4], hw.below⟩
  (try simp only [qd, ne_eq] at h2)
  simp only [qz]
  refine rf_pick rfl rfl rfl ?_
  simp only [qz]
  refine rg_nil (ek_next (wk_cond_t rfl (wk_seq ?_)))
  refine wk_region [0] rfl Kx ?_
  simp only [qy]
  refine rg_assign ?_
  simp only [qz]
  refine rg_nil (ek_next (wk_ret (ek_then_ret ?_)))
  refine ek_ret (fun w hw => ⟨rfl, _, res_t _ rfl, ?_⟩)
  (try simp only [qz])
  exact ⟨by rw [list_nl Ox], hw.below⟩

set_option maxRecDepth 100000 in
set_option maxHeartbeats 2000000 in
theorem mequal_any (n : Int) (xs ys : List It) (a a' : Option Addr) (c c' : Nat) (w : World) (hA : AS w a (its xs)) (hB : AS w a' (its ys)) : Calls Try.prog 30 #[.int .i64 n, .slice a xs.length c, .slice a' ys.length c'] w fun e w' => e = .returned (eqR n xs ys) ∧ Below w.heap.size w w' := by
  go_enter Try.func30, Try.ntmps30
  refine wk_start ?_
  refine wk_seq ?_
  refine wk_region [0, 0] rfl Kx ?_
  simp only [qy]
  refine rg_assign ?_
  simp only [qz]
  refine rg_assign ?_
  simp only [qz]
  refine rg_nil (ek_next (wk_seq (wk_seq ?_)))
  refine wk_region [0, 0, 1, 0] rfl Kx ?_
  simp only [qy]
  refine rg_move ?_
  simp only [qz]
  refine rg_move ?_
  simp only [qz]
  apply rg_pure Rx Kx
  case hargs => exact Ax
  case h => exact fun w hw => check_any xs a c n w (hA.kn0 hw)
  case hz => exact Nz
  simp only [qz]
  refine rg_assign ?_
  simp only [qz]
  refine rg_nil (ek_next (wk_seq ?_))
  refine wk_region [0, 0] rfl Kx ?_
  simp only [qy]
  refine rg_move ?_
  simp only [qz]
  refine rfb_neq rfl rfl rfl rfl ?_
  intro x h1
  cases x
  · (try simp only [qd, ne_eq] at h1)
    simp only [qz]
    have hx1 : itemE n xs = 0 := by simpa using h1
    replace hx1 := Lib.hid hx1
    clear h1
    refine rg_nil (ek_next (wk_cond_f rfl (wk_skip (ek_next (wk_seq (wk_seq ?_))))))
    refine wk_region [0, 0, 1, 0] rfl Kx ?_
    simp only [qy]
    refine rg_move ?_
    simp only [qz]
    refine rg_move ?_
    simp only [qz]
    apply rg_pure Rx Kx
    case hargs => exact Ax
    case h => exact fun w hw => check_any ys a' c' n w (hB.kn0 hw)
    case hz => exact Nz
    simp only [qz]
    refine rg_assign ?_
    simp only [qz]
    refine rg_nil (ek_next (wk_seq ?_))
    refine wk_region [0, 0] rfl Kx ?_
    simp only [qy]
    refine rg_move ?_
    simp only [qz]
    refine rfb_neq rfl rfl rfl rfl ?_
    intro x h2
    cases x
    · (try simp only [qd, ne_eq] at h2)
      simp only [qz]
      have hx2 : itemE n ys = 0 := by simpa using h2
      replace hx2 := Lib.hid hx2
      clear h2
      refine rg_nil (ek_next (wk_cond_f rfl (wk_skip (ek_next (wk_seq ?_)))))
      refine wk_region [0, 0, 1, 0, 0, 0, 1, 1, 0] rfl Kx ?_
      simp only [qy]
      refine rg_move ?_
      simp only [qz]
      refine rg_move ?_
      simp only [qz]
      apply (rg_retM (n := rN n.toNat (matO n xs)) (zs := rL (matO n xs)) (c := rC (matO n xs))) Rx Kx
      case hargs => exact Ax
      case h => exact fun w hw => matrixOf_any n xs a c w (hA.kn0 hw)
      case hz => exact Nz
      intro va1 vc1 u1 hO1
      simp only [qz]
      refine rg_move ?_
      simp only [qz]
      refine rf_extract rfl rfl rfl rfl ?_
      simp only [qz]
      refine rf_extract rfl rfl rfl rfl ?_
      simp only [qz]
      refine Rgn fun g2 => ?_
      simp only [qz]
      refine rf_storeR (n := 2) rfl rfl Kx rfl rfl (UpdR.here _ _ _ Nl) Nz ?_
      simp only [qz, Nat.reduceAdd]
      refine rg_assign ?_
      simp only [qz]
      refine rg_nil (ek_next (wk_seq (wk_seq ?_)))
      refine wk_region [0, 0] rfl Kx ?_
      simp only [qy]
      refine rg_move ?_
      simp only [qz]
      refine rfb_neq rfl rfl rfl rfl ?_
      intro x h3
      cases x
      · (try simp only [qd, ne_eq] at h3)
        simp only [qz]
        obtain ⟨l1, hm1⟩ := rC_ok (r := matO n xs) (fun c h => matO_code h) (by simpa using h3)
        clear h3
        have hm1l := matO_len hm1
        rw [hm1] at hO1
        rw [hm1]
        replace hm1 := Lib.hid hm1
        simp only [rN, rL, rC] at hO1 ⊢
        refine rg_nil (ek_next (wk_cond_f rfl (wk_skip (ek_next (wk_seq ?_)))))
        refine wk_region [0, 0, 1, 0, 0, 0, 1, 1, 0] rfl Kx ?_
        simp only [qy]
        refine rg_move ?_
        simp only [qz]
        refine rg_move ?_
        simp only [qz]
        apply (rg_retM (n := rN n.toNat (matO n ys)) (zs := rL (matO n ys)) (c := rC (matO n ys))) Rx Kx
        case hargs => exact Ax
        case h => exact fun w hw => matrixOf_any n ys a' c' w (hB.kn0 hw)
        case hz => exact Nz
        intro va3 vc3 u3 hO3
        simp only [qz]
        refine rg_move ?_
        simp only [qz]
        refine rf_extract rfl rfl rfl rfl ?_
        simp only [qz]
        refine rf_extract rfl rfl rfl rfl ?_
        simp only [qz]
        refine Rgn fun g4 => ?_
        simp only [qz]
        refine rf_storeR (n := 2) rfl rfl Kx rfl rfl (UpdR.here _ _ _ Nl) Nz ?_
        simp only [qz, Nat.reduceAdd]
        refine rg_assign ?_
        simp only [qz]
        refine rg_nil (ek_next (wk_seq (wk_seq ?_)))
        refine wk_region [0, 0] rfl Kx ?_
        simp only [qy]
        refine rg_move ?_
        simp only [qz]
        refine rfb_neq rfl rfl rfl rfl ?_
        intro x h4
        cases x
        · (try simp only [qd, ne_eq] at h4)
          simp only [qz]
          obtain ⟨l2, hm2⟩ := rC_ok (r := matO n ys) (fun c h => matO_code h) (by simpa using h4)
          clear h4
          have hm2l := matO_len hm2
          rw [hm2] at hO3
          rw [hm2]
          replace hm2 := Lib.hid hm2
          simp only [rN, rL, rC] at hO3 ⊢
          refine rg_nil (ek_next (wk_cond_f rfl (wk_skip (ek_next (wk_seq ?_)))))
          refine wk_region [0, 0, 0, 0, 1, 0, 0] rfl Kx ?_
          simp only [qy]
          refine rf_field (n := 0) (j := 1) rfl rfl rfl Try.underlying38 rfl Kx rfl ?_
          simp only [qz]
          refine rf_load rfl rfl rfl Try.underlying36 rfl (fun w hw => (Kn.hd0 (Kn.tlU (Kn.tl hw))).at rfl) ?_
          simp only [qz]
          refine rf_field (n := 0) (j := 1) rfl rfl rfl Try.underlying38 rfl Kx rfl ?_
          simp only [qz]
          refine rf_load rfl rfl rfl Try.underlying36 rfl (fun w hw => (Kn.hd0 hw).at rfl) ?_
          simp only [qz]
          apply rg_pure Rx Kx
          case hargs => exact Ax
          case h => exact fun w hw => slEq_any l1 l2 va1 va3 vc1 vc3 Ox Ox w (hO1.asM (hw.perm ((((((((List.Perm.refl _).cons _).trans (List.perm_middle (l₁ := u1)).symm).append_left _).trans (List.perm_append_comm_assoc u3 u1 _)).cons _).trans (List.perm_middle (l₁ := u1)).symm).trans ((List.Perm.refl _).append_left _)))) (hO3.asM (hw.perm (perm_atU (l := [_]) (u := u3) (List.Perm.refl _))))
          case hz => exact Nz
          simp only [qz]
          refine rg_assign ?_
          simp only [qz]
          refine rg_assign ?_
          simp only [qz]
          refine rg_nil (ek_next (wk_ret ?_))
          refine ek_ret (fun w hw => ⟨rfl, _, res_tt _ _ rfl, ?_⟩)
          (try simp only [qz])
          exact ⟨by rw [eqR_5 hx1.out hx2.out hm1.out hm2.out], hw.below⟩
        (try simp only [qd, ne_eq] at h4)
        simp only [qz]
        obtain ⟨cc, hm2⟩ := rC_err (r := matO n ys) (by simpa using h4)
        refine rg_nil (ek_next (wk_cond_t rfl (wk_seq ?_)))
        refine wk_region [0, 0, 0] rfl Kx ?_
        simp only [qy]
        refine rg_move ?_
        simp only [qz]
        refine rg_assign ?_
        simp only [qz]
        refine rg_assign ?_
        simp only [qz]
        refine rg_nil (ek_next (wk_ret (ek_then_ret ?_)))
        refine ek_ret (fun w hw => ⟨rfl, _, res_tt _ _ rfl, ?_⟩)
        (try simp only [qz])
        exact ⟨by rw [eqR_4 hx1.out hx2.out hm1.out hm2, hm2]; rfl, hw.below⟩
      (try simp only [qd, ne_eq] at h3)
      simp only [qz]
      obtain ⟨cc, hm1⟩ := rC_err (r := matO n xs) (by simpa using h3)
      refine rg_nil (ek_next (wk_cond_t rfl (wk_seq ?_)))
      refine wk_region [0, 0, 0] rfl Kx ?_
      simp only [qy]
      refine rg_move ?_
      simp only [qz]
      refine rg_assign ?_
      simp only [qz]
      refine rg_assign ?_
      simp only [qz]
      refine rg_nil (ek_next (wk_ret (ek_then_ret ?_)))
      refine ek_ret (fun w hw => ⟨rfl, _, res_tt _ _ rfl, ?_⟩)
      (try simp only [qz])
      exact ⟨by rw [eqR_3 hx1.out hx2.out hm1, hm1]; rfl, hw.below⟩
    (try simp only [qd, ne_eq] at h2)
    simp only [qz]
    have hx2 : itemE n ys ≠ 0 := by simpa using h2
    replace hx2 := Lib.hid hx2
    clear h2
    refine rg_nil (ek_next (wk_cond_t rfl (wk_seq ?_)))
    refine wk_region [0, 0, 0] rfl Kx ?_
    simp only [qy]
    refine rg_move ?_
    simp only [qz]
    refine rg_assign ?_
    simp only [qz]
    refine rg_assign ?_
    simp only [qz]
    refine rg_nil (ek_next (wk_ret (ek_then_ret ?_)))
    refine ek_ret (fun w hw => ⟨rfl, _, res_tt _ _ rfl, ?_⟩)
    (try simp only [qz])
    exact ⟨by rw [eqR_2 hx1.out hx2.out], hw.below⟩
  (try simp only [qd, ne_eq] at h1)
  simp only [qz]
  have hx1 : itemE n xs ≠ 0 := by simpa using h1
  replace hx1 := Lib.hid hx1
  clear h1
  refine rg_nil (ek_next (wk_cond_t rfl (wk_seq ?_)))
  refine wk_region [0, 0, 0] rfl Kx ?_
  simp only [qy]
  refine rg_move ?_
  simp only [qz]
  refine rg_assign ?_
  simp only [qz]
  refine rg_assign ?_
  simp only [qz]
  refine rg_nil (ek_next (wk_ret (ek_then_ret ?_)))
  refine ek_ret (fun w hw => ⟨rfl, _, res_tt _ _ rfl, ?_⟩)
  (try simp only [qz])
  exact ⟨by rw [eqR_1 hx1.out], hw.below⟩

set_option maxRecDepth 100000 in
set_option maxHeartbeats 2000000 in
theorem requal_any (n : Int) (xs ys : List It) (a a' : Option Addr) (c c' : Nat) (w : World) (hA : AS w a (its xs)) (hB : AS w a' (its ys)) : Calls Try.prog 31 #[.int .i64 n, .slice a xs.length c, .slice a' ys.length c'] w fun e w' => e = .returned (eqR n xs ys) ∧ Below w.heap.size w w' := by
  go_enter Try.func31, Try.ntmps31
  refine wk_start ?_
  refine wk_seq ?_
  refine wk_region [0, 0] rfl Kx ?_
  simp only [qy]
  refine rg_assign ?_
  simp only [qz]
  refine rg_assign ?_
  simp only [qz]
  refine rg_nil (ek_next (wk_seq ?_))
  refine wk_region [0, 0, 1, 0] rfl Kx ?_
  simp only [qy]
  refine rg_move ?_
  simp only [qz]
  refine rg_move ?_
  simp only [qz]
  apply rg_pure Rx Kx
  case hargs => exact Ax
  case h => exact fun w hw => items_any xs a c n w (hA.kn0 hw)
  case hz => exact Nz
  simp only [qz]
  refine rg_assign ?_
  simp only [qz]
  refine rg_nil (ek_next (wk_seq (wk_seq ?_)))
  refine wk_region [0, 0] rfl Kx ?_
  simp only [qy]
  refine rg_move ?_
  simp only [qz]
  refine rfb_eql rfl rfl rfl rfl ?_
  intro x h1
  cases x
  · (try simp only [qd, ne_eq] at h1)
    simp only [qz]
    have hx1 : itemE n xs ≠ 0 := by simpa using h1
    replace hx1 := Lib.hid hx1
    clear h1
    refine rg_nil (ek_next (wk_cond_f rfl (wk_skip (ek_next (wk_seq (wk_seq ?_))))))
    refine wk_region [0, 0] rfl Kx ?_
    simp only [qy]
    refine rg_move ?_
    simp only [qz]
    refine rfb_neq rfl rfl rfl rfl ?_
    intro x h2
    cases x
    · (try simp only [qd, ne_eq] at h2)
      simp only [qz]
      exact absurd (by simpa using h2) hx1.out
    (try simp only [qd, ne_eq] at h2)
    simp only [qz]
    refine rg_nil (ek_next (wk_cond_t rfl (wk_seq ?_)))
    refine wk_region [0, 0, 0] rfl Kx ?_
    simp only [qy]
    refine rg_move ?_
    simp only [qz]
    refine rg_assign ?_
    simp only [qz]
    refine rg_assign ?_
    simp only [qz]
    refine rg_nil (ek_next (wk_ret (ek_then_ret ?_)))
    refine ek_ret (fun w hw => ⟨rfl, _, res_tt _ _ rfl, ?_⟩)
    (try simp only [qz])
    exact ⟨by rw [eqR_1 hx1.out], hw.below⟩
  (try simp only [qd, ne_eq] at h1)
  simp only [qz]
  have hx1 : itemE n xs = 0 := by simpa using h1
  replace hx1 := Lib.hid hx1
  clear h1
  refine rg_nil (ek_next (wk_cond_t rfl ?_))
  refine wk_region [0, 0, 1, 0] rfl Kx ?_
  simp only [qy]
  refine rg_move ?_
  simp only [qz]
  refine rg_move ?_
  simp only [qz]
  apply rg_pure Rx Kx
  case hargs => exact Ax
  case h => exact fun w hw => items_any ys a' c' n w (hB.kn0 hw)
  case hz => exact Nz
  simp only [qz]
  refine rg_assign ?_
  simp only [qz]
  refine rg_nil (ek_next (wk_seq (wk_seq ?_)))
  refine wk_region [0, 0] rfl Kx ?_
  simp only [qy]
  refine rg_move ?_
  simp only [qz]
  refine rfb_neq rfl rfl rfl rfl ?_
  intro x h3
  cases x
  · (try simp only [qd, ne_eq] at h3)
    simp only [qz]
    have hx2 : itemE n ys = 0 := by simpa using h3
    replace hx2 := Lib.hid hx2
    clear h3
    refine rg_nil (ek_next (wk_cond_f rfl (wk_skip (ek_next (wk_seq ?_)))))
    refine wk_region [0, 0, 1, 0, 0, 0, 1, 1, 0] rfl Kx ?_
    simp only [qy]
    refine rg_move ?_
    simp only [qz]
    refine rg_move ?_
    simp only [qz]
    apply (rg_retM (n := rN n.toNat (matO n xs)) (zs := rL (matO n xs)) (c := rC (matO n xs))) Rx Kx
    case hargs => exact Ax
    case h => exact fun w hw => r3matrixOf_any n xs a c w (hA.kn0 hw)
    case hz => exact Nz
    intro va1 vc1 u1 hO1
    simp only [qz]
    refine rg_move ?_
    simp only [qz]
    refine rf_extract rfl rfl rfl rfl ?_
    simp only [qz]
    refine rf_extract rfl rfl rfl rfl ?_
    simp only [qz]
    refine Rgn fun g2 => ?_
    simp only [qz]
    refine rf_storeR (n := 2) rfl rfl Kx rfl rfl (UpdR.here _ _ _ Nl) Nz ?_
    simp only [qz, Nat.reduceAdd]
    refine rg_assign ?_
    simp only [qz]
    refine rg_nil (ek_next (wk_seq (wk_seq ?_)))
    refine wk_region [0, 0] rfl Kx ?_
    simp only [qy]
    refine rg_move ?_
    simp only [qz]
    refine rfb_neq rfl rfl rfl rfl ?_
    intro x h4
    cases x
    · (try simp only [qd, ne_eq] at h4)
      simp only [qz]
      obtain ⟨l1, hm1⟩ := rC_ok (r := matO n xs) (fun c h => matO_code h) (by simpa using h4)
      clear h4
      have hm1l := matO_len hm1
      rw [hm1] at hO1
      rw [hm1]
      replace hm1 := Lib.hid hm1
      simp only [rN, rL, rC] at hO1 ⊢
      refine rg_nil (ek_next (wk_cond_f rfl (wk_skip (ek_next (wk_seq ?_)))))
      refine wk_region [0, 0, 1, 0, 0, 0, 1, 1, 0] rfl Kx ?_
      simp only [qy]
      refine rg_move ?_
      simp only [qz]
      refine rg_move ?_
      simp only [qz]
      apply (rg_retM (n := rN n.toNat (matO n ys)) (zs := rL (matO n ys)) (c := rC (matO n ys))) Rx Kx
      case hargs => exact Ax
      case h => exact fun w hw => r3matrixOf_any n ys a' c' w (hB.kn0 hw)
      case hz => exact Nz
      intro va3 vc3 u3 hO3
      simp only [qz]
      refine rg_move ?_
      simp only [qz]
      refine rf_extract rfl rfl rfl rfl ?_
      simp only [qz]
      refine rf_extract rfl rfl rfl rfl ?_
      simp only [qz]
      refine Rgn fun g4 => ?_
      simp only [qz]
      refine rf_storeR (n := 2) rfl rfl Kx rfl rfl (UpdR.here _ _ _ Nl) Nz ?_
      simp only [qz, Nat.reduceAdd]
      refine rg_assign ?_
      simp only [qz]
      refine rg_nil (ek_next (wk_seq (wk_seq ?_)))
      refine wk_region [0, 0] rfl Kx ?_
      simp only [qy]
      refine rg_move ?_
      simp only [qz]
      refine rfb_neq rfl rfl rfl rfl ?_
      intro x h5
      cases x
      · (try simp only [qd, ne_eq] at h5)
        simp only [qz]
        obtain ⟨l2, hm2⟩ := rC_ok (r := matO n ys) (fun c h => matO_code h) (by simpa using h5)
        clear h5
        have hm2l := matO_len hm2
        rw [hm2] at hO3
        rw [hm2]
        replace hm2 := Lib.hid hm2
        simp only [rN, rL, rC] at hO3 ⊢
        refine rg_nil (ek_next (wk_cond_f rfl (wk_skip (ek_next (wk_seq ?_)))))
        refine wk_region [0, 0, 1, 0, 0] rfl Kx ?_
        simp only [qy]
        refine rf_loadR (n := 2) rfl rfl rfl Try.underlying38 rfl Kx (fun w hw => Kn.hd0 (Kn.tlU (Kn.tl hw))) rfl rfl ?_
        simp only [qz]
        refine rf_loadR (n := 2) rfl rfl rfl Try.underlying38 rfl Kx (fun w hw => Kn.hd0 hw) rfl rfl ?_
        simp only [qz]
        apply rg_pure Rx Kx
        case hargs => exact Ax
        case h => exact fun w hw => rSameQ_any (n.toNat : Int) l1 l2 va1 va3 vc1 vc3 Ox Ox w (hO1.asM (hw.perm ((((((((List.Perm.refl _).cons _).trans (List.perm_middle (l₁ := u1)).symm).append_left _).trans (List.perm_append_comm_assoc u3 u1 _)).cons _).trans (List.perm_middle (l₁ := u1)).symm).trans ((List.Perm.refl _).append_left _)))) (hO3.asM (hw.perm (perm_atU (l := [_]) (u := u3) (List.Perm.refl _))))
        case hz => exact Nz
        simp only [qz]
        refine rg_assign ?_
        simp only [qz]
        refine rg_assign ?_
        simp only [qz]
        refine rg_nil (ek_next (wk_ret ?_))
        refine ek_ret (fun w hw => ⟨rfl, _, res_tt _ _ rfl, ?_⟩)
        (try simp only [qz])
        exact ⟨by rw [eqR_5 hx1.out hx2.out hm1.out hm2.out], hw.below⟩
      (try simp only [qd, ne_eq] at h5)
      simp only [qz]
      obtain ⟨cc, hm2⟩ := rC_err (r := matO n ys) (by simpa using h5)
      refine rg_nil (ek_next (wk_cond_t rfl (wk_seq ?_)))
      refine wk_region [0, 0, 0] rfl Kx ?_
      simp only [qy]
      refine rg_move ?_
      simp only [qz]
      refine rg_assign ?_
      simp only [qz]
      refine rg_assign ?_
      simp only [qz]
      refine rg_nil (ek_next (wk_ret (ek_then_ret ?_)))
      refine ek_ret (fun w hw => ⟨rfl, _, res_tt _ _ rfl, ?_⟩)
      (try simp only [qz])
      exact ⟨by rw [eqR_4 hx1.out hx2.out hm1.out hm2, hm2]; rfl, hw.below⟩
    (try simp only [qd, ne_eq] at h4)
    simp only [qz]
    obtain ⟨cc, hm1⟩ := rC_err (r := matO n xs) (by simpa using h4)
    refine rg_nil (ek_next (wk_cond_t rfl (wk_seq ?_)))
    refine wk_region [0, 0, 0] rfl Kx ?_
    simp only [qy]
    refine rg_move ?_
    simp only [qz]
    refine rg_assign ?_
    simp only [qz]
    refine rg_assign ?_
    simp only [qz]
    refine rg_nil (ek_next (wk_ret (ek_then_ret ?_)))
    refine ek_ret (fun w hw => ⟨rfl, _, res_tt _ _ rfl, ?_⟩)
    (try simp only [qz])
    exact ⟨by rw [eqR_3 hx1.out hx2.out hm1, hm1]; rfl, hw.below⟩
  (try simp only [qd, ne_eq] at h3)
  simp only [qz]
  have hx2 : itemE n ys ≠ 0 := by simpa using h3
  replace hx2 := Lib.hid hx2
  clear h3
  refine rg_nil (ek_next (wk_cond_t rfl (wk_seq ?_)))
  refine wk_region [0, 0, 0] rfl Kx ?_
  simp only [qy]
  refine rg_move ?_
  simp only [qz]
  refine rg_assign ?_
  simp only [qz]
  refine rg_assign ?_
  simp only [qz]
  refine rg_nil (ek_next (wk_ret (ek_then_ret ?_)))
  refine ek_ret (fun w hw => ⟨rfl, _, res_tt _ _ rfl, ?_⟩)
  (try simp only [qz])
  exact ⟨by rw [eqR_2 hx1.out hx2.out], hw.below⟩

set_option maxRecDepth 100000 in
set_option maxHeartbeats 1000000 in
theorem synthEquals_any (n : Int) (xs ys : List It) (a a' : Option Addr) (c c' : Nat) (w : World) (hA : AS w a (its xs)) (hB : AS w a' (its ys)) : Calls Try.prog 7 #[.int .i64 n, .slice a xs.length c, .slice a' ys.length c'] w fun e w' => e = .returned (.bool true) ∧ Below w.heap.size w w' := by
  obtain ⟨vb, vc, hV⟩ := eqR_two n xs ys
  replace hV := Lib.hid hV
  go_enter Try.func7, Try.ntmps7
  refine wk_start ?_
  refine wk_seq ?_
  refine wk_region [0] rfl Kx ?_
  simp only [qy]
  refine rg_assign ?_
  simp only [qz]
  refine rg_nil (ek_next (wk_seq (wk_seq ?_)))
  refine wk_region [0, 0, 0, 0, 0, 0, 0, 0] rfl Kx ?_
  simp only [qy]
  refine rg_move ?_
  simp only [qz]
  refine rf_len rfl rfl rfl Try.underlying32 ?_
  simp only [qz]
  refine rfb_gtr rfl rfl rfl rfl ?_
  intro x h1
  cases x
  · (try simp only [qd, ne_eq] at h1)
    simp only [qz]
    refine rg_move ?_
    simp only [qz]
    apply rg_soft_g
    case hg => rfl
    case hy => (intro w hw; go_simp; (try go_bits); exact Yld.mk _ _)
    simp only [qz]
    refine rf_len rfl rfl rfl Try.underlying32 ?_
    simp only [qz]
    refine rfb_gtr rfl rfl rfl rfl ?_
    intro x h2
    cases x
    · (try simp only [qd, ne_eq] at h2)
      simp only [qz]
      refine rf_pick rfl rfl rfl ?_
      simp only [qz]
      refine rg_nil (ek_next (wk_cond_f rfl (wk_skip (ek_next (wk_seq ?_)))))
      refine wk_region [0, 0, 0, 1, 0, 0, 0, 0, 0] rfl Kx ?_
      simp only [qy]
      refine rg_move ?_
      simp only [qz]
      refine rg_move ?_
      simp only [qz]
      refine rg_move ?_
      simp only [qz]
      apply rg_pure Rx Kx
      case hargs => exact Ax
      case h => exact fun w hw => by have := mequal_any n xs ys a a' c c' w (hA.kn0 hw) (hB.kn0 hw); rw [hV.out] at this; exact this
      case hz => exact Nz
      simp only [qz]
      refine rg_move ?_
      simp only [qz]
      refine rf_extract rfl rfl rfl rfl ?_
      simp only [qz]
      refine rf_extract rfl rfl rfl rfl ?_
      simp only [qz]
      refine rg_assign ?_
      simp only [qz]
      refine rg_assign ?_
      simp only [qz]
      refine rg_nil (ek_next (wk_seq ?_))
      refine wk_region [0, 0, 0, 1, 0, 0, 0, 0, 0] rfl Kx ?_
      simp only [qy]
      refine rg_move ?_
      simp only [qz]
      refine rg_move ?_
      simp only [qz]
      refine rg_move ?_
      simp only [qz]
      apply rg_pure Rx Kx
      case hargs => exact Ax
      case h => exact fun w hw => by have := requal_any n xs ys a a' c c' w (hA.kn0 hw) (hB.kn0 hw); rw [hV.out] at this; exact this
      case hz => exact Nz
      simp only [qz]
      refine rg_move ?_
      simp only [qz]
      refine rf_extract rfl rfl rfl rfl ?_
      simp only [qz]
      refine rf_extract rfl rfl rfl rfl ?_
      simp only [qz]
      refine rg_assign ?_
      simp only [qz]
      refine rg_assign ?_
      simp only [qz]
      refine rg_nil (ek_next (wk_seq ?_))
      refine wk_region [0, 0, 0, 0, 0, 0, 0, 0, 0, 1, 0, 0] rfl Kx ?_
      simp only [qy]
      refine rg_move ?_
      simp only [qz]
      refine rg_move ?_
      simp only [qz]
      apply rg_softb
      case hy => (intro w hw; go_simp; (try go_bits); exact Yld.mk _ _)
      intro x h3
      obtain rfl : x = true := by (refine h3.symm.trans ?_; first | rfl | exact decide_eq_true Ox | exact beq_iff_eq.2 Ox | exact bne_iff_ne.2 Ox | (simp; omega) | (simp; done))
      clear h3
      simp only [qz]
      refine rg_move ?_
      simp only [qz]
      apply rg_soft_g
      case hg => rfl
      case hy => (intro w hw; go_simp; (try go_bits); exact Yld.mk _ _)
      simp only [qz]
      apply rg_soft_g
      case hg => rfl
      case hy => (intro w hw; go_simp; (try go_bits); exact Yld.mk _ _)
      simp only [qz]
      refine rfb_eql rfl rfl rfl rfl ?_
      intro x h4
      obtain rfl : x = true := by (refine h4.symm.trans ?_; exact decide_eq_true Ox)
      clear h4
      simp only [qz]
      refine rf_pick rfl rfl rfl ?_
      simp only [qz]
      refine rg_move ?_
      simp only [qz]
      apply rg_pure Rx Kx
      case hargs => exact Ax
      case h => exact fun w hw => sane_any w
      case hz => exact Nz
      simp only [qz]
      refine rf_pick rfl rfl rfl ?_
      simp only [qz]
      refine rg_assign ?_
      simp only [qz]
      refine rg_nil (ek_next (wk_ret ?_))
      refine ek_ret (fun w hw => ⟨rfl, _, res_t _ rfl, ?_⟩)
      (try simp only [qz])
      first | exact ⟨rfl, hw.below⟩ | exact ⟨trivial, hw.below⟩ | exact hw.below
    (try simp only [qd, ne_eq] at h2)
    simp only [qz]
    refine rf_pick rfl rfl rfl ?_
    simp only [qz]
    refine rg_nil (ek_next (wk_cond_t rfl (wk_seq ?_)))
    refine wk_region [1, 0] rfl Kx ?_
    simp only [qy]
    apply rg_pure Rx Kx
    case hargs => exact Ax
    case h => exact fun w hw => sane_any w
    case hz => exact Nz
    simp only [qz]
    refine rg_assign ?_
    simp only [qz]
    refine rg_nil (ek_next (wk_ret (ek_then_ret ?_)))
    refine ek_ret (fun w hw => ⟨rfl, _, res_t _ rfl, ?_⟩)
    (try simp only [qz])
    first | exact ⟨rfl, hw.below⟩ | exact ⟨trivial, hw.below⟩ | exact hw.below
  (try simp only [qd, ne_eq] at h1)
  simp only [qz]
  refine rg_move ?_
  simp only [qz]
  refine rg_skip Rx ?_
  simp only [qz]
  refine rg_skip Rx ?_
  simp only [qz]
  refine rg_skip Rx ?_
  simp only [qz]
  refine rf_pick rfl rfl rfl ?_
  simp only [qz]
  refine rg_nil (ek_next (wk_cond_t rfl (wk_seq ?_)))
  refine wk_region [1, 0] rfl Kx ?_
  simp only [qy]
  apply rg_pure Rx Kx
  case hargs => exact Ax
  case h => exact fun w hw => sane_any w
  case hz => exact Nz
  simp only [qz]
  refine rg_assign ?_
  simp only [qz]
  refine rg_nil (ek_next (wk_ret (ek_then_ret ?_)))
  refine ek_ret (fun w hw => ⟨rfl, _, res_t _ rfl, ?_⟩)
  (try simp only [qz])
  first | exact ⟨rfl, hw.below⟩ | exact ⟨trivial, hw.below⟩ | exact hw.below

end Go.Proofs.Ytccbinnlnkpplaa
namespace Go.Proofs.Ytccbinnlnkpplaa
set_option linter.all false
open Go.ChangeShapes Go.WideShapes Go.ChangeAt Go.RowKit

theorem its_of_each {Q : Nat → It → Prop} : ∀ n : Nat, (∀ i, i < n → ∃ x, Q i x) → ∃ xs : List It, xs.length = n ∧ ∀ i, i < n → Q i (it xs i)
  | 0, _ => ⟨[], rfl, fun i hi => by omega⟩
  | n + 1, h => by
    obtain ⟨xs, hl, hx⟩ := its_of_each n fun i hi => h i (by omega)
    obtain ⟨x, hq⟩ := h n (by omega)
    refine ⟨xs ++ [x], by simp [hl], fun i hi => ?_⟩
    by_cases e : i = n
    · subst e
      have : it (xs ++ [x]) i = x := by unfold it; rw [List.getD_eq_getElem?_getD, ← hl]; simp
      rw [this]; exact hq
    · have : it (xs ++ [x]) i = it xs i := by unfold it; rw [List.getD_eq_getElem?_getD, List.getD_eq_getElem?_getD, List.getElem?_append_left (by omega)]
      rw [this]; exact hx i (by omega)
theorem cellsIT : Try.prog.cellsOf 80 = 4 := by kernel_rfl
theorem cellsInt : Try.prog.cellsOf 3 = 1 := by kernel_rfl
theorem cellsStr : Try.prog.cellsOf 9 = 1 := by kernel_rfl
def ItWf (i : It) : Prop := (Lit.int .i64 i.kind).wf = true ∧ (Lit.int .i64 i.at_).wf = true ∧ (Lit.int .i64 i.n).wf = true ∧ i.name.size ≤ maxLen
set_option maxRecDepth 100000 in
theorem open_asT {H : Type} {enc : TypeId × Value → H} {W : World} {base : Nat} {v : Value} {d : DataW H} {p : List MemPlace}
    (hval : Value.okWide Try.prog W .any base 32 v) (h : DataW.Trod enc Try.prog W 0 (fun _ => true) true 32 v d p) (hlt : ∀ x ∈ p, x.block < W.heap.size) :
    ∃ (xs : List It) (a : Option Addr) (c : Nat), v = .slice a xs.length c ∧ AS W a (its xs) ∧ (∀ x ∈ xs, ItWf x) ∧ xs.length ≤ maxLen := by
  obtain ⟨a0, len, cap, rfl⟩ := okWide_slice Try.underlying32 hval
  obtain ⟨fuel, hf⟩ := h
  rcases Go.Deep.open_slice Try.underlying32 hf with ⟨hcs, hx⟩ | ⟨a, len', cap', m, n, D, Pl, hcs, _, hl, hm, hmm, hx, hel⟩
  · simp [Value.cells] at hcs
    obtain ⟨rfl, rfl, rfl⟩ := hcs
    exact ⟨[], none, 0, rfl, AS.nil, by simp, by simp⟩
  · simp [Value.cells] at hcs
    obtain ⟨rfl, rfl, rfl⟩ := hcs
    simp only [Prod.mk.injEq] at hx
    obtain ⟨rfl, rfl⟩ := hx
    simp only [if_true] at hmm
    subst hmm
    have each : ∀ i, i < len → ∃ x : It, (∀ r, r < 4 → W.cell? ((a.add (i * 4)).add r) = (itC x)[r]?) ∧ ItWf x := by
      intro i hi
      obtain ⟨cs', h1, h2⟩ := hel i (by omega)
      rw [cellsIT] at h1
      obtain ⟨_, hlen, hcell⟩ := World.cells?_some h1
      obtain ⟨y0, y1, y2, y3, k, _, hl4, t0, t1, t2, t3⟩ := Go.Joins.trod_struct4 Try.underlying80 h2
      match cs', hlen with
      | [v0, v1, v2, v3], _ =>
        simp only [cellsInt, cellsStr, List.drop_succ_cons, List.drop_zero, List.take_succ_cons, List.take_zero] at t0 t1 t2 t3
        obtain ⟨n0, e0, -, w0⟩ := DataW.trod_int Try.underlying3 t0
        obtain ⟨n1, e1, -, w1⟩ := DataW.trod_int Try.underlying3 t1
        obtain ⟨n2, e2, -, w2⟩ := DataW.trod_int Try.underlying3 t2
        obtain ⟨s3, e3, -, w3⟩ := DataW.trod_string Try.underlying9 t3
        simp only [List.cons.injEq, and_true] at e0 e1 e2 e3
        subst e0 e1 e2 e3
        exact ⟨⟨n0, n1, n2, s3⟩, fun r hr => hcell r hr, w0, w1, w2, w3⟩
    obtain ⟨xs, hxl, hxx⟩ := its_of_each len each
    subst hxl
    refine ⟨xs, some a, _, rfl, fun hne => ?_, fun x hx => ?_, by omega⟩
    · have h0 : 0 < xs.length := by
        rcases Nat.eq_zero_or_pos xs.length with h0 | h0
        · have := List.eq_nil_of_length_eq_zero h0; subst this; exact absurd rfl hne
        · exact h0
      obtain ⟨b, off, spot⟩ := a
      have hspot : spot = none := by
        have h1 := (hxx 0 h0).1 0 (by omega)
        have h2 : W.cell? (((⟨b, off, spot⟩ : Addr).add (0 * 4)).add 0) = some (.int .i64 (it xs 0).kind) := h1
        simpa [Addr.add] using World.cell?_spot h2
      subst hspot
      refine ⟨b, off, rfl, hlt (.cell b off) (List.mem_append_left _ (MemPlace.mem_row.2 ⟨0, by rw [cellsIT]; omega, by simp⟩)), fun j hj => ?_⟩
      rw [its_len] at hj
      have h1 := (hxx (j / 4) (by omega)).1 (j % 4) (Nat.mod_lt _ (by omega))
      have h2 := its_get xs (j / 4) (j % 4) (by omega) (Nat.mod_lt _ (by omega))
      have e : j / 4 * 4 + j % 4 = j := by omega
      rw [e] at h2
      rw [h2, ← h1]
      have e2 : ((⟨b, off, none⟩ : Addr).add (j / 4 * 4)).add (j % 4) = ⟨b, off + j, none⟩ := by
        have ap : ∀ o i : Nat, (⟨b, o, none⟩ : Addr).add i = ⟨b, o + i, none⟩ := fun o i => by simp [Addr.add]
        rw [ap, ap, show off + j / 4 * 4 + j % 4 = off + j by omega]
      rw [e2]
    · obtain ⟨j, hj, e⟩ := List.getElem_of_mem hx
      have : it xs j = x := by unfold it; rw [List.getD_eq_getElem?_getD, List.getElem?_eq_getElem hj]; exact e
      rw [← this]; exact (hxx j hj).2
end Go.Proofs.Ytccbinnlnkpplaa
