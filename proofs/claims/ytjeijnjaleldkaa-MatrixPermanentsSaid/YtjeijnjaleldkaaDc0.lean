/- The document: zeros; lists of numbers that are filled. -/
import Derived.Test.YtjeijnjaleldkaaSq
import Derived.Test.YtjeijnjaleldkaaMt2a
import Derived.Test.YtjeijnjaleldkaaRo
import Derived.Test.YtjeijnjaleldkaaMx1
namespace Go.Proofs.Ytjeijnjaleldkaa
set_option linter.all false
open Go.RowKit

theorem nm_fl (xs : List Nm) (k : Nat) (y : Nm) (hk : k < xs.length) : setMany (NmE.flat xs ++ []).toArray (0 + k * 5) (nmC y) = (NmE.flat (xs.set k y) ++ []).toArray := fl_set (E := NmE) (rest := []) hk
theorem nm_sz (xs : List Nm) (k : Nat) (y : Nm) (hk : k < xs.length) : 0 + k * 5 + (nmC y).length ≤ (NmE.flat xs ++ []).toArray.size := fl_size (E := NmE) (rest := []) (y := y) hk
theorem fill_set (l : List Nm) (m k : Nat) (z : Nm) (h : l.length = k) : (l ++ List.replicate (m + 1) Nm.zero).set k z = (l ++ [z]) ++ List.replicate m Nm.zero := by
  subst h
  rw [List.set_append_right _ _ (Nat.le_refl _), Nat.sub_self, List.replicate_succ, List.set_cons_zero, List.append_assoc]
  rfl
theorem ownN_fl {g n : Nat} {l : List Nm} (h : l.length = n) (hn : n ≤ 100000) : OwnN [(g, .cells (NmE.flat l ++ []).toArray 29)] (.slice (some ⟨g, 0, none⟩) n n) l := by
  subst h
  have e : (NmE.flat l ++ []).toArray.toList = NmE.flat l := by simp
  have := Own.whole (e := 29) (size := 5) (g := g) (n := l.length) (cur := (NmE.flat l ++ []).toArray) (by simp [El.flat_len]) (by simp only [maxLen]; omega)
  rwa [e] at this
theorem madeN (n : Nat) : madeCells #[.int .i64 0, .int .i64 0, .int .i64 0, .int .i64 0, .int .i64 0] (n * 5) = (NmE.flat (List.replicate n Nm.zero) ++ []).toArray := by
  rw [List.append_nil, ← made_fl (E := NmE) Nm.zero n]
  rfl
set_option maxRecDepth 100000 in
set_option maxHeartbeats 1000000 in
theorem zeros_any (N : Nat) (hN : N ≤ 6) (w : World) : Calls Try.prog 72 #[.int .i64 (N : Int)] w fun e w' => ∃ g, e = .returned (.agg #[.int .i64 N, .slice (some ⟨g, 0, none⟩) (N * N) (N * N)]) ∧ Made w [(g, .cells (NmE.flat (List.replicate (N * N) Nm.zero) ++ []).toArray 29)] w' := by
  have hN2 := Nat.mul_le_mul hN hN
  go_enter Try.func72, Try.ntmps72
  refine wk_start ?_
  refine wk_seq ?_
  refine wk_region [1] rfl Kx ?_
  simp only [qy]
  refine Rgn fun g1 => ?_
  simp only [qz]
  refine rg_nil (ek_next (wk_seq ?_))
  refine wk_region [0, 0, 0, 0, 1, 0, 1] rfl Kx ?_
  simp only [qy]
  refine rg_move ?_
  simp only [qz]
  refine rg_move ?_
  simp only [qz]
  refine rg_move ?_
  simp only [qz]
  refine rf_mul (r := ((N * N : Nat) : Int)) rfl rfl rfl rfl (wrap_eqB (Int.natCast_mul N N).symm Ox Ox) ?_
  simp only [qz]
  obtain ⟨iN, hiN, hzN, hsN, hbN⟩ := info_partsN numInfo
  refine rg_make (n := N * N) (i := iN) Rx Try.underlying22 hiN hzN rfl rfl (by rw [hbN]; omega) Ox Nz (fun gz2 => ?_)
  rw [hsN, show (Value.agg #[.int .i64 0, .int .i64 0, .int .i64 0, .int .i64 0, .int .i64 0]).cells = #[.int .i64 0, .int .i64 0, .int .i64 0, .int .i64 0, .int .i64 0] from rfl, madeN]
  simp only [qz]
  refine rf_build (cs := fun a => #[a.eval (.tmp 3), a.eval (.tmp 7)]) rfl rfl Kx ?_
  simp only [qz]
  refine rf_storeR (n := 2) rfl rfl Kx rfl rfl (UpdR.there _ (UpdR.here _ _ _ Nl)) Nz ?_
  simp only [qz, Nat.reduceAdd]
  refine rg_nil (ek_next (wk_ret ?_))
  refine ek_ret (fun w hw => ⟨rfl, _, run_results1 rfl rfl (Kn.hd0 (Kn.tl hw)) Try.underlying24 rfl Kx, ?_⟩)
  (try simp only [qz])
  exact ⟨_, rfl, hw.made (List.Sublist.cons₂ _ (List.Sublist.cons _ (List.Sublist.refl _)))⟩

end Go.Proofs.Ytjeijnjaleldkaa
