/- Lists of whole numbers that the call owns. -/
import Derived.Test.YtccbinnlnkpplaaSq
import Derived.Test.YtccbinnlnkpplaaMg
namespace Go.Proofs.Ytccbinnlnkpplaa
set_option linter.all false
open Go.RowKit

abbrev zs (xs : List Int) : List Value := xs.map (.int .i64 ·)
theorem zInfo : (Try.prog.info? 3).map (fun i => (i.zero, i.size, i.bytes)) = some (some (.int .i64 0), 1, 8) := by kernel_rfl
def OwnZ (u : List Blk) (v : Value) (xs : List Int) : Prop := Own 3 1 u v xs.length (zs xs)
theorem OwnZ.one {g : Nat} (x : Int) : OwnZ [(g, .cells #[.int .i64 x] 3)] (.slice (some ⟨g, 0, none⟩) 1 1) [x] :=
  Own.whole (cur := #[.int .i64 x]) rfl (by simp only [maxLen]; omega)
theorem OwnZ.addr {u : List Blk} {av : Option Addr} {n c : Nat} {row : List Int} (h : OwnZ u (.slice av n c) row) (hn : 0 < row.length) : ∃ ad, av = some ad ∧ ∀ {B w : World} {F : List Nat} {s : List Blk}, Kn B F s w → u.Sublist s → AS w (some ad) (zs row) := by
  rcases h.2 with ⟨_, e, h0⟩ | ⟨g, cap, cur, _, e, _⟩
  · omega
  · cases e
    refine ⟨_, rfl, fun K hs => ?_⟩
    obtain ⟨a, cap, e, hA⟩ := Own.as (s := []) h (by rw [List.append_nil]; exact K.sub hs)
    cases e
    exact hA
theorem Own.open1 {e n : Nat} {u : List Blk} {v : Value} {xs : List Value} (h : Own e 1 u v n xs) (hn : 0 < n) : ∃ g cap rest, u = [(g, .cells (xs ++ rest).toArray e)] ∧ v = .slice (some ⟨g, 0, none⟩) n cap ∧ xs.length = n := by
  obtain ⟨hl, ⟨rfl, rfl, h0⟩ | ⟨g, cap, cur, rfl, rfl, hc, hm, hs, ht⟩⟩ := h
  · omega
  · refine ⟨g, cap, cur.toList.drop (n * 1), ?_, rfl, by omega⟩
    rw [← ht, List.take_append_drop]
end Go.Proofs.Ytccbinnlnkpplaa
