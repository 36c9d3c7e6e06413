/- Sums of eighths of a turn with coefficients of 384 bits, as functions of the index. -/
import Derived.Test.YtjeijnjaleldkaaSq
import Derived.Test.YtjeijnjaleldkaaWs1
import Derived.Test.YtjeijnjaleldkaaWtP
import Derived.Test.YtjeijnjaleldkaaXi
namespace Go.Proofs.Ytjeijnjaleldkaa
set_option linter.all false
open Go.RowKit
abbrev w6L (x : W6) : List Value := [.int .u64 x.w0, .int .u64 x.w1, .int .u64 x.w2, .int .u64 x.w3, .int .u64 x.w4, .int .u64 x.w5]
def smC (T : Nat → Int) : Array Value := (w6L (W6.of (T 0)) ++ (w6L (W6.of (T 1)) ++ (w6L (W6.of (T 2)) ++ w6L (W6.of (T 3))))).toArray
theorem sm_row {w : World} {g t m : Nat} {T : Nat → Int} (h : Hd w g t (smC T)) (hm : m < 4) : w.rangeAt g (0 + m * 6) (w6L (W6.of (T m))) := by
  have := cells_range h (0 + m * 6) 6
  have e : ((smC T).toList.drop (0 + m * 6)).take 6 = w6L (W6.of (T m)) := by
    rcases lt4 hm with rfl | rfl | rfl | rfl <;> rfl
  rwa [e] at this
theorem sm_idx {m : Nat} {T : Nat → Int} (hm : m < 4) : (smC T).extract (m * 6) (m * 6 + 6) = (w6L (W6.of (T m))).toArray := by
  rcases lt4 hm with rfl | rfl | rfl | rfl <;> rfl
theorem smX0 (x0 x1 x2 x3 y : W6) : setMany (w6L x0 ++ (w6L x1 ++ (w6L x2 ++ w6L x3))).toArray 0 (w6L y) = (w6L y ++ (w6L x1 ++ (w6L x2 ++ w6L x3))).toArray := by kernel_rfl
theorem smX1 (x0 x1 x2 x3 y : W6) : setMany (w6L x0 ++ (w6L x1 ++ (w6L x2 ++ w6L x3))).toArray 6 (w6L y) = (w6L x0 ++ (w6L y ++ (w6L x2 ++ w6L x3))).toArray := by kernel_rfl
theorem smX2 (x0 x1 x2 x3 y : W6) : setMany (w6L x0 ++ (w6L x1 ++ (w6L x2 ++ w6L x3))).toArray 12 (w6L y) = (w6L x0 ++ (w6L x1 ++ (w6L y ++ w6L x3))).toArray := by kernel_rfl
theorem smX3 (x0 x1 x2 x3 y : W6) : setMany (w6L x0 ++ (w6L x1 ++ (w6L x2 ++ w6L x3))).toArray 18 (w6L y) = (w6L x0 ++ (w6L x1 ++ (w6L x2 ++ w6L y))).toArray := by kernel_rfl
theorem sm_set {m : Nat} {T : Nat → Int} {t : Int} (hm : m < 4) : setMany (smC T) (0 + m * 6) (w6L (W6.of t)) = smC (upd T m t) := by
  unfold smC
  rcases lt4 hm with rfl | rfl | rfl | rfl
  · rw [upd_same, upd_other T t (show 1 ≠ 0 by decide), upd_other T t (show 2 ≠ 0 by decide), upd_other T t (show 3 ≠ 0 by decide)]; exact smX0 ..
  · rw [upd_same, upd_other T t (show 0 ≠ 1 by decide), upd_other T t (show 2 ≠ 1 by decide), upd_other T t (show 3 ≠ 1 by decide)]; exact smX1 ..
  · rw [upd_same, upd_other T t (show 0 ≠ 2 by decide), upd_other T t (show 1 ≠ 2 by decide), upd_other T t (show 3 ≠ 2 by decide)]; exact smX2 ..
  rw [upd_same, upd_other T t (show 0 ≠ 3 by decide), upd_other T t (show 1 ≠ 3 by decide), upd_other T t (show 2 ≠ 3 by decide)]; exact smX3 ..
theorem sm_set' {m : Nat} {T : Nat → Int} {t : Int} (hm : m < 4) : ((((((smC T).setIfInBounds (0 + m * 6) (.int .u64 (W6.of t).w0)).setIfInBounds (0 + m * 6 + 1) (.int .u64 (W6.of t).w1)).setIfInBounds (0 + m * 6 + 1 + 1) (.int .u64 (W6.of t).w2)).setIfInBounds (0 + m * 6 + 1 + 1 + 1) (.int .u64 (W6.of t).w3)).setIfInBounds
    (0 + m * 6 + 1 + 1 + 1 + 1) (.int .u64 (W6.of t).w4)).setIfInBounds (0 + m * 6 + 1 + 1 + 1 + 1 + 1) (.int .u64 (W6.of t).w5) = smC (upd T m t) := by rw [← sm_set hm]; simp only [setMany]
theorem sm_size {T : Nat → Int} : (smC T).size = 24 := rfl
theorem w6_zero : W6.of 0 = ⟨0, 0, 0, 0, 0, 0⟩ := by decide
theorem sm_zero : (#[.int .u64 0, .int .u64 0, .int .u64 0, .int .u64 0, .int .u64 0, .int .u64 0, .int .u64 0, .int .u64 0, .int .u64 0, .int .u64 0, .int .u64 0, .int .u64 0, .int .u64 0, .int .u64 0, .int .u64 0, .int .u64 0, .int .u64 0, .int .u64 0, .int .u64 0, .int .u64 0, .int .u64 0, .int .u64 0, .int .u64 0, .int .u64 0] : Array Value) = smC (fun _ => 0) := by
  unfold smC
  rw [w6_zero]
  rfl
theorem sm_all {w : World} {g t : Nat} {T : Nat → Int} (h : Hd w g t (smC T)) : w.rangeAt g 0 (smC T).toList := by
  have := cells_range h 0 24
  have e : ((smC T).toList.drop 0).take 24 = (smC T).toList := rfl
  rwa [e] at this
theorem acc_congr {X X' Y Y' : Nat → Int} (hX : ∀ i, i < 4 → X i = X' i) (hY : ∀ i, i < 4 → Y i = Y' i) : ∀ n m, n ≤ 16 → acc X Y n m = acc X' Y' n m
  | 0, m, _ => rfl
  | n + 1, m, h => by
    simp only [acc]
    rw [acc_congr hX hY n m Ox, hX (n / 4) Ox, hY (n % 4) Ox]
/-- The cells are given by the four values. -/
theorem smC_congr {T T' : Nat → Int} (h : ∀ m, m < 4 → T m = T' m) : smC T = smC T' := by
  unfold smC
  rw [h 0 (by decide), h 1 (by decide), h 2 (by decide), h 3 (by decide)]
end Go.Proofs.Ytjeijnjaleldkaa
