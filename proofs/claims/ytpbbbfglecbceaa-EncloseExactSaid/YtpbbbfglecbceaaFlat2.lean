/- Arguments that are spans or two-ports. -/
import Derived.Test.YtpbbbfglecbceaaFlat
namespace Go.Proofs.Ytpbbbfglecbceaa
set_option linter.all false
open Go.ChangeShapes Go.WideShapes Go.ChangeAt Go.RowKit

theorem cells_list {cs : Array Value} {n : Nat} (h : cs.size = n) (k : ∀ (i : Nat) (v : Value), cs[i]? = some v → ∃ m : Int, v = Value.int .i64 m) : ∃ l : List Int, l.length = n ∧ cs = (l.map (Value.int .i64)).toArray := by
  have g : ∀ v, v ∈ cs.toList → ∃ m : Int, v = Value.int .i64 m := fun v hv => by
    obtain ⟨i, hi, rfl⟩ := List.getElem_of_mem hv
    exact k i cs.toList[i] (by rw [← Array.getElem?_toList]; exact List.getElem?_eq_getElem hi)
  have : ∀ (vs : List Value), (∀ v, v ∈ vs → ∃ m : Int, v = Value.int .i64 m) → ∃ l : List Int, vs = l.map (Value.int .i64)
  := by
    intro vs
    induction vs with
    | nil => intro _; exact ⟨[], rfl⟩
    | cons v vs ih =>
      intro h
      obtain ⟨m, rfl⟩ := h v (by simp)
      obtain ⟨l, rfl⟩ := ih (fun u hu => h u (by simp [hu]))
      exact ⟨m :: l, rfl⟩
  obtain ⟨l, hl⟩ := this cs.toList g
  refine ⟨l, ?_, ?_⟩
  · have := congrArg List.length hl
    simpa [h] using this.symm
  · rw [← hl]

theorem open_span {w : World} {r : Reach} {b0 : Nat} {v : Value} (h : Value.okWide Try.prog w r b0 23 v) : ∃ x : En.Sp, v = spV x := by
  simp only [Value.okWide, Try.underlying23] at h
  obtain ⟨cs, rfl, hs, hr⟩ := h
  have hs' : cs.size = 2 := hs.trans (by kernel_rfl)
  have k := row_ints (u := 3) (m := 2) (by kernel_rfl) Try.underlying3 hr
  obtain ⟨l, hl, rfl⟩ := cells_list hs' k
  match l, hl with
  | [a, b], _ => exact ⟨⟨a, b⟩, rfl⟩

abbrev ptC (p : En.Pt) : Array Value := #[.int .i64 p.s00.re.lo, .int .i64 p.s00.re.hi, .int .i64 p.s00.im.lo, .int .i64 p.s00.im.hi, .int .i64 p.s01.re.lo, .int .i64 p.s01.re.hi, .int .i64 p.s01.im.lo, .int .i64 p.s01.im.hi,
  .int .i64 p.s10.re.lo, .int .i64 p.s10.re.hi, .int .i64 p.s10.im.lo, .int .i64 p.s10.im.hi, .int .i64 p.s11.re.lo, .int .i64 p.s11.re.hi, .int .i64 p.s11.im.lo, .int .i64 p.s11.im.hi]
abbrev ptV (p : En.Pt) : Value := .agg (ptC p)
theorem open_port {w : World} {r : Reach} {b0 : Nat} {v : Value} (h : Value.okWide Try.prog w r b0 49 v) : ∃ x : En.Pt, v = ptV x := by
  simp only [Value.okWide, Try.underlying49] at h
  obtain ⟨cs, rfl, hs, hr⟩ := h
  have hs' : cs.size = 16 := hs.trans (by kernel_rfl)
  have k := row_ints (u := 3) (m := 16) (by kernel_rfl) Try.underlying3 hr
  obtain ⟨l, hl, rfl⟩ := cells_list hs' k
  match l, hl with
  | [a0, a1, a2, a3, a4, a5, a6, a7, a8, a9, b0, b1, b2, b3, b4, b5], _ => exact ⟨⟨⟨⟨a0, a1⟩, ⟨a2, a3⟩⟩, ⟨⟨a4, a5⟩, ⟨a6, a7⟩⟩, ⟨⟨a8, a9⟩, ⟨b0, b1⟩⟩, ⟨⟨b2, b3⟩, ⟨b4, b5⟩⟩⟩, rfl⟩
end Go.Proofs.Ytpbbbfglecbceaa
