/- Package enclose: fractions and spans. -/
import Derived.Test.YtpbbbfglecbceaaDiv
import Derived.Test.YtpbbbfglecbceaaHd
import Derived.Test.YtpbbbfglecbceaaPl
namespace Go.Proofs.Ytpbbbfglecbceaa
set_option linter.all false
open Go.RowKit

abbrev nonev (c : Int) : List PanicEntry := [{ v := .iface 106 (.agg #[.int .i64 c]), recovered := false }]
/-- It returns f of the result, or panics with its error; nothing that was there has changed. -/
def Post {α : Type} (f : α → Value) (r : En.R α) (w : World) (e : Ending) (w' : World) : Prop :=
  Below w.heap.size w w' ∧ match r with
    | .ok s => e = .returned (f s)
    | .error c => e = .panicked (nonev c)
theorem Post.cases {α : Type} {f : α → Value} {r : En.R α} {w w' : World} {e : Ending} (h : Post f r w e w') :
    Below w.heap.size w w' ∧ ((∃ s, r = .ok s ∧ e = .returned (f s)) ∨ (∃ c, r = .error c ∧ e = .panicked (nonev c))) := by
  refine ⟨h.1, ?_⟩
  have h2 := h.2
  cases r with
  | ok s => exact .inl ⟨s, rfl, h2⟩
  | error c => exact .inr ⟨c, rfl, h2⟩
theorem post_ok {α : Type} {f : α → Value} {r : En.R α} {s : α} {w w' : World} (hr : r = .ok s) (hb : Below w.heap.size w w') : Post f r w (.returned (f s)) w' := by
  subst hr; exact ⟨hb, rfl⟩
theorem post_err {α : Type} {f : α → Value} {r : En.R α} {c : Int} {w w' : World} (hr : r = .error c) (hb : Below w.heap.size w w') : Post f r w (.panicked (nonev c)) w' := by
  subst hr; exact ⟨hb, rfl⟩
abbrev spV (s : En.Sp) : Value := .agg #[.int .i64 s.lo, .int .i64 s.hi]
abbrev frV (f : En.Fr) : Value := .agg #[.bool f.neg, .int .u64 f.hi, .int .u64 f.lo, .int .u64 f.c]

theorem valid_true (lo hi : Int) (h : En.okS lo hi = true) (w : World) :
    Calls Try.prog 25 #[.agg #[.int .i64 lo, .int .i64 hi]] w fun e w' => e = .returned (.bool true) ∧ Below w.heap.size w w' := by
  simp only [En.okS, Bool.and_eq_true, decide_eq_true_eq] at h
  obtain ⟨⟨h1, h2⟩, h3⟩ := h
  go_enter Try.func25, Try.ntmps25
  go_wp2
  go_ret
  exact ⟨rfl, by go_grown⟩

theorem valid_false (lo hi : Int) (h : En.okS lo hi = false) (w : World) :
    Calls Try.prog 25 #[.agg #[.int .i64 lo, .int .i64 hi]] w fun e w' => e = .returned (.bool false) ∧ Below w.heap.size w w' := by
  have h' : ¬ -1099511627776 ≤ lo ∨ (-1099511627776 ≤ lo ∧ ¬ lo ≤ hi) ∨ (-1099511627776 ≤ lo ∧ lo ≤ hi ∧ ¬ hi ≤ 1099511627776) := by
    simp only [En.okS, Bool.and_eq_false_iff, decide_eq_false_iff_not] at h
    omega
  clear h
  rcases h' with h | ⟨h1, h⟩ | ⟨h1, h2, h⟩
  all_goals
    go_enter Try.func25, Try.ntmps25
    go_wp2
    go_ret
    exact ⟨rfl, by go_grown⟩

theorem valid_any (lo hi : Int) (w : World) :
    Calls Try.prog 25 #[.agg #[.int .i64 lo, .int .i64 hi]] w fun e w' => e = .returned (.bool (En.okS lo hi)) ∧ Below w.heap.size w w' := by
  cases h : En.okS lo hi with
  | true => exact valid_true lo hi h w
  | false => exact valid_false lo hi h w

theorem span_any (lo hi : Int) (w : World) :
    Calls Try.prog 119 #[.int .i64 lo, .int .i64 hi] w (Post spV (En.span lo hi) w) := by
  cases h : En.okS lo hi with
  | true =>
    have hs : En.span lo hi = .ok ⟨lo, hi⟩ := by simp [En.span, h]
    rw [hs]
    go_enter Try.func119, Try.ntmps119
    go_wp2_with (go_at_call 25; refine (valid_true lo hi h _).mono ?_; rintro e w1 ⟨rfl, hb⟩; obtain ⟨hc, hf⟩ := bcell hb; have bw1 : Below w.heap.size w w1 := below_next (by go_grown) hb)
    have B1 : Hd w1 w.heap.size 23 #[.int .i64 0, .int .i64 0] := Hd.call (by (repeat' (first | (with_reducible assumption) | (with_reducible refine Hd.new ?_; (try simp only [World.size_alloc, World.size_setCell, World.size_drew]); done) | with_reducible refine Hd.alloc ?_ _ | with_reducible refine Hd.drew ?_ | with_reducible refine Hd.drewN ?_ _ | with_reducible apply Hd.set' | (with_reducible refine Hd.far ?_ ?_ _; rotate_left; (simp; try omega; done)) | exact (rfl : Array.setIfInBounds _ _ _ = _)))) hb
    refine bodyPost_ret (run_results1 rfl rfl (by (show Hd _ (w.heap.size) 23 #[.int .i64 lo, .int .i64 hi]); (repeat' (first | (with_reducible assumption) | (with_reducible refine Hd.new ?_; (try simp only [World.size_alloc, World.size_setCell, World.size_drew]); done) | with_reducible refine Hd.alloc ?_ _ | with_reducible refine Hd.drew ?_ | with_reducible refine Hd.drewN ?_ _ | with_reducible apply Hd.set' | (with_reducible refine Hd.far ?_ ?_ _; rotate_left; (simp; try omega; done)) | exact (rfl : Array.setIfInBounds _ _ _ = _)))) Try.underlying23 rfl (by kernel_rfl)) rfl (post_ok rfl (by go_grown))
  | false =>
    have hs : En.span lo hi = .error 4 := by simp [En.span, h]
    rw [hs]
    go_enter Try.func119, Try.ntmps119
    go_wp2_with (go_at_call 25; refine (valid_false lo hi h _).mono ?_; rintro e w1 ⟨rfl, hb⟩; obtain ⟨hc, hf⟩ := bcell hb; have bw1 : Below w.heap.size w w1 := below_next (by go_grown) hb)
    exact ⟨rfl, post_err rfl (by go_grown)⟩

end Go.Proofs.Ytpbbbfglecbceaa
