/- The document's spans: validity, and a span that is in range. -/
import Derived.Test.YtpbbbfglecbceaaBut
import Derived.Test.YtpbbbfglecbceaaRePl
namespace Go.Proofs.Ytpbbbfglecbceaa
set_option linter.all false
open Go.RowKit

theorem rvalid_true (lo hi : Int) (h : En.okS lo hi = true) (w : World) :
    Calls Try.prog 26 #[.agg #[.int .i64 lo, .int .i64 hi]] w fun e w' => e = .returned (.bool true) ∧ Below w.heap.size w w' := by
  simp only [En.okS, Bool.and_eq_true, decide_eq_true_eq] at h
  obtain ⟨⟨h1, h2⟩, h3⟩ := h
  go_enter Try.func26, Try.ntmps26
  go_wp2
  go_ret
  exact ⟨rfl, by go_grown⟩

theorem rvalid_false (lo hi : Int) (h : En.okS lo hi = false) (w : World) :
    Calls Try.prog 26 #[.agg #[.int .i64 lo, .int .i64 hi]] w fun e w' => e = .returned (.bool false) ∧ Below w.heap.size w w' := by
  have h' : ¬ lo ≤ hi ∨ (lo ≤ hi ∧ ¬ -1099511627776 ≤ lo) ∨ (lo ≤ hi ∧ -1099511627776 ≤ lo ∧ ¬ hi ≤ 1099511627776) := by
    simp only [En.okS, Bool.and_eq_false_iff, decide_eq_false_iff_not] at h
    omega
  clear h
  rcases h' with h | ⟨h1, h⟩ | ⟨h1, h2, h⟩
  all_goals
    go_enter Try.func26, Try.ntmps26
    go_wp2
    go_ret
    exact ⟨rfl, by go_grown⟩

theorem rvalid_any (lo hi : Int) (w : World) :
    Calls Try.prog 26 #[.agg #[.int .i64 lo, .int .i64 hi]] w fun e w' => e = .returned (.bool (En.okS lo hi)) ∧ Below w.heap.size w w' := by
  cases h : En.okS lo hi with
  | true => exact rvalid_true lo hi h w
  | false => exact rvalid_false lo hi h w

theorem rvalidRect_any (x : En.Rc) (w : World) : Calls Try.prog 82 #[rcV x] w fun e w' => e = .returned (.bool x.ok) ∧ Below w.heap.size w w' := by
  have CA := rvalid_any x.re.lo x.re.hi
  have CB := rvalid_any x.im.lo x.im.hi
  obtain ⟨a, ha⟩ : ∃ a, En.okS x.re.lo x.re.hi = a := ⟨_, rfl⟩
  obtain ⟨b, hb⟩ : ∃ b, En.okS x.im.lo x.im.hi = b := ⟨_, rfl⟩
  have hx : x.ok = (a && b) := by rw [← ha, ← hb]; rfl
  rw [hx]
  rw [ha] at CA
  rw [hb] at CB
  replace CA := Lib.hid CA
  replace CB := Lib.hid CB
  clear ha hb hx
  have HA : Hd (w.alloc (.cells #[.int .i64 x.re.lo, .int .i64 x.re.hi, .int .i64 x.im.lo, .int .i64 x.im.hi] 25)) w.heap.size 25 #[.int .i64 x.re.lo, .int .i64 x.re.hi, .int .i64 x.im.lo, .int .i64 x.im.hi] := by (with_reducible repeat' (first | assumption | (apply hdN; (try simp only [sA, sS, sD]); done) | apply hdA | apply hdD | apply hdS | (apply hdF; case hp => first | (simp; done) | (simp; omega)) | with_unfolding_all rfl))
  cases a
  · go_enter Try.func82, Try.ntmps82
    go_wp2_with (go_at_call_of 26 (x.re.lo); refine (CA.out _).mono ?_; rintro e w1 ⟨rfl, hb1⟩; have bw1 : Below w.heap.size w w1 := below_next (by go_grown) hb1; have HA1 := HA.call hb1; obtain ⟨hcA, hfA⟩ := HA1.facts)
    go_ret
    exact ⟨rfl, bw1⟩
  · cases b
    all_goals
      go_enter Try.func82, Try.ntmps82
      go_wp2_with (first | (go_at_call_of 26 (x.re.lo); refine (CA.out _).mono ?_; rintro e w1 ⟨rfl, hb1⟩; have bw1 : Below w.heap.size w w1 := below_next (by go_grown) hb1; have HA1 := HA.call hb1; obtain ⟨hcA, hfA⟩ := HA1.facts) |
        (go_at_call_of 26 (x.im.lo); refine (CB.out _).mono ?_; rintro e w2 ⟨rfl, hb2⟩; have bw2 : Below w.heap.size w w2 := below_next bw1 hb2))
      go_ret
      exact ⟨rfl, bw2⟩

/-- The document's operation: its result where there is no error; the cell of the error; all other blocks are kept. -/
def PostW (r : En.R En.Sp) (g : Nat) (e0 : Int) (w : World) (e : Ending) (w' : World) : Prop :=
  ∃ z e1, e = .returned (spV z) ∧ z.ok = true ∧ (e1 ≠ 0 → z = ⟨0, 0⟩) ∧ En.Stk r e0 z e1 ∧ Hd w' g 83 #[.int .i64 e1] ∧ But g w w'
abbrev ptr (g : Nat) : Value := .pointer (some ⟨g, 0, none⟩)

theorem wspan_any (lo hi e0 : Int) (g : Nat) (w : World) (HG : Hd w g 83 #[.int .i64 e0]) :
    Calls Try.prog 96 #[ptr g, .int .i64 lo, .int .i64 hi] w (PostW (En.span lo hi) g e0 w) := by
  have hlt := HG.lt
  have CV := rvalid_any lo hi
  have hs1 := En.stkSpan_stk e0 lo hi
  have hs2 := En.stkSpan_ok e0 lo hi
  have hs3 := En.stkSpan_err e0 lo hi
  unfold En.stkSpan at hs1 hs2 hs3
  obtain ⟨hcG, hfG⟩ := HG.facts
  by_cases h0 : e0 = 0
  · subst h0
    rw [if_pos rfl] at hs1 hs2 hs3
    cases hv : En.okS lo hi with
    | true =>
      rw [hv] at CV hs1 hs2 hs3
      replace CV := Lib.hid CV
      replace hs1 := Lib.hid hs1
      replace hs2 := Lib.hid hs2
      replace hs3 := Lib.hid hs3
      clear hv
      have bw := But.refl g w
      go_enter Try.func96, Try.ntmps96
      go_wp2_with fail
      have HG0 := HG
      replace HG : Hd ((w.alloc (.cells #[.int .i64 0, .int .i64 0] 23)).alloc (.cells #[.int .i64 lo, .int .i64 hi] 23)) g 83 #[.int .i64 0] := by (with_reducible repeat' (first | assumption | (apply hdN; (try simp only [sA, sS, sD]); done) | apply hdA | apply hdD | apply hdS | (apply hdF; case hp => first | (simp; done) | (simp; omega)) | with_unfolding_all rfl))
      have HO : Hd ((w.alloc (.cells #[.int .i64 0, .int .i64 0] 23)).alloc (.cells #[.int .i64 lo, .int .i64 hi] 23)) w.heap.size 23 #[.int .i64 0, .int .i64 0] := by (with_reducible repeat' (first | assumption | (apply hdN; (try simp only [sA, sS, sD]); done) | apply hdA | apply hdD | apply hdS | (apply hdF; case hp => first | (simp; done) | (simp; omega)) | with_unfolding_all rfl))
      have HS : Hd ((w.alloc (.cells #[.int .i64 0, .int .i64 0] 23)).alloc (.cells #[.int .i64 lo, .int .i64 hi] 23)) (w.heap.size + 1) 23 #[.int .i64 lo, .int .i64 hi] := by (with_reducible repeat' (first | assumption | (apply hdN; (try simp only [sA, sS, sD]); done) | apply hdA | apply hdD | apply hdS | (apply hdF; case hp => first | (simp; done) | (simp; omega)) | with_unfolding_all rfl))
      replace bw : But g w ((w.alloc (.cells #[.int .i64 0, .int .i64 0] 23)).alloc (.cells #[.int .i64 lo, .int .i64 hi] 23)) := by (with_reducible repeat' (first | assumption | exact But.refl _ _ | apply But.drew | apply But.alloc | (refine But.set ?_ ?hp _; case hp => first | (simp; done) | (simp; omega))))
      refine (CV.out _).mono ?_
      rintro e w1 ⟨rfl, hb1⟩
      replace bw : But g w w1 := bw.below hb1
      replace HG := HG.call hb1
      replace HO := HO.call hb1
      replace HS := HS.call hb1
      have lw1 : w.heap.size ≤ w1.heap.size := bw.size
      clear hb1
      obtain ⟨hcG, hfG⟩ := HG.facts
      obtain ⟨hcO, hfO⟩ := HO.facts
      obtain ⟨hcS, hfS⟩ := HS.facts
      go_wp2_with fail
      refine bodyPost_ret (run_results1 rfl rfl (by (show Hd _ (w.heap.size) 23 #[.int .i64 lo, .int .i64 hi]); (with_reducible repeat' (first | assumption | (apply hdN; (try simp only [sA, sS, sD]); done) | apply hdA | apply hdD | apply hdS | (apply hdF; case hp => first | (simp; done) | (simp; omega)) | with_unfolding_all rfl))) Try.underlying23 rfl (by kernel_rfl)) rfl ⟨⟨lo, hi⟩, 0, rfl, hs2.out, hs3.out, hs1.out, by (with_reducible repeat' (first | assumption | (apply hdN; (try simp only [sA, sS, sD]); done) | apply hdA | apply hdD | apply hdS | (apply hdF; case hp => first | (simp; done) | (simp; omega)) | with_unfolding_all rfl)), by (with_reducible repeat' (first | assumption | exact But.refl _ _ | apply But.drew | apply But.alloc | (refine But.set ?_ ?hp _; case hp => first | (simp; done) | (simp; omega))))⟩
    | false =>
      rw [hv] at CV hs1 hs2 hs3
      replace CV := Lib.hid CV
      replace hs1 := Lib.hid hs1
      replace hs2 := Lib.hid hs2
      replace hs3 := Lib.hid hs3
      clear hv
      have bw := But.refl g w
      go_enter Try.func96, Try.ntmps96
      go_wp2_with fail
      have HG0 := HG
      replace HG : Hd ((w.alloc (.cells #[.int .i64 0, .int .i64 0] 23)).alloc (.cells #[.int .i64 lo, .int .i64 hi] 23)) g 83 #[.int .i64 0] := by (with_reducible repeat' (first | assumption | (apply hdN; (try simp only [sA, sS, sD]); done) | apply hdA | apply hdD | apply hdS | (apply hdF; case hp => first | (simp; done) | (simp; omega)) | with_unfolding_all rfl))
      have HO : Hd ((w.alloc (.cells #[.int .i64 0, .int .i64 0] 23)).alloc (.cells #[.int .i64 lo, .int .i64 hi] 23)) w.heap.size 23 #[.int .i64 0, .int .i64 0] := by (with_reducible repeat' (first | assumption | (apply hdN; (try simp only [sA, sS, sD]); done) | apply hdA | apply hdD | apply hdS | (apply hdF; case hp => first | (simp; done) | (simp; omega)) | with_unfolding_all rfl))
      have HS : Hd ((w.alloc (.cells #[.int .i64 0, .int .i64 0] 23)).alloc (.cells #[.int .i64 lo, .int .i64 hi] 23)) (w.heap.size + 1) 23 #[.int .i64 lo, .int .i64 hi] := by (with_reducible repeat' (first | assumption | (apply hdN; (try simp only [sA, sS, sD]); done) | apply hdA | apply hdD | apply hdS | (apply hdF; case hp => first | (simp; done) | (simp; omega)) | with_unfolding_all rfl))
      replace bw : But g w ((w.alloc (.cells #[.int .i64 0, .int .i64 0] 23)).alloc (.cells #[.int .i64 lo, .int .i64 hi] 23)) := by (with_reducible repeat' (first | assumption | exact But.refl _ _ | apply But.drew | apply But.alloc | (refine But.set ?_ ?hp _; case hp => first | (simp; done) | (simp; omega))))
      refine (CV.out _).mono ?_
      rintro e w1 ⟨rfl, hb1⟩
      replace bw : But g w w1 := bw.below hb1
      replace HG := HG.call hb1
      replace HO := HO.call hb1
      replace HS := HS.call hb1
      have lw1 : w.heap.size ≤ w1.heap.size := bw.size
      clear hb1
      obtain ⟨hcG, hfG⟩ := HG.facts
      obtain ⟨hcO, hfO⟩ := HO.facts
      obtain ⟨hcS, hfS⟩ := HS.facts
      go_wp2_with fail
      refine bodyPost_ret (run_results1 rfl rfl (by (show Hd _ (w.heap.size) 23 #[.int .i64 0, .int .i64 0]); (with_reducible repeat' (first | assumption | (apply hdN; (try simp only [sA, sS, sD]); done) | apply hdA | apply hdD | apply hdS | (apply hdF; case hp => first | (simp; done) | (simp; omega)) | with_unfolding_all rfl))) Try.underlying23 rfl (by kernel_rfl)) rfl ⟨⟨0, 0⟩, 4, rfl, hs2.out, hs3.out, hs1.out, by (with_reducible repeat' (first | assumption | (apply hdN; (try simp only [sA, sS, sD]); done) | apply hdA | apply hdD | apply hdS | (apply hdF; case hp => first | (simp; done) | (simp; omega)) | with_unfolding_all rfl)), by (with_reducible repeat' (first | assumption | exact But.refl _ _ | apply But.drew | apply But.alloc | (refine But.set ?_ ?hp _; case hp => first | (simp; done) | (simp; omega))))⟩
  · rw [if_neg h0] at hs1 hs2 hs3
    replace hs1 := Lib.hid hs1
    replace hs2 := Lib.hid hs2
    replace hs3 := Lib.hid hs3
    clear CV
    have bw := But.refl g w
    go_enter Try.func96, Try.ntmps96
    go_wp2_with fail
    refine bodyPost_ret (run_results1 rfl rfl (by (show Hd _ (w.heap.size) 23 #[.int .i64 0, .int .i64 0]); (with_reducible repeat' (first | assumption | (apply hdN; (try simp only [sA, sS, sD]); done) | apply hdA | apply hdD | apply hdS | (apply hdF; case hp => first | (simp; done) | (simp; omega)) | with_unfolding_all rfl))) Try.underlying23 rfl (by kernel_rfl)) rfl ⟨⟨0, 0⟩, e0, rfl, hs2.out, fun _ => rfl, hs1.out, by (with_reducible repeat' (first | assumption | (apply hdN; (try simp only [sA, sS, sD]); done) | apply hdA | apply hdD | apply hdS | (apply hdF; case hp => first | (simp; done) | (simp; omega)) | with_unfolding_all rfl)), by (with_reducible repeat' (first | assumption | exact But.refl _ _ | apply But.drew | apply But.alloc | (refine But.set ?_ ?hp _; case hp => first | (simp; done) | (simp; omega))))⟩
end Go.Proofs.Ytpbbbfglecbceaa
