/- The document's Inside, Meet and Width. -/
import Derived.Test.YtpbbbfglecbceaaEn18
import Derived.Test.YtpbbbfglecbceaaRe1
namespace Go.Proofs.Ytpbbbfglecbceaa
set_option linter.all false
open Go.RowKit

theorem rin_any (s t : En.Sp) (w : World) : Calls Try.prog 87 #[spV s, spV t] w fun e w' => e = .returned (.bool (En.within s t)) ∧ Below w.heap.size w w' := by
  unfold En.within
  by_cases h1 : t.lo ≤ s.lo
  · by_cases h2 : s.hi ≤ t.hi
    · rw [decide_eq_true h1, decide_eq_true h2]
      go_enter Try.func87, Try.ntmps87
      go_wp2
      go_ret
      exact ⟨rfl, by go_grown⟩
    · rw [decide_eq_true h1, decide_eq_false h2]
      go_enter Try.func87, Try.ntmps87
      go_wp2
      go_ret
      exact ⟨rfl, by go_grown⟩
  · rw [decide_eq_false h1]
    go_enter Try.func87, Try.ntmps87
    go_wp2
    go_ret
    exact ⟨rfl, by go_grown⟩

theorem rcommon_any (s t : En.Sp) (w : World) : Calls Try.prog 89 #[spV s, spV t] w fun e w' => e = .returned (spV (En.cap s t)) ∧ Below w.heap.size w w' := by
  go_enter Try.func89, Try.ntmps89
  go_wp2
  refine bodyPost_ret (run_results1 rfl rfl (by (show Hd _ (w.heap.size + 2) 23 #[.int .i64 (max s.lo t.lo), .int .i64 (min s.hi t.hi)]); (repeat' (first | (with_reducible assumption) | (with_reducible refine Hd.new ?_; (try simp only [World.size_alloc, World.size_setCell, World.size_drew]); done) | with_reducible refine Hd.alloc ?_ _ | with_reducible refine Hd.drew ?_ | with_reducible refine Hd.drewN ?_ _ | with_reducible apply Hd.set' | (with_reducible apply Hd.far; case hp => first | (simp; done) | (simp; omega)) | exact (rfl : Array.setIfInBounds _ _ _ = _)))) Try.underlying23 rfl (by kernel_rfl)) rfl ⟨rfl, by go_grown⟩

theorem rinside_any (x y : En.Rc) (w : World) : Calls Try.prog 34 #[rcV x, rcV y] w fun e w' => e = .returned (.tuple #[.bool (inR x y).1, .int .i64 (inR x y).2]) ∧ Below w.heap.size w w' := by
  have CX := rvalidRect_any x
  have CY := rvalidRect_any y
  unfold inR
  obtain ⟨ox, hox⟩ : ∃ o, x.ok = o := ⟨_, rfl⟩
  rw [hox] at CX
  rw [hox]
  clear hox
  replace CX := Lib.hid CX
  obtain ⟨oy, hoy⟩ : ∃ o, y.ok = o := ⟨_, rfl⟩
  rw [hoy] at CY
  rw [hoy]
  clear hoy
  replace CY := Lib.hid CY
  have CA := rin_any x.re y.re
  have CB := rin_any x.im y.im
  obtain ⟨a, ha⟩ : ∃ a, En.within x.re y.re = a := ⟨_, rfl⟩
  obtain ⟨b, hb⟩ : ∃ b, En.within x.im y.im = b := ⟨_, rfl⟩
  rw [ha] at CA
  rw [hb] at CB
  rw [ha, hb]
  clear ha hb
  replace CA := Lib.hid CA
  replace CB := Lib.hid CB
  go_enter Try.func34, Try.ntmps34
  go_wp2_with fail
  have HA : Hd ((w.alloc (.cells #[.int .i64 x.re.lo, .int .i64 x.re.hi, .int .i64 x.im.lo, .int .i64 x.im.hi] 25)).alloc (.cells #[.int .i64 y.re.lo, .int .i64 y.re.hi, .int .i64 y.im.lo, .int .i64 y.im.hi] 25)) w.heap.size 25 #[.int .i64 x.re.lo, .int .i64 x.re.hi, .int .i64 x.im.lo, .int .i64 x.im.hi] := by (repeat' (first | (with_reducible assumption) | (with_reducible refine Hd.new ?_; (try simp only [World.size_alloc, World.size_setCell, World.size_drew]); done) | with_reducible refine Hd.alloc ?_ _ | with_reducible refine Hd.drew ?_ | with_reducible refine Hd.drewN ?_ _ | with_reducible apply Hd.set' | (with_reducible apply Hd.far; case hp => first | (simp; done) | (simp; omega)) | exact (rfl : Array.setIfInBounds _ _ _ = _)))
  have HB : Hd ((w.alloc (.cells #[.int .i64 x.re.lo, .int .i64 x.re.hi, .int .i64 x.im.lo, .int .i64 x.im.hi] 25)).alloc (.cells #[.int .i64 y.re.lo, .int .i64 y.re.hi, .int .i64 y.im.lo, .int .i64 y.im.hi] 25)) (w.heap.size + 1) 25 #[.int .i64 y.re.lo, .int .i64 y.re.hi, .int .i64 y.im.lo, .int .i64 y.im.hi] := by (repeat' (first | (with_reducible assumption) | (with_reducible refine Hd.new ?_; (try simp only [World.size_alloc, World.size_setCell, World.size_drew]); done) | with_reducible refine Hd.alloc ?_ _ | with_reducible refine Hd.drew ?_ | with_reducible refine Hd.drewN ?_ _ | with_reducible apply Hd.set' | (with_reducible apply Hd.far; case hp => first | (simp; done) | (simp; omega)) | exact (rfl : Array.setIfInBounds _ _ _ = _)))
  have bw : Below w.heap.size w ((w.alloc (.cells #[.int .i64 x.re.lo, .int .i64 x.re.hi, .int .i64 x.im.lo, .int .i64 x.im.hi] 25)).alloc (.cells #[.int .i64 y.re.lo, .int .i64 y.re.hi, .int .i64 y.im.lo, .int .i64 y.im.hi] 25)) := by go_grown
  refine (CX.out _).mono ?_
  rintro e w1 ⟨rfl, hb1⟩
  replace bw : Below w.heap.size w w1 := below_next bw hb1
  replace HA := HA.call hb1
  replace HB := HB.call hb1
  have lw1 : w.heap.size ≤ w1.heap.size := bw.size
  clear hb1
  obtain ⟨hcA, hfA⟩ := HA.facts
  obtain ⟨hcB, hfB⟩ := HB.facts
  cases ox
  · go_wp2_with fail
    go_ret2
    exact ⟨rfl, by go_grown⟩
  · go_wp2_with fail
    refine (CY.out _).mono ?_
    rintro e w2 ⟨rfl, hb2⟩
    replace bw : Below w.heap.size w w2 := below_next bw hb2
    replace HA := HA.call hb2
    replace HB := HB.call hb2
    have lw2 : w.heap.size ≤ w2.heap.size := bw.size
    clear hb2
    obtain ⟨hcA, hfA⟩ := HA.facts
    obtain ⟨hcB, hfB⟩ := HB.facts
    cases oy
    · go_wp2_with fail
      go_ret2
      exact ⟨rfl, by go_grown⟩
    · go_wp2_with fail
      refine (CA.out _).mono ?_
      rintro e w3 ⟨rfl, hb3⟩
      replace bw : Below w.heap.size w w3 := below_next bw hb3
      replace HA := HA.call hb3
      replace HB := HB.call hb3
      have lw3 : w.heap.size ≤ w3.heap.size := bw.size
      clear hb3
      obtain ⟨hcA, hfA⟩ := HA.facts
      obtain ⟨hcB, hfB⟩ := HB.facts
      cases a
      · go_wp2_with fail
        go_ret2
        exact ⟨rfl, by go_grown⟩
      · go_wp2_with fail
        refine (CB.out _).mono ?_
        rintro e w4 ⟨rfl, hb4⟩
        replace bw : Below w.heap.size w w4 := below_next bw hb4
        replace HA := HA.call hb4
        replace HB := HB.call hb4
        have lw4 : w.heap.size ≤ w4.heap.size := bw.size
        clear hb4
        obtain ⟨hcA, hfA⟩ := HA.facts
        obtain ⟨hcB, hfB⟩ := HB.facts
        cases b
        all_goals
          go_wp2_with fail
          go_ret2
          exact ⟨rfl, by go_grown⟩

theorem rwidth_any (x : En.Rc) (w : World) : Calls Try.prog 38 #[rcV x] w fun e w' => e = .returned (.tuple #[.int .i64 (widthR x).1, .int .i64 (widthR x).2]) ∧ Below w.heap.size w w' := by
  have CX := rvalidRect_any x
  unfold widthR
  cases hv : x.ok
  · rw [hv] at CX
    clear hv
    replace CX := Lib.hid CX
    go_enter Try.func38, Try.ntmps38
    go_wp2_with fail
    have HA : Hd (w.alloc (.cells #[.int .i64 x.re.lo, .int .i64 x.re.hi, .int .i64 x.im.lo, .int .i64 x.im.hi] 25)) w.heap.size 25 #[.int .i64 x.re.lo, .int .i64 x.re.hi, .int .i64 x.im.lo, .int .i64 x.im.hi] := by (repeat' (first | (with_reducible assumption) | (with_reducible refine Hd.new ?_; (try simp only [World.size_alloc, World.size_setCell, World.size_drew]); done) | with_reducible refine Hd.alloc ?_ _ | with_reducible refine Hd.drew ?_ | with_reducible refine Hd.drewN ?_ _ | with_reducible apply Hd.set' | (with_reducible apply Hd.far; case hp => first | (simp; done) | (simp; omega)) | exact (rfl : Array.setIfInBounds _ _ _ = _)))
    have bw : Below w.heap.size w (w.alloc (.cells #[.int .i64 x.re.lo, .int .i64 x.re.hi, .int .i64 x.im.lo, .int .i64 x.im.hi] 25)) := by go_grown
    refine (CX.out _).mono ?_
    rintro e w1 ⟨rfl, hb1⟩
    replace bw : Below w.heap.size w w1 := below_next bw hb1
    replace HA := HA.call hb1
    have lw1 : w.heap.size ≤ w1.heap.size := bw.size
    clear hb1
    obtain ⟨hcA, hfA⟩ := HA.facts
    go_wp2_with fail
    go_ret2
    exact ⟨rfl, by go_grown⟩
  · have hfit := En.Rc.fit_of_ok hv
    obtain ⟨⟨a1, a2, a3, a4⟩, b1, b2, b3, b4⟩ := hfit
    rw [hv] at CX
    clear hv
    replace CX := Lib.hid CX
    go_enter Try.func38, Try.ntmps38
    go_wp2_with fail
    have HA : Hd (w.alloc (.cells #[.int .i64 x.re.lo, .int .i64 x.re.hi, .int .i64 x.im.lo, .int .i64 x.im.hi] 25)) w.heap.size 25 #[.int .i64 x.re.lo, .int .i64 x.re.hi, .int .i64 x.im.lo, .int .i64 x.im.hi] := by (repeat' (first | (with_reducible assumption) | (with_reducible refine Hd.new ?_; (try simp only [World.size_alloc, World.size_setCell, World.size_drew]); done) | with_reducible refine Hd.alloc ?_ _ | with_reducible refine Hd.drew ?_ | with_reducible refine Hd.drewN ?_ _ | with_reducible apply Hd.set' | (with_reducible apply Hd.far; case hp => first | (simp; done) | (simp; omega)) | exact (rfl : Array.setIfInBounds _ _ _ = _)))
    have bw : Below w.heap.size w (w.alloc (.cells #[.int .i64 x.re.lo, .int .i64 x.re.hi, .int .i64 x.im.lo, .int .i64 x.im.hi] 25)) := by go_grown
    refine (CX.out _).mono ?_
    rintro e w1 ⟨rfl, hb1⟩
    replace bw : Below w.heap.size w w1 := below_next bw hb1
    replace HA := HA.call hb1
    have lw1 : w.heap.size ≤ w1.heap.size := bw.size
    clear hb1
    obtain ⟨hcA, hfA⟩ := HA.facts
    go_wp2_with fail
    go_ret2
    exact ⟨rfl, by go_grown⟩

set_option maxHeartbeats 4000000 in
theorem rmeet_any (x y : En.Rc) (w : World) : Calls Try.prog 36 #[rcV x, rcV y] w fun e w' => e = .returned (.tuple #[rcV (capR x y).1, .bool (capR x y).2.1, .int .i64 (capR x y).2.2]) ∧ Below w.heap.size w w' := by
  have CX := rvalidRect_any x
  have CY := rvalidRect_any y
  unfold capR
  obtain ⟨ox, hox⟩ : ∃ o, x.ok = o := ⟨_, rfl⟩
  rw [hox] at CX
  rw [hox]
  clear hox
  replace CX := Lib.hid CX
  obtain ⟨oy, hoy⟩ : ∃ o, y.ok = o := ⟨_, rfl⟩
  rw [hoy] at CY
  rw [hoy]
  clear hoy
  replace CY := Lib.hid CY
  have CA := rcommon_any x.re y.re
  have CB := rcommon_any x.im y.im
  obtain ⟨a, ha⟩ : ∃ a, En.cap x.re y.re = a := ⟨_, rfl⟩
  obtain ⟨b, hb⟩ : ∃ b, En.cap x.im y.im = b := ⟨_, rfl⟩
  rw [ha] at CA
  rw [hb] at CB
  rw [ha, hb]
  clear ha hb
  have CM := rvalidRect_any ⟨a, b⟩
  obtain ⟨o, ho⟩ : ∃ o, (⟨a, b⟩ : En.Rc).ok = o := ⟨_, rfl⟩
  rw [ho] at CM
  rw [ho]
  clear ho
  replace CM := CM
  replace CA := Lib.hid CA
  replace CB := Lib.hid CB
  replace CM := Lib.hid CM
  go_enter Try.func36, Try.ntmps36
  go_wp2_with fail
  have HA : Hd (((w.alloc (.cells #[.int .i64 x.re.lo, .int .i64 x.re.hi, .int .i64 x.im.lo, .int .i64 x.im.hi] 25)).alloc (.cells #[.int .i64 y.re.lo, .int .i64 y.re.hi, .int .i64 y.im.lo, .int .i64 y.im.hi] 25)).alloc (.cells #[.int .i64 0, .int .i64 0, .int .i64 0, .int .i64 0] 25)) w.heap.size 25 #[.int .i64 x.re.lo, .int .i64 x.re.hi, .int .i64 x.im.lo, .int .i64 x.im.hi] := by (repeat' (first | (with_reducible assumption) | (with_reducible refine Hd.new ?_; (try simp only [World.size_alloc, World.size_setCell, World.size_drew]); done) | with_reducible refine Hd.alloc ?_ _ | with_reducible refine Hd.drew ?_ | with_reducible refine Hd.drewN ?_ _ | with_reducible apply Hd.set' | (with_reducible apply Hd.far; case hp => first | (simp; done) | (simp; omega)) | exact (rfl : Array.setIfInBounds _ _ _ = _)))
  have HB : Hd (((w.alloc (.cells #[.int .i64 x.re.lo, .int .i64 x.re.hi, .int .i64 x.im.lo, .int .i64 x.im.hi] 25)).alloc (.cells #[.int .i64 y.re.lo, .int .i64 y.re.hi, .int .i64 y.im.lo, .int .i64 y.im.hi] 25)).alloc (.cells #[.int .i64 0, .int .i64 0, .int .i64 0, .int .i64 0] 25)) (w.heap.size + 1) 25 #[.int .i64 y.re.lo, .int .i64 y.re.hi, .int .i64 y.im.lo, .int .i64 y.im.hi] := by (repeat' (first | (with_reducible assumption) | (with_reducible refine Hd.new ?_; (try simp only [World.size_alloc, World.size_setCell, World.size_drew]); done) | with_reducible refine Hd.alloc ?_ _ | with_reducible refine Hd.drew ?_ | with_reducible refine Hd.drewN ?_ _ | with_reducible apply Hd.set' | (with_reducible apply Hd.far; case hp => first | (simp; done) | (simp; omega)) | exact (rfl : Array.setIfInBounds _ _ _ = _)))
  have HO : Hd (((w.alloc (.cells #[.int .i64 x.re.lo, .int .i64 x.re.hi, .int .i64 x.im.lo, .int .i64 x.im.hi] 25)).alloc (.cells #[.int .i64 y.re.lo, .int .i64 y.re.hi, .int .i64 y.im.lo, .int .i64 y.im.hi] 25)).alloc (.cells #[.int .i64 0, .int .i64 0, .int .i64 0, .int .i64 0] 25)) (w.heap.size + 2) 25 #[.int .i64 0, .int .i64 0, .int .i64 0, .int .i64 0] := by (repeat' (first | (with_reducible assumption) | (with_reducible refine Hd.new ?_; (try simp only [World.size_alloc, World.size_setCell, World.size_drew]); done) | with_reducible refine Hd.alloc ?_ _ | with_reducible refine Hd.drew ?_ | with_reducible refine Hd.drewN ?_ _ | with_reducible apply Hd.set' | (with_reducible apply Hd.far; case hp => first | (simp; done) | (simp; omega)) | exact (rfl : Array.setIfInBounds _ _ _ = _)))
  have bw : Below w.heap.size w (((w.alloc (.cells #[.int .i64 x.re.lo, .int .i64 x.re.hi, .int .i64 x.im.lo, .int .i64 x.im.hi] 25)).alloc (.cells #[.int .i64 y.re.lo, .int .i64 y.re.hi, .int .i64 y.im.lo, .int .i64 y.im.hi] 25)).alloc (.cells #[.int .i64 0, .int .i64 0, .int .i64 0, .int .i64 0] 25)) := by go_grown
  refine (CX.out _).mono ?_
  rintro e w1 ⟨rfl, hb1⟩
  replace bw : Below w.heap.size w w1 := below_next bw hb1
  replace HA := HA.call hb1
  replace HB := HB.call hb1
  replace HO := HO.call hb1
  have lw1 : w.heap.size ≤ w1.heap.size := bw.size
  clear hb1
  obtain ⟨hcA, hfA⟩ := HA.facts
  obtain ⟨hcB, hfB⟩ := HB.facts
  obtain ⟨hcO, hfO⟩ := HO.facts
  cases ox
  · go_wp2
    refine bodyPost_ret (run_results3 rfl rfl (by (show Hd _ ((w.heap.size + 2)) 25 #[.int .i64 0, .int .i64 0, .int .i64 0, .int .i64 0]); (repeat' (first | (with_reducible assumption) | (with_reducible refine Hd.new ?_; (try simp only [World.size_alloc, World.size_setCell, World.size_drew]); done) | with_reducible refine Hd.alloc ?_ _ | with_reducible refine Hd.drew ?_ | with_reducible refine Hd.drewN ?_ _ | with_reducible apply Hd.set' | (with_reducible apply Hd.far; case hp => first | (simp; done) | (simp; omega)) | exact (rfl : Array.setIfInBounds _ _ _ = _)))) Try.underlying25 rfl (by kernel_rfl)) rfl ⟨rfl, by go_grown⟩
  · go_wp2_with fail
    refine (CY.out _).mono ?_
    rintro e w2 ⟨rfl, hb2⟩
    replace bw : Below w.heap.size w w2 := below_next bw hb2
    replace HA := HA.call hb2
    replace HB := HB.call hb2
    replace HO := HO.call hb2
    have lw2 : w.heap.size ≤ w2.heap.size := bw.size
    clear hb2
    obtain ⟨hcA, hfA⟩ := HA.facts
    obtain ⟨hcB, hfB⟩ := HB.facts
    obtain ⟨hcO, hfO⟩ := HO.facts
    cases oy
    · go_wp2
      refine bodyPost_ret (run_results3 rfl rfl (by (show Hd _ ((w.heap.size + 2)) 25 #[.int .i64 0, .int .i64 0, .int .i64 0, .int .i64 0]); (repeat' (first | (with_reducible assumption) | (with_reducible refine Hd.new ?_; (try simp only [World.size_alloc, World.size_setCell, World.size_drew]); done) | with_reducible refine Hd.alloc ?_ _ | with_reducible refine Hd.drew ?_ | with_reducible refine Hd.drewN ?_ _ | with_reducible apply Hd.set' | (with_reducible apply Hd.far; case hp => first | (simp; done) | (simp; omega)) | exact (rfl : Array.setIfInBounds _ _ _ = _)))) Try.underlying25 rfl (by kernel_rfl)) rfl ⟨rfl, by go_grown⟩
    · go_upto_region 3 with fail
      replace HA : Hd (w2.drew) w.heap.size 25 #[.int .i64 x.re.lo, .int .i64 x.re.hi, .int .i64 x.im.lo, .int .i64 x.im.hi] := by (repeat' (first | (with_reducible assumption) | (with_reducible refine Hd.new ?_; (try simp only [World.size_alloc, World.size_setCell, World.size_drew]); done) | with_reducible refine Hd.alloc ?_ _ | with_reducible refine Hd.drew ?_ | with_reducible refine Hd.drewN ?_ _ | with_reducible apply Hd.set' | (with_reducible apply Hd.far; case hp => first | (simp; done) | (simp; omega)) | exact (rfl : Array.setIfInBounds _ _ _ = _)))
      replace HB : Hd (w2.drew) (w.heap.size + 1) 25 #[.int .i64 y.re.lo, .int .i64 y.re.hi, .int .i64 y.im.lo, .int .i64 y.im.hi] := by (repeat' (first | (with_reducible assumption) | (with_reducible refine Hd.new ?_; (try simp only [World.size_alloc, World.size_setCell, World.size_drew]); done) | with_reducible refine Hd.alloc ?_ _ | with_reducible refine Hd.drew ?_ | with_reducible refine Hd.drewN ?_ _ | with_reducible apply Hd.set' | (with_reducible apply Hd.far; case hp => first | (simp; done) | (simp; omega)) | exact (rfl : Array.setIfInBounds _ _ _ = _)))
      replace HO : Hd (w2.drew) (w.heap.size + 2) 25 #[.int .i64 0, .int .i64 0, .int .i64 0, .int .i64 0] := by (repeat' (first | (with_reducible assumption) | (with_reducible refine Hd.new ?_; (try simp only [World.size_alloc, World.size_setCell, World.size_drew]); done) | with_reducible refine Hd.alloc ?_ _ | with_reducible refine Hd.drew ?_ | with_reducible refine Hd.drewN ?_ _ | with_reducible apply Hd.set' | (with_reducible apply Hd.far; case hp => first | (simp; done) | (simp; omega)) | exact (rfl : Array.setIfInBounds _ _ _ = _)))
      replace bw : Below w.heap.size w (w2.drew) := by go_grown
      (refine wp_region_fl (fun w' => Hd w' w.heap.size 25 #[.int .i64 x.re.lo, .int .i64 x.re.hi, .int .i64 x.im.lo, .int .i64 x.im.hi] ∧ Hd w' (w.heap.size + 1) 25 #[.int .i64 y.re.lo, .int .i64 y.re.hi, .int .i64 y.im.lo, .int .i64 y.im.hi] ∧ Below w.heap.size w w') 11 [(0, 0), (1, 0), (2, 0), (3, 0), (5, 0), (6, 0), (7, 0), (8, 0), (4, 2), (9, 2), (10, 2), (11, 1), (12, 1)] (by kernel_rfl) (by kernel_rfl) (fun c d v a w h => by cases d <;> exact h) ⟨HA, HB, bw⟩ ?_; simp only [List.map_cons, List.map_nil, List.getD_cons_zero, List.getD_cons_succ, flMark, Nat.reduceEqDiff, ↓reduceIte])
      generalize hW : w2.drew = w3 at HA HB HO bw ⊢
      clear hW
      have lw3 : w.heap.size ≤ w3.heap.size := bw.size
      repeat (first | (with_reducible refine fl_move ?_; simp only [Act.put, Act.eval, List.setIfInBounds_toArray, List.set_cons_zero, List.set_cons_succ, Array.getD_eq_getD_getElem?, List.getElem?_toArray, List.getElem?_cons_zero, List.getElem?_cons_succ, Option.getD_some]) | (with_reducible refine fl_assign ?_; simp only [Act.put, Act.eval, List.setIfInBounds_toArray, List.set_cons_zero, List.set_cons_succ, Array.getD_eq_getD_getElem?, List.getElem?_toArray, List.getElem?_cons_zero, List.getElem?_cons_succ, Option.getD_some]) | ((with_reducible refine fl_soft (v := ?_) (fun w' hw' => ?_) ?_); rotate_left 1; (focus (obtain ⟨hA, hB, hBw⟩ := hw'; obtain ⟨hcA, hfA⟩ := hA.facts; obtain ⟨hcB, hfB⟩ := hB.facts; go_simp; (try with_reducible rfl); done)); simp only [Act.put, Act.eval, List.setIfInBounds_toArray, List.set_cons_zero, List.set_cons_succ, Array.getD_eq_getD_getElem?, List.getElem?_toArray, List.getElem?_cons_zero, List.getElem?_cons_succ, Option.getD_some]))
      refine fl_both ?_ ?_
      · go_wp2_with fail
        refine (CA.out _).mono ?_
        rintro e w4 ⟨rfl, hb4⟩
        replace bw : Below w.heap.size w w4 := below_next bw hb4
        replace HA := HA.call hb4
        replace HB := HB.call hb4
        replace HO := HO.call hb4
        have lw4 : w.heap.size ≤ w4.heap.size := bw.size
        clear hb4
        go_wp2_with fail
        (try refine ⟨⟨HA, HB, bw⟩, ?_⟩)
        repeat (first | (with_reducible refine fl_move ?_; simp only [Act.put, Act.eval, List.setIfInBounds_toArray, List.set_cons_zero, List.set_cons_succ, Array.getD_eq_getD_getElem?, List.getElem?_toArray, List.getElem?_cons_zero, List.getElem?_cons_succ, Option.getD_some]) | (with_reducible refine fl_assign ?_; simp only [Act.put, Act.eval, List.setIfInBounds_toArray, List.set_cons_zero, List.set_cons_succ, Array.getD_eq_getD_getElem?, List.getElem?_toArray, List.getElem?_cons_zero, List.getElem?_cons_succ, Option.getD_some]) | ((with_reducible refine fl_soft (v := ?_) (fun w' hw' => ?_) ?_); rotate_left 1; (focus (obtain ⟨hA, hB, hBw⟩ := hw'; obtain ⟨hcA, hfA⟩ := hA.facts; obtain ⟨hcB, hfB⟩ := hB.facts; go_simp; (try with_reducible rfl); done)); simp only [Act.put, Act.eval, List.setIfInBounds_toArray, List.set_cons_zero, List.set_cons_succ, Array.getD_eq_getD_getElem?, List.getElem?_toArray, List.getElem?_cons_zero, List.getElem?_cons_succ, Option.getD_some]))
        refine fl_both ?_ ?_
        · go_wp2_with fail
          refine (CB.out _).mono ?_
          rintro e w5 ⟨rfl, hb5⟩
          replace bw : Below w.heap.size w w5 := below_next bw hb5
          replace HA := HA.call hb5
          replace HB := HB.call hb5
          replace HO := HO.call hb5
          have lw5 : w.heap.size ≤ w5.heap.size := bw.size
          clear hb5
          go_wp2_with fail
          (try refine ⟨⟨HA, HB, bw⟩, ?_⟩)
          repeat (first | (with_reducible refine fl_move ?_; simp only [Act.put, Act.eval, List.setIfInBounds_toArray, List.set_cons_zero, List.set_cons_succ, Array.getD_eq_getD_getElem?, List.getElem?_toArray, List.getElem?_cons_zero, List.getElem?_cons_succ, Option.getD_some]) | (with_reducible refine fl_assign ?_; simp only [Act.put, Act.eval, List.setIfInBounds_toArray, List.set_cons_zero, List.set_cons_succ, Array.getD_eq_getD_getElem?, List.getElem?_toArray, List.getElem?_cons_zero, List.getElem?_cons_succ, Option.getD_some]) | ((with_reducible refine fl_soft (v := ?_) (fun w' hw' => ?_) ?_); rotate_left 1; (focus (obtain ⟨hA, hB, hBw⟩ := hw'; obtain ⟨hcA, hfA⟩ := hA.facts; obtain ⟨hcB, hfB⟩ := hB.facts; go_simp; (try with_reducible rfl); done)); simp only [Act.put, Act.eval, List.setIfInBounds_toArray, List.set_cons_zero, List.set_cons_succ, Array.getD_eq_getD_getElem?, List.getElem?_toArray, List.getElem?_cons_zero, List.getElem?_cons_succ, Option.getD_some]))
          refine fl_both ?_ ?_
          · go_wp2_with fail
            (try refine ⟨⟨HA, HB, bw⟩, ?_⟩)
            repeat (first | (with_reducible refine fl_move ?_; simp only [Act.put, Act.eval, List.setIfInBounds_toArray, List.set_cons_zero, List.set_cons_succ, Array.getD_eq_getD_getElem?, List.getElem?_toArray, List.getElem?_cons_zero, List.getElem?_cons_succ, Option.getD_some]) | (with_reducible refine fl_assign ?_; simp only [Act.put, Act.eval, List.setIfInBounds_toArray, List.set_cons_zero, List.set_cons_succ, Array.getD_eq_getD_getElem?, List.getElem?_toArray, List.getElem?_cons_zero, List.getElem?_cons_succ, Option.getD_some]) | ((with_reducible refine fl_soft (v := ?_) (fun w' hw' => ?_) ?_); rotate_left 1; (focus (obtain ⟨hA, hB, hBw⟩ := hw'; obtain ⟨hcA, hfA⟩ := hA.facts; obtain ⟨hcB, hfB⟩ := hB.facts; go_simp; (try with_reducible rfl); done)); simp only [Act.put, Act.eval, List.setIfInBounds_toArray, List.set_cons_zero, List.set_cons_succ, Array.getD_eq_getD_getElem?, List.getElem?_toArray, List.getElem?_cons_zero, List.getElem?_cons_succ, Option.getD_some]))
            refine fl_must ?_
            go_wp2_with fail
            have PA := HA
            have PB := HB
            have PO := HO
            have Pbw := bw
            have ltAM : w.heap.size < w5.heap.size := by (have := HA.lt; (try simp only [World.size_alloc, World.size_setCell, World.size_drew] at this); omega)
            have ltBM : (w.heap.size + 1) < w5.heap.size := by (have := HB.lt; (try simp only [World.size_alloc, World.size_setCell, World.size_drew] at this); omega)
            have ltOM : (w.heap.size + 2) < w5.heap.size := by (have := HO.lt; (try simp only [World.size_alloc, World.size_setCell, World.size_drew] at this); omega)
            replace HA : Hd (w5.alloc (.cells #[.int .i64 0, .int .i64 0, .int .i64 0, .int .i64 0] 25)) w.heap.size 25 #[.int .i64 x.re.lo, .int .i64 x.re.hi, .int .i64 x.im.lo, .int .i64 x.im.hi] := by (repeat' (first | (with_reducible assumption) | (with_reducible refine Hd.new ?_; (try simp only [World.size_alloc, World.size_setCell, World.size_drew]); done) | with_reducible refine Hd.alloc ?_ _ | with_reducible refine Hd.drew ?_ | with_reducible refine Hd.drewN ?_ _ | with_reducible apply Hd.set' | (with_reducible apply Hd.far; case hp => first | (simp; done) | (simp; omega)) | exact (rfl : Array.setIfInBounds _ _ _ = _)))
            replace HB : Hd (w5.alloc (.cells #[.int .i64 0, .int .i64 0, .int .i64 0, .int .i64 0] 25)) (w.heap.size + 1) 25 #[.int .i64 y.re.lo, .int .i64 y.re.hi, .int .i64 y.im.lo, .int .i64 y.im.hi] := by (repeat' (first | (with_reducible assumption) | (with_reducible refine Hd.new ?_; (try simp only [World.size_alloc, World.size_setCell, World.size_drew]); done) | with_reducible refine Hd.alloc ?_ _ | with_reducible refine Hd.drew ?_ | with_reducible refine Hd.drewN ?_ _ | with_reducible apply Hd.set' | (with_reducible apply Hd.far; case hp => first | (simp; done) | (simp; omega)) | exact (rfl : Array.setIfInBounds _ _ _ = _)))
            replace HO : Hd (w5.alloc (.cells #[.int .i64 0, .int .i64 0, .int .i64 0, .int .i64 0] 25)) (w.heap.size + 2) 25 #[.int .i64 0, .int .i64 0, .int .i64 0, .int .i64 0] := by (repeat' (first | (with_reducible assumption) | (with_reducible refine Hd.new ?_; (try simp only [World.size_alloc, World.size_setCell, World.size_drew]); done) | with_reducible refine Hd.alloc ?_ _ | with_reducible refine Hd.drew ?_ | with_reducible refine Hd.drewN ?_ _ | with_reducible apply Hd.set' | (with_reducible apply Hd.far; case hp => first | (simp; done) | (simp; omega)) | exact (rfl : Array.setIfInBounds _ _ _ = _)))
            replace bw : Below w.heap.size w (w5.alloc (.cells #[.int .i64 0, .int .i64 0, .int .i64 0, .int .i64 0] 25)) := by go_grown
            have HM : Hd (w5.alloc (.cells #[.int .i64 0, .int .i64 0, .int .i64 0, .int .i64 0] 25)) w5.heap.size 25 #[.int .i64 0, .int .i64 0, .int .i64 0, .int .i64 0] := by (repeat' (first | (with_reducible assumption) | (with_reducible refine Hd.new ?_; (try simp only [World.size_alloc, World.size_setCell, World.size_drew]); done) | with_reducible refine Hd.alloc ?_ _ | with_reducible refine Hd.drew ?_ | with_reducible refine Hd.drewN ?_ _ | with_reducible apply Hd.set' | (with_reducible apply Hd.far; case hp => first | (simp; done) | (simp; omega)) | exact (rfl : Array.setIfInBounds _ _ _ = _)))
            (try refine ⟨⟨HA, HB, bw⟩, ?_⟩)
            repeat (first | (with_reducible refine fl_move ?_; simp only [Act.put, Act.eval, List.setIfInBounds_toArray, List.set_cons_zero, List.set_cons_succ, Array.getD_eq_getD_getElem?, List.getElem?_toArray, List.getElem?_cons_zero, List.getElem?_cons_succ, Option.getD_some]) | (with_reducible refine fl_assign ?_; simp only [Act.put, Act.eval, List.setIfInBounds_toArray, List.set_cons_zero, List.set_cons_succ, Array.getD_eq_getD_getElem?, List.getElem?_toArray, List.getElem?_cons_zero, List.getElem?_cons_succ, Option.getD_some]) | ((with_reducible refine fl_soft (v := ?_) (fun w' hw' => ?_) ?_); rotate_left 1; (focus (obtain ⟨hA, hB, hBw⟩ := hw'; obtain ⟨hcA, hfA⟩ := hA.facts; obtain ⟨hcB, hfB⟩ := hB.facts; go_simp; (try with_reducible rfl); done)); simp only [Act.put, Act.eval, List.setIfInBounds_toArray, List.set_cons_zero, List.set_cons_succ, Array.getD_eq_getD_getElem?, List.getElem?_toArray, List.getElem?_cons_zero, List.getElem?_cons_succ, Option.getD_some]))
            repeat (first | (with_reducible refine fl_move ?_; simp only [Act.put, Act.eval, List.setIfInBounds_toArray, List.set_cons_zero, List.set_cons_succ, Array.getD_eq_getD_getElem?, List.getElem?_toArray, List.getElem?_cons_zero, List.getElem?_cons_succ, Option.getD_some]) | (with_reducible refine fl_assign ?_; simp only [Act.put, Act.eval, List.setIfInBounds_toArray, List.set_cons_zero, List.set_cons_succ, Array.getD_eq_getD_getElem?, List.getElem?_toArray, List.getElem?_cons_zero, List.getElem?_cons_succ, Option.getD_some]) | ((with_reducible refine fl_soft (v := ?_) (fun w' hw' => ?_) ?_); rotate_left 1; (focus (obtain ⟨hA, hB, hBw⟩ := hw'; obtain ⟨hcA, hfA⟩ := hA.facts; obtain ⟨hcB, hfB⟩ := hB.facts; go_simp; (try with_reducible rfl); done)); simp only [Act.put, Act.eval, List.setIfInBounds_toArray, List.set_cons_zero, List.set_cons_succ, Array.getD_eq_getD_getElem?, List.getElem?_toArray, List.getElem?_cons_zero, List.getElem?_cons_succ, Option.getD_some]))
            refine fl_hard ?_
            obtain ⟨hcM, hfM⟩ := HM.facts
            go_wp2_with fail
            replace HA : Hd (w5.alloc (.cells #[.int .i64 a.lo, .int .i64 a.hi, .int .i64 b.lo, .int .i64 b.hi] 25)) w.heap.size 25 #[.int .i64 x.re.lo, .int .i64 x.re.hi, .int .i64 x.im.lo, .int .i64 x.im.hi] := by (repeat' (first | (with_reducible assumption) | (with_reducible refine Hd.new ?_; (try simp only [World.size_alloc, World.size_setCell, World.size_drew]); done) | with_reducible refine Hd.alloc ?_ _ | with_reducible refine Hd.drew ?_ | with_reducible refine Hd.drewN ?_ _ | with_reducible apply Hd.set' | (with_reducible apply Hd.far; case hp => first | (simp; done) | (simp; omega)) | exact (rfl : Array.setIfInBounds _ _ _ = _)))
            replace HB : Hd (w5.alloc (.cells #[.int .i64 a.lo, .int .i64 a.hi, .int .i64 b.lo, .int .i64 b.hi] 25)) (w.heap.size + 1) 25 #[.int .i64 y.re.lo, .int .i64 y.re.hi, .int .i64 y.im.lo, .int .i64 y.im.hi] := by (repeat' (first | (with_reducible assumption) | (with_reducible refine Hd.new ?_; (try simp only [World.size_alloc, World.size_setCell, World.size_drew]); done) | with_reducible refine Hd.alloc ?_ _ | with_reducible refine Hd.drew ?_ | with_reducible refine Hd.drewN ?_ _ | with_reducible apply Hd.set' | (with_reducible apply Hd.far; case hp => first | (simp; done) | (simp; omega)) | exact (rfl : Array.setIfInBounds _ _ _ = _)))
            replace HO : Hd (w5.alloc (.cells #[.int .i64 a.lo, .int .i64 a.hi, .int .i64 b.lo, .int .i64 b.hi] 25)) (w.heap.size + 2) 25 #[.int .i64 0, .int .i64 0, .int .i64 0, .int .i64 0] := by (repeat' (first | (with_reducible assumption) | (with_reducible refine Hd.new ?_; (try simp only [World.size_alloc, World.size_setCell, World.size_drew]); done) | with_reducible refine Hd.alloc ?_ _ | with_reducible refine Hd.drew ?_ | with_reducible refine Hd.drewN ?_ _ | with_reducible apply Hd.set' | (with_reducible apply Hd.far; case hp => first | (simp; done) | (simp; omega)) | exact (rfl : Array.setIfInBounds _ _ _ = _)))
            replace HM : Hd (w5.alloc (.cells #[.int .i64 a.lo, .int .i64 a.hi, .int .i64 b.lo, .int .i64 b.hi] 25)) w5.heap.size 25 #[.int .i64 a.lo, .int .i64 a.hi, .int .i64 b.lo, .int .i64 b.hi] := by (repeat' (first | (with_reducible assumption) | (with_reducible refine Hd.new ?_; (try simp only [World.size_alloc, World.size_setCell, World.size_drew]); done) | with_reducible refine Hd.alloc ?_ _ | with_reducible refine Hd.drew ?_ | with_reducible refine Hd.drewN ?_ _ | with_reducible apply Hd.set' | (with_reducible apply Hd.far; case hp => first | (simp; done) | (simp; omega)) | exact (rfl : Array.setIfInBounds _ _ _ = _)))
            replace bw : Below w.heap.size w (w5.alloc (.cells #[.int .i64 a.lo, .int .i64 a.hi, .int .i64 b.lo, .int .i64 b.hi] 25)) := by go_grown
            (try refine ⟨⟨HA, HB, bw⟩, ?_⟩)
            repeat (first | (with_reducible refine fl_move ?_; simp only [Act.put, Act.eval, List.setIfInBounds_toArray, List.set_cons_zero, List.set_cons_succ, Array.getD_eq_getD_getElem?, List.getElem?_toArray, List.getElem?_cons_zero, List.getElem?_cons_succ, Option.getD_some]) | (with_reducible refine fl_assign ?_; simp only [Act.put, Act.eval, List.setIfInBounds_toArray, List.set_cons_zero, List.set_cons_succ, Array.getD_eq_getD_getElem?, List.getElem?_toArray, List.getElem?_cons_zero, List.getElem?_cons_succ, Option.getD_some]) | ((with_reducible refine fl_soft (v := ?_) (fun w' hw' => ?_) ?_); rotate_left 1; (focus (obtain ⟨hA, hB, hBw⟩ := hw'; obtain ⟨hcA, hfA⟩ := hA.facts; obtain ⟨hcB, hfB⟩ := hB.facts; go_simp; (try with_reducible rfl); done)); simp only [Act.put, Act.eval, List.setIfInBounds_toArray, List.set_cons_zero, List.set_cons_succ, Array.getD_eq_getD_getElem?, List.getElem?_toArray, List.getElem?_cons_zero, List.getElem?_cons_succ, Option.getD_some]))
            refine fl_nil ?_
            generalize hW : w5.alloc (.cells #[.int .i64 a.lo, .int .i64 a.hi, .int .i64 b.lo, .int .i64 b.hi] 25) = w6 at HA HB HO HM bw ⊢
            clear hW
            have lw6 : w.heap.size ≤ w6.heap.size := bw.size
            obtain ⟨hcM, hfM⟩ := HM.facts
            go_wp2_with fail
            refine (CM.out _).mono ?_
            rintro e w7 ⟨rfl, hb7⟩
            replace bw : Below w.heap.size w w7 := below_next bw hb7
            replace HA := HA.call hb7
            replace HB := HB.call hb7
            replace HO := HO.call hb7
            replace HM := HM.call hb7
            have lw7 : w.heap.size ≤ w7.heap.size := bw.size
            clear hb7
            obtain ⟨hcM, hfM⟩ := HM.facts
            obtain ⟨hcO, hfO⟩ := HO.facts
            cases o
            · go_wp2
              refine bodyPost_ret (run_results3 rfl rfl (by (show Hd _ ((w.heap.size + 2)) 25 #[.int .i64 0, .int .i64 0, .int .i64 0, .int .i64 0]); (repeat' (first | (with_reducible assumption) | (with_reducible refine Hd.new ?_; (try simp only [World.size_alloc, World.size_setCell, World.size_drew]); done) | with_reducible refine Hd.alloc ?_ _ | with_reducible refine Hd.drew ?_ | with_reducible refine Hd.drewN ?_ _ | with_reducible apply Hd.set' | (with_reducible apply Hd.far; case hp => first | (simp; done) | (simp; omega)) | exact (rfl : Array.setIfInBounds _ _ _ = _)))) Try.underlying25 rfl (by kernel_rfl)) rfl ⟨rfl, by go_grown⟩
            · go_wp2
              refine bodyPost_ret (run_results3 rfl rfl (by (show Hd _ ((w.heap.size + 2)) 25 #[.int .i64 a.lo, .int .i64 a.hi, .int .i64 b.lo, .int .i64 b.hi]); (repeat' (first | (with_reducible assumption) | (with_reducible refine Hd.new ?_; (try simp only [World.size_alloc, World.size_setCell, World.size_drew]); done) | with_reducible refine Hd.alloc ?_ _ | with_reducible refine Hd.drew ?_ | with_reducible refine Hd.drewN ?_ _ | with_reducible apply Hd.set' | (with_reducible apply Hd.far; case hp => first | (simp; done) | (simp; omega)) | exact (rfl : Array.setIfInBounds _ _ _ = _)))) Try.underlying25 rfl (by kernel_rfl)) rfl ⟨rfl, by go_grown⟩
          · go_wp2_with fail
            have PA := HA
            have PB := HB
            have PO := HO
            have Pbw := bw
            have ltAM : w.heap.size < w5.heap.size := by (have := HA.lt; (try simp only [World.size_alloc, World.size_setCell, World.size_drew] at this); omega)
            have ltBM : (w.heap.size + 1) < w5.heap.size := by (have := HB.lt; (try simp only [World.size_alloc, World.size_setCell, World.size_drew] at this); omega)
            have ltOM : (w.heap.size + 2) < w5.heap.size := by (have := HO.lt; (try simp only [World.size_alloc, World.size_setCell, World.size_drew] at this); omega)
            replace HA : Hd (w5.alloc (.cells #[.int .i64 0, .int .i64 0, .int .i64 0, .int .i64 0] 25)) w.heap.size 25 #[.int .i64 x.re.lo, .int .i64 x.re.hi, .int .i64 x.im.lo, .int .i64 x.im.hi] := by (repeat' (first | (with_reducible assumption) | (with_reducible refine Hd.new ?_; (try simp only [World.size_alloc, World.size_setCell, World.size_drew]); done) | with_reducible refine Hd.alloc ?_ _ | with_reducible refine Hd.drew ?_ | with_reducible refine Hd.drewN ?_ _ | with_reducible apply Hd.set' | (with_reducible apply Hd.far; case hp => first | (simp; done) | (simp; omega)) | exact (rfl : Array.setIfInBounds _ _ _ = _)))
            replace HB : Hd (w5.alloc (.cells #[.int .i64 0, .int .i64 0, .int .i64 0, .int .i64 0] 25)) (w.heap.size + 1) 25 #[.int .i64 y.re.lo, .int .i64 y.re.hi, .int .i64 y.im.lo, .int .i64 y.im.hi] := by (repeat' (first | (with_reducible assumption) | (with_reducible refine Hd.new ?_; (try simp only [World.size_alloc, World.size_setCell, World.size_drew]); done) | with_reducible refine Hd.alloc ?_ _ | with_reducible refine Hd.drew ?_ | with_reducible refine Hd.drewN ?_ _ | with_reducible apply Hd.set' | (with_reducible apply Hd.far; case hp => first | (simp; done) | (simp; omega)) | exact (rfl : Array.setIfInBounds _ _ _ = _)))
            replace HO : Hd (w5.alloc (.cells #[.int .i64 0, .int .i64 0, .int .i64 0, .int .i64 0] 25)) (w.heap.size + 2) 25 #[.int .i64 0, .int .i64 0, .int .i64 0, .int .i64 0] := by (repeat' (first | (with_reducible assumption) | (with_reducible refine Hd.new ?_; (try simp only [World.size_alloc, World.size_setCell, World.size_drew]); done) | with_reducible refine Hd.alloc ?_ _ | with_reducible refine Hd.drew ?_ | with_reducible refine Hd.drewN ?_ _ | with_reducible apply Hd.set' | (with_reducible apply Hd.far; case hp => first | (simp; done) | (simp; omega)) | exact (rfl : Array.setIfInBounds _ _ _ = _)))
            replace bw : Below w.heap.size w (w5.alloc (.cells #[.int .i64 0, .int .i64 0, .int .i64 0, .int .i64 0] 25)) := by go_grown
            have HM : Hd (w5.alloc (.cells #[.int .i64 0, .int .i64 0, .int .i64 0, .int .i64 0] 25)) w5.heap.size 25 #[.int .i64 0, .int .i64 0, .int .i64 0, .int .i64 0] := by (repeat' (first | (with_reducible assumption) | (with_reducible refine Hd.new ?_; (try simp only [World.size_alloc, World.size_setCell, World.size_drew]); done) | with_reducible refine Hd.alloc ?_ _ | with_reducible refine Hd.drew ?_ | with_reducible refine Hd.drewN ?_ _ | with_reducible apply Hd.set' | (with_reducible apply Hd.far; case hp => first | (simp; done) | (simp; omega)) | exact (rfl : Array.setIfInBounds _ _ _ = _)))
            (try refine ⟨⟨HA, HB, bw⟩, ?_⟩)
            repeat (first | (with_reducible refine eag_move ?_; simp only [Act.put, Act.eval, List.setIfInBounds_toArray, List.set_cons_zero, List.set_cons_succ, Array.getD_eq_getD_getElem?, List.getElem?_toArray, List.getElem?_cons_zero, List.getElem?_cons_succ, Option.getD_some]) | (with_reducible refine eag_assign ?_; simp only [Act.put, Act.eval, List.setIfInBounds_toArray, List.set_cons_zero, List.set_cons_succ, Array.getD_eq_getD_getElem?, List.getElem?_toArray, List.getElem?_cons_zero, List.getElem?_cons_succ, Option.getD_some]) | ((with_reducible refine eag_soft (v := ?_) (fun w' hw' => ?_) ?_); rotate_left 1; (focus (obtain ⟨hA, hB, hBw⟩ := hw'; obtain ⟨hcA, hfA⟩ := hA.facts; obtain ⟨hcB, hfB⟩ := hB.facts; go_simp; (try with_reducible rfl); done)); simp only [Act.put, Act.eval, List.setIfInBounds_toArray, List.set_cons_zero, List.set_cons_succ, Array.getD_eq_getD_getElem?, List.getElem?_toArray, List.getElem?_cons_zero, List.getElem?_cons_succ, Option.getD_some]))
            repeat (first | (with_reducible refine eag_move ?_; simp only [Act.put, Act.eval, List.setIfInBounds_toArray, List.set_cons_zero, List.set_cons_succ, Array.getD_eq_getD_getElem?, List.getElem?_toArray, List.getElem?_cons_zero, List.getElem?_cons_succ, Option.getD_some]) | (with_reducible refine eag_assign ?_; simp only [Act.put, Act.eval, List.setIfInBounds_toArray, List.set_cons_zero, List.set_cons_succ, Array.getD_eq_getD_getElem?, List.getElem?_toArray, List.getElem?_cons_zero, List.getElem?_cons_succ, Option.getD_some]) | ((with_reducible refine eag_soft (v := ?_) (fun w' hw' => ?_) ?_); rotate_left 1; (focus (obtain ⟨hA, hB, hBw⟩ := hw'; obtain ⟨hcA, hfA⟩ := hA.facts; obtain ⟨hcB, hfB⟩ := hB.facts; go_simp; (try with_reducible rfl); done)); simp only [Act.put, Act.eval, List.setIfInBounds_toArray, List.set_cons_zero, List.set_cons_succ, Array.getD_eq_getD_getElem?, List.getElem?_toArray, List.getElem?_cons_zero, List.getElem?_cons_succ, Option.getD_some]))
            refine eag_hard ?_
            go_wp2_with fail
            (try refine ⟨⟨HA, HB, bw⟩, ?_⟩)
            repeat (first | (with_reducible refine eag_move ?_; simp only [Act.put, Act.eval, List.setIfInBounds_toArray, List.set_cons_zero, List.set_cons_succ, Array.getD_eq_getD_getElem?, List.getElem?_toArray, List.getElem?_cons_zero, List.getElem?_cons_succ, Option.getD_some]) | (with_reducible refine eag_assign ?_; simp only [Act.put, Act.eval, List.setIfInBounds_toArray, List.set_cons_zero, List.set_cons_succ, Array.getD_eq_getD_getElem?, List.getElem?_toArray, List.getElem?_cons_zero, List.getElem?_cons_succ, Option.getD_some]) | ((with_reducible refine eag_soft (v := ?_) (fun w' hw' => ?_) ?_); rotate_left 1; (focus (obtain ⟨hA, hB, hBw⟩ := hw'; obtain ⟨hcA, hfA⟩ := hA.facts; obtain ⟨hcB, hfB⟩ := hB.facts; go_simp; (try with_reducible rfl); done)); simp only [Act.put, Act.eval, List.setIfInBounds_toArray, List.set_cons_zero, List.set_cons_succ, Array.getD_eq_getD_getElem?, List.getElem?_toArray, List.getElem?_cons_zero, List.getElem?_cons_succ, Option.getD_some]))
            refine eag_hard ?_
            obtain ⟨hcM, hfM⟩ := HM.facts
            go_wp2_with fail
            replace HA : Hd (w5.alloc (.cells #[.int .i64 a.lo, .int .i64 a.hi, .int .i64 b.lo, .int .i64 b.hi] 25)) w.heap.size 25 #[.int .i64 x.re.lo, .int .i64 x.re.hi, .int .i64 x.im.lo, .int .i64 x.im.hi] := by (repeat' (first | (with_reducible assumption) | (with_reducible refine Hd.new ?_; (try simp only [World.size_alloc, World.size_setCell, World.size_drew]); done) | with_reducible refine Hd.alloc ?_ _ | with_reducible refine Hd.drew ?_ | with_reducible refine Hd.drewN ?_ _ | with_reducible apply Hd.set' | (with_reducible apply Hd.far; case hp => first | (simp; done) | (simp; omega)) | exact (rfl : Array.setIfInBounds _ _ _ = _)))
            replace HB : Hd (w5.alloc (.cells #[.int .i64 a.lo, .int .i64 a.hi, .int .i64 b.lo, .int .i64 b.hi] 25)) (w.heap.size + 1) 25 #[.int .i64 y.re.lo, .int .i64 y.re.hi, .int .i64 y.im.lo, .int .i64 y.im.hi] := by (repeat' (first | (with_reducible assumption) | (with_reducible refine Hd.new ?_; (try simp only [World.size_alloc, World.size_setCell, World.size_drew]); done) | with_reducible refine Hd.alloc ?_ _ | with_reducible refine Hd.drew ?_ | with_reducible refine Hd.drewN ?_ _ | with_reducible apply Hd.set' | (with_reducible apply Hd.far; case hp => first | (simp; done) | (simp; omega)) | exact (rfl : Array.setIfInBounds _ _ _ = _)))
            replace HO : Hd (w5.alloc (.cells #[.int .i64 a.lo, .int .i64 a.hi, .int .i64 b.lo, .int .i64 b.hi] 25)) (w.heap.size + 2) 25 #[.int .i64 0, .int .i64 0, .int .i64 0, .int .i64 0] := by (repeat' (first | (with_reducible assumption) | (with_reducible refine Hd.new ?_; (try simp only [World.size_alloc, World.size_setCell, World.size_drew]); done) | with_reducible refine Hd.alloc ?_ _ | with_reducible refine Hd.drew ?_ | with_reducible refine Hd.drewN ?_ _ | with_reducible apply Hd.set' | (with_reducible apply Hd.far; case hp => first | (simp; done) | (simp; omega)) | exact (rfl : Array.setIfInBounds _ _ _ = _)))
            replace HM : Hd (w5.alloc (.cells #[.int .i64 a.lo, .int .i64 a.hi, .int .i64 b.lo, .int .i64 b.hi] 25)) w5.heap.size 25 #[.int .i64 a.lo, .int .i64 a.hi, .int .i64 b.lo, .int .i64 b.hi] := by (repeat' (first | (with_reducible assumption) | (with_reducible refine Hd.new ?_; (try simp only [World.size_alloc, World.size_setCell, World.size_drew]); done) | with_reducible refine Hd.alloc ?_ _ | with_reducible refine Hd.drew ?_ | with_reducible refine Hd.drewN ?_ _ | with_reducible apply Hd.set' | (with_reducible apply Hd.far; case hp => first | (simp; done) | (simp; omega)) | exact (rfl : Array.setIfInBounds _ _ _ = _)))
            replace bw : Below w.heap.size w (w5.alloc (.cells #[.int .i64 a.lo, .int .i64 a.hi, .int .i64 b.lo, .int .i64 b.hi] 25)) := by go_grown
            (try refine ⟨⟨HA, HB, bw⟩, ?_⟩)
            repeat (first | (with_reducible refine eag_move ?_; simp only [Act.put, Act.eval, List.setIfInBounds_toArray, List.set_cons_zero, List.set_cons_succ, Array.getD_eq_getD_getElem?, List.getElem?_toArray, List.getElem?_cons_zero, List.getElem?_cons_succ, Option.getD_some]) | (with_reducible refine eag_assign ?_; simp only [Act.put, Act.eval, List.setIfInBounds_toArray, List.set_cons_zero, List.set_cons_succ, Array.getD_eq_getD_getElem?, List.getElem?_toArray, List.getElem?_cons_zero, List.getElem?_cons_succ, Option.getD_some]) | ((with_reducible refine eag_soft (v := ?_) (fun w' hw' => ?_) ?_); rotate_left 1; (focus (obtain ⟨hA, hB, hBw⟩ := hw'; obtain ⟨hcA, hfA⟩ := hA.facts; obtain ⟨hcB, hfB⟩ := hB.facts; go_simp; (try with_reducible rfl); done)); simp only [Act.put, Act.eval, List.setIfInBounds_toArray, List.set_cons_zero, List.set_cons_succ, Array.getD_eq_getD_getElem?, List.getElem?_toArray, List.getElem?_cons_zero, List.getElem?_cons_succ, Option.getD_some]))
            refine eag_nil ?_
            generalize hW : w5.alloc (.cells #[.int .i64 a.lo, .int .i64 a.hi, .int .i64 b.lo, .int .i64 b.hi] 25) = w6 at HA HB HO HM bw ⊢
            clear hW
            have lw6 : w.heap.size ≤ w6.heap.size := bw.size
            obtain ⟨hcM, hfM⟩ := HM.facts
            go_wp2_with fail
            refine (CM.out _).mono ?_
            rintro e w7 ⟨rfl, hb7⟩
            replace bw : Below w.heap.size w w7 := below_next bw hb7
            replace HA := HA.call hb7
            replace HB := HB.call hb7
            replace HO := HO.call hb7
            replace HM := HM.call hb7
            have lw7 : w.heap.size ≤ w7.heap.size := bw.size
            clear hb7
            obtain ⟨hcM, hfM⟩ := HM.facts
            obtain ⟨hcO, hfO⟩ := HO.facts
            cases o
            · go_wp2
              refine bodyPost_ret (run_results3 rfl rfl (by (show Hd _ ((w.heap.size + 2)) 25 #[.int .i64 0, .int .i64 0, .int .i64 0, .int .i64 0]); (repeat' (first | (with_reducible assumption) | (with_reducible refine Hd.new ?_; (try simp only [World.size_alloc, World.size_setCell, World.size_drew]); done) | with_reducible refine Hd.alloc ?_ _ | with_reducible refine Hd.drew ?_ | with_reducible refine Hd.drewN ?_ _ | with_reducible apply Hd.set' | (with_reducible apply Hd.far; case hp => first | (simp; done) | (simp; omega)) | exact (rfl : Array.setIfInBounds _ _ _ = _)))) Try.underlying25 rfl (by kernel_rfl)) rfl ⟨rfl, by go_grown⟩
            · go_wp2
              refine bodyPost_ret (run_results3 rfl rfl (by (show Hd _ ((w.heap.size + 2)) 25 #[.int .i64 a.lo, .int .i64 a.hi, .int .i64 b.lo, .int .i64 b.hi]); (repeat' (first | (with_reducible assumption) | (with_reducible refine Hd.new ?_; (try simp only [World.size_alloc, World.size_setCell, World.size_drew]); done) | with_reducible refine Hd.alloc ?_ _ | with_reducible refine Hd.drew ?_ | with_reducible refine Hd.drewN ?_ _ | with_reducible apply Hd.set' | (with_reducible apply Hd.far; case hp => first | (simp; done) | (simp; omega)) | exact (rfl : Array.setIfInBounds _ _ _ = _)))) Try.underlying25 rfl (by kernel_rfl)) rfl ⟨rfl, by go_grown⟩
        · go_wp2_with fail
          have PA := HA
          have PB := HB
          have PO := HO
          have Pbw := bw
          have ltAM : w.heap.size < w4.heap.size := by (have := HA.lt; (try simp only [World.size_alloc, World.size_setCell, World.size_drew] at this); omega)
          have ltBM : (w.heap.size + 1) < w4.heap.size := by (have := HB.lt; (try simp only [World.size_alloc, World.size_setCell, World.size_drew] at this); omega)
          have ltOM : (w.heap.size + 2) < w4.heap.size := by (have := HO.lt; (try simp only [World.size_alloc, World.size_setCell, World.size_drew] at this); omega)
          replace HA : Hd (w4.alloc (.cells #[.int .i64 0, .int .i64 0, .int .i64 0, .int .i64 0] 25)) w.heap.size 25 #[.int .i64 x.re.lo, .int .i64 x.re.hi, .int .i64 x.im.lo, .int .i64 x.im.hi] := by (repeat' (first | (with_reducible assumption) | (with_reducible refine Hd.new ?_; (try simp only [World.size_alloc, World.size_setCell, World.size_drew]); done) | with_reducible refine Hd.alloc ?_ _ | with_reducible refine Hd.drew ?_ | with_reducible refine Hd.drewN ?_ _ | with_reducible apply Hd.set' | (with_reducible apply Hd.far; case hp => first | (simp; done) | (simp; omega)) | exact (rfl : Array.setIfInBounds _ _ _ = _)))
          replace HB : Hd (w4.alloc (.cells #[.int .i64 0, .int .i64 0, .int .i64 0, .int .i64 0] 25)) (w.heap.size + 1) 25 #[.int .i64 y.re.lo, .int .i64 y.re.hi, .int .i64 y.im.lo, .int .i64 y.im.hi] := by (repeat' (first | (with_reducible assumption) | (with_reducible refine Hd.new ?_; (try simp only [World.size_alloc, World.size_setCell, World.size_drew]); done) | with_reducible refine Hd.alloc ?_ _ | with_reducible refine Hd.drew ?_ | with_reducible refine Hd.drewN ?_ _ | with_reducible apply Hd.set' | (with_reducible apply Hd.far; case hp => first | (simp; done) | (simp; omega)) | exact (rfl : Array.setIfInBounds _ _ _ = _)))
          replace HO : Hd (w4.alloc (.cells #[.int .i64 0, .int .i64 0, .int .i64 0, .int .i64 0] 25)) (w.heap.size + 2) 25 #[.int .i64 0, .int .i64 0, .int .i64 0, .int .i64 0] := by (repeat' (first | (with_reducible assumption) | (with_reducible refine Hd.new ?_; (try simp only [World.size_alloc, World.size_setCell, World.size_drew]); done) | with_reducible refine Hd.alloc ?_ _ | with_reducible refine Hd.drew ?_ | with_reducible refine Hd.drewN ?_ _ | with_reducible apply Hd.set' | (with_reducible apply Hd.far; case hp => first | (simp; done) | (simp; omega)) | exact (rfl : Array.setIfInBounds _ _ _ = _)))
          replace bw : Below w.heap.size w (w4.alloc (.cells #[.int .i64 0, .int .i64 0, .int .i64 0, .int .i64 0] 25)) := by go_grown
          have HM : Hd (w4.alloc (.cells #[.int .i64 0, .int .i64 0, .int .i64 0, .int .i64 0] 25)) w4.heap.size 25 #[.int .i64 0, .int .i64 0, .int .i64 0, .int .i64 0] := by (repeat' (first | (with_reducible assumption) | (with_reducible refine Hd.new ?_; (try simp only [World.size_alloc, World.size_setCell, World.size_drew]); done) | with_reducible refine Hd.alloc ?_ _ | with_reducible refine Hd.drew ?_ | with_reducible refine Hd.drewN ?_ _ | with_reducible apply Hd.set' | (with_reducible apply Hd.far; case hp => first | (simp; done) | (simp; omega)) | exact (rfl : Array.setIfInBounds _ _ _ = _)))
          (try refine ⟨⟨HA, HB, bw⟩, ?_⟩)
          repeat (first | (with_reducible refine eag_move ?_; simp only [Act.put, Act.eval, List.setIfInBounds_toArray, List.set_cons_zero, List.set_cons_succ, Array.getD_eq_getD_getElem?, List.getElem?_toArray, List.getElem?_cons_zero, List.getElem?_cons_succ, Option.getD_some]) | (with_reducible refine eag_assign ?_; simp only [Act.put, Act.eval, List.setIfInBounds_toArray, List.set_cons_zero, List.set_cons_succ, Array.getD_eq_getD_getElem?, List.getElem?_toArray, List.getElem?_cons_zero, List.getElem?_cons_succ, Option.getD_some]) | ((with_reducible refine eag_soft (v := ?_) (fun w' hw' => ?_) ?_); rotate_left 1; (focus (obtain ⟨hA, hB, hBw⟩ := hw'; obtain ⟨hcA, hfA⟩ := hA.facts; obtain ⟨hcB, hfB⟩ := hB.facts; go_simp; (try with_reducible rfl); done)); simp only [Act.put, Act.eval, List.setIfInBounds_toArray, List.set_cons_zero, List.set_cons_succ, Array.getD_eq_getD_getElem?, List.getElem?_toArray, List.getElem?_cons_zero, List.getElem?_cons_succ, Option.getD_some]))
          repeat (first | (with_reducible refine eag_move ?_; simp only [Act.put, Act.eval, List.setIfInBounds_toArray, List.set_cons_zero, List.set_cons_succ, Array.getD_eq_getD_getElem?, List.getElem?_toArray, List.getElem?_cons_zero, List.getElem?_cons_succ, Option.getD_some]) | (with_reducible refine eag_assign ?_; simp only [Act.put, Act.eval, List.setIfInBounds_toArray, List.set_cons_zero, List.set_cons_succ, Array.getD_eq_getD_getElem?, List.getElem?_toArray, List.getElem?_cons_zero, List.getElem?_cons_succ, Option.getD_some]) | ((with_reducible refine eag_soft (v := ?_) (fun w' hw' => ?_) ?_); rotate_left 1; (focus (obtain ⟨hA, hB, hBw⟩ := hw'; obtain ⟨hcA, hfA⟩ := hA.facts; obtain ⟨hcB, hfB⟩ := hB.facts; go_simp; (try with_reducible rfl); done)); simp only [Act.put, Act.eval, List.setIfInBounds_toArray, List.set_cons_zero, List.set_cons_succ, Array.getD_eq_getD_getElem?, List.getElem?_toArray, List.getElem?_cons_zero, List.getElem?_cons_succ, Option.getD_some]))
          refine eag_hard ?_
          go_wp2_with fail
          refine (CB.out _).mono ?_
          rintro e w5 ⟨rfl, hb5⟩
          replace bw : Below w.heap.size w w5 := below_next bw hb5
          replace HA := HA.call hb5
          replace HB := HB.call hb5
          replace HO := HO.call hb5
          replace HM := HM.call hb5
          have lw5 : w.heap.size ≤ w5.heap.size := bw.size
          clear hb5
          go_wp2_with fail
          (try refine ⟨⟨HA, HB, bw⟩, ?_⟩)
          repeat (first | (with_reducible refine eag_move ?_; simp only [Act.put, Act.eval, List.setIfInBounds_toArray, List.set_cons_zero, List.set_cons_succ, Array.getD_eq_getD_getElem?, List.getElem?_toArray, List.getElem?_cons_zero, List.getElem?_cons_succ, Option.getD_some]) | (with_reducible refine eag_assign ?_; simp only [Act.put, Act.eval, List.setIfInBounds_toArray, List.set_cons_zero, List.set_cons_succ, Array.getD_eq_getD_getElem?, List.getElem?_toArray, List.getElem?_cons_zero, List.getElem?_cons_succ, Option.getD_some]) | ((with_reducible refine eag_soft (v := ?_) (fun w' hw' => ?_) ?_); rotate_left 1; (focus (obtain ⟨hA, hB, hBw⟩ := hw'; obtain ⟨hcA, hfA⟩ := hA.facts; obtain ⟨hcB, hfB⟩ := hB.facts; go_simp; (try with_reducible rfl); done)); simp only [Act.put, Act.eval, List.setIfInBounds_toArray, List.set_cons_zero, List.set_cons_succ, Array.getD_eq_getD_getElem?, List.getElem?_toArray, List.getElem?_cons_zero, List.getElem?_cons_succ, Option.getD_some]))
          refine eag_hard ?_
          go_wp2_with fail
          (try refine ⟨⟨HA, HB, bw⟩, ?_⟩)
          repeat (first | (with_reducible refine eag_move ?_; simp only [Act.put, Act.eval, List.setIfInBounds_toArray, List.set_cons_zero, List.set_cons_succ, Array.getD_eq_getD_getElem?, List.getElem?_toArray, List.getElem?_cons_zero, List.getElem?_cons_succ, Option.getD_some]) | (with_reducible refine eag_assign ?_; simp only [Act.put, Act.eval, List.setIfInBounds_toArray, List.set_cons_zero, List.set_cons_succ, Array.getD_eq_getD_getElem?, List.getElem?_toArray, List.getElem?_cons_zero, List.getElem?_cons_succ, Option.getD_some]) | ((with_reducible refine eag_soft (v := ?_) (fun w' hw' => ?_) ?_); rotate_left 1; (focus (obtain ⟨hA, hB, hBw⟩ := hw'; obtain ⟨hcA, hfA⟩ := hA.facts; obtain ⟨hcB, hfB⟩ := hB.facts; go_simp; (try with_reducible rfl); done)); simp only [Act.put, Act.eval, List.setIfInBounds_toArray, List.set_cons_zero, List.set_cons_succ, Array.getD_eq_getD_getElem?, List.getElem?_toArray, List.getElem?_cons_zero, List.getElem?_cons_succ, Option.getD_some]))
          refine eag_hard ?_
          obtain ⟨hcM, hfM⟩ := HM.facts
          go_wp2_with fail
          have PA := HA
          have PB := HB
          have PO := HO
          have PM := HM
          have Pbw := bw
          replace HA : Hd ((((w5.setCell ⟨w4.heap.size, 0, none⟩ (.int .i64 a.lo)).setCell ⟨w4.heap.size, 1, none⟩ (.int .i64 a.hi)).setCell ⟨w4.heap.size, 2, none⟩ (.int .i64 b.lo)).setCell ⟨w4.heap.size, 3, none⟩ (.int .i64 b.hi)) w.heap.size 25 #[.int .i64 x.re.lo, .int .i64 x.re.hi, .int .i64 x.im.lo, .int .i64 x.im.hi] := by (repeat' (first | (with_reducible assumption) | (with_reducible refine Hd.new ?_; (try simp only [World.size_alloc, World.size_setCell, World.size_drew]); done) | with_reducible refine Hd.alloc ?_ _ | with_reducible refine Hd.drew ?_ | with_reducible refine Hd.drewN ?_ _ | with_reducible apply Hd.set' | (with_reducible apply Hd.far; case hp => first | (simp; done) | (simp; omega)) | exact (rfl : Array.setIfInBounds _ _ _ = _)))
          replace HB : Hd ((((w5.setCell ⟨w4.heap.size, 0, none⟩ (.int .i64 a.lo)).setCell ⟨w4.heap.size, 1, none⟩ (.int .i64 a.hi)).setCell ⟨w4.heap.size, 2, none⟩ (.int .i64 b.lo)).setCell ⟨w4.heap.size, 3, none⟩ (.int .i64 b.hi)) (w.heap.size + 1) 25 #[.int .i64 y.re.lo, .int .i64 y.re.hi, .int .i64 y.im.lo, .int .i64 y.im.hi] := by (repeat' (first | (with_reducible assumption) | (with_reducible refine Hd.new ?_; (try simp only [World.size_alloc, World.size_setCell, World.size_drew]); done) | with_reducible refine Hd.alloc ?_ _ | with_reducible refine Hd.drew ?_ | with_reducible refine Hd.drewN ?_ _ | with_reducible apply Hd.set' | (with_reducible apply Hd.far; case hp => first | (simp; done) | (simp; omega)) | exact (rfl : Array.setIfInBounds _ _ _ = _)))
          replace HO : Hd ((((w5.setCell ⟨w4.heap.size, 0, none⟩ (.int .i64 a.lo)).setCell ⟨w4.heap.size, 1, none⟩ (.int .i64 a.hi)).setCell ⟨w4.heap.size, 2, none⟩ (.int .i64 b.lo)).setCell ⟨w4.heap.size, 3, none⟩ (.int .i64 b.hi)) (w.heap.size + 2) 25 #[.int .i64 0, .int .i64 0, .int .i64 0, .int .i64 0] := by (repeat' (first | (with_reducible assumption) | (with_reducible refine Hd.new ?_; (try simp only [World.size_alloc, World.size_setCell, World.size_drew]); done) | with_reducible refine Hd.alloc ?_ _ | with_reducible refine Hd.drew ?_ | with_reducible refine Hd.drewN ?_ _ | with_reducible apply Hd.set' | (with_reducible apply Hd.far; case hp => first | (simp; done) | (simp; omega)) | exact (rfl : Array.setIfInBounds _ _ _ = _)))
          replace HM : Hd ((((w5.setCell ⟨w4.heap.size, 0, none⟩ (.int .i64 a.lo)).setCell ⟨w4.heap.size, 1, none⟩ (.int .i64 a.hi)).setCell ⟨w4.heap.size, 2, none⟩ (.int .i64 b.lo)).setCell ⟨w4.heap.size, 3, none⟩ (.int .i64 b.hi)) w4.heap.size 25 #[.int .i64 a.lo, .int .i64 a.hi, .int .i64 b.lo, .int .i64 b.hi] := by (repeat' (first | (with_reducible assumption) | (with_reducible refine Hd.new ?_; (try simp only [World.size_alloc, World.size_setCell, World.size_drew]); done) | with_reducible refine Hd.alloc ?_ _ | with_reducible refine Hd.drew ?_ | with_reducible refine Hd.drewN ?_ _ | with_reducible apply Hd.set' | (with_reducible apply Hd.far; case hp => first | (simp; done) | (simp; omega)) | exact (rfl : Array.setIfInBounds _ _ _ = _)))
          replace bw : Below w.heap.size w ((((w5.setCell ⟨w4.heap.size, 0, none⟩ (.int .i64 a.lo)).setCell ⟨w4.heap.size, 1, none⟩ (.int .i64 a.hi)).setCell ⟨w4.heap.size, 2, none⟩ (.int .i64 b.lo)).setCell ⟨w4.heap.size, 3, none⟩ (.int .i64 b.hi)) := by go_grown
          (try refine ⟨⟨HA, HB, bw⟩, ?_⟩)
          repeat (first | (with_reducible refine eag_move ?_; simp only [Act.put, Act.eval, List.setIfInBounds_toArray, List.set_cons_zero, List.set_cons_succ, Array.getD_eq_getD_getElem?, List.getElem?_toArray, List.getElem?_cons_zero, List.getElem?_cons_succ, Option.getD_some]) | (with_reducible refine eag_assign ?_; simp only [Act.put, Act.eval, List.setIfInBounds_toArray, List.set_cons_zero, List.set_cons_succ, Array.getD_eq_getD_getElem?, List.getElem?_toArray, List.getElem?_cons_zero, List.getElem?_cons_succ, Option.getD_some]) | ((with_reducible refine eag_soft (v := ?_) (fun w' hw' => ?_) ?_); rotate_left 1; (focus (obtain ⟨hA, hB, hBw⟩ := hw'; obtain ⟨hcA, hfA⟩ := hA.facts; obtain ⟨hcB, hfB⟩ := hB.facts; go_simp; (try with_reducible rfl); done)); simp only [Act.put, Act.eval, List.setIfInBounds_toArray, List.set_cons_zero, List.set_cons_succ, Array.getD_eq_getD_getElem?, List.getElem?_toArray, List.getElem?_cons_zero, List.getElem?_cons_succ, Option.getD_some]))
          refine eag_nil ?_
          generalize hW : (((w5.setCell ⟨w4.heap.size, 0, none⟩ (.int .i64 a.lo)).setCell ⟨w4.heap.size, 1, none⟩ (.int .i64 a.hi)).setCell ⟨w4.heap.size, 2, none⟩ (.int .i64 b.lo)).setCell ⟨w4.heap.size, 3, none⟩ (.int .i64 b.hi) = w6 at HA HB HO HM bw ⊢
          clear hW
          have lw6 : w.heap.size ≤ w6.heap.size := bw.size
          obtain ⟨hcM, hfM⟩ := HM.facts
          go_wp2_with fail
          refine (CM.out _).mono ?_
          rintro e w7 ⟨rfl, hb7⟩
          replace bw : Below w.heap.size w w7 := below_next bw hb7
          replace HA := HA.call hb7
          replace HB := HB.call hb7
          replace HO := HO.call hb7
          replace HM := HM.call hb7
          have lw7 : w.heap.size ≤ w7.heap.size := bw.size
          clear hb7
          obtain ⟨hcM, hfM⟩ := HM.facts
          obtain ⟨hcO, hfO⟩ := HO.facts
          cases o
          · go_wp2
            refine bodyPost_ret (run_results3 rfl rfl (by (show Hd _ ((w.heap.size + 2)) 25 #[.int .i64 0, .int .i64 0, .int .i64 0, .int .i64 0]); (repeat' (first | (with_reducible assumption) | (with_reducible refine Hd.new ?_; (try simp only [World.size_alloc, World.size_setCell, World.size_drew]); done) | with_reducible refine Hd.alloc ?_ _ | with_reducible refine Hd.drew ?_ | with_reducible refine Hd.drewN ?_ _ | with_reducible apply Hd.set' | (with_reducible apply Hd.far; case hp => first | (simp; done) | (simp; omega)) | exact (rfl : Array.setIfInBounds _ _ _ = _)))) Try.underlying25 rfl (by kernel_rfl)) rfl ⟨rfl, by go_grown⟩
          · go_wp2
            refine bodyPost_ret (run_results3 rfl rfl (by (show Hd _ ((w.heap.size + 2)) 25 #[.int .i64 a.lo, .int .i64 a.hi, .int .i64 b.lo, .int .i64 b.hi]); (repeat' (first | (with_reducible assumption) | (with_reducible refine Hd.new ?_; (try simp only [World.size_alloc, World.size_setCell, World.size_drew]); done) | with_reducible refine Hd.alloc ?_ _ | with_reducible refine Hd.drew ?_ | with_reducible refine Hd.drewN ?_ _ | with_reducible apply Hd.set' | (with_reducible apply Hd.far; case hp => first | (simp; done) | (simp; omega)) | exact (rfl : Array.setIfInBounds _ _ _ = _)))) Try.underlying25 rfl (by kernel_rfl)) rfl ⟨rfl, by go_grown⟩
      · go_wp2_with fail
        have PA := HA
        have PB := HB
        have PO := HO
        have Pbw := bw
        have ltAM : w.heap.size < w3.heap.size := by (have := HA.lt; (try simp only [World.size_alloc, World.size_setCell, World.size_drew] at this); omega)
        have ltBM : (w.heap.size + 1) < w3.heap.size := by (have := HB.lt; (try simp only [World.size_alloc, World.size_setCell, World.size_drew] at this); omega)
        have ltOM : (w.heap.size + 2) < w3.heap.size := by (have := HO.lt; (try simp only [World.size_alloc, World.size_setCell, World.size_drew] at this); omega)
        replace HA : Hd (w3.alloc (.cells #[.int .i64 0, .int .i64 0, .int .i64 0, .int .i64 0] 25)) w.heap.size 25 #[.int .i64 x.re.lo, .int .i64 x.re.hi, .int .i64 x.im.lo, .int .i64 x.im.hi] := by (repeat' (first | (with_reducible assumption) | (with_reducible refine Hd.new ?_; (try simp only [World.size_alloc, World.size_setCell, World.size_drew]); done) | with_reducible refine Hd.alloc ?_ _ | with_reducible refine Hd.drew ?_ | with_reducible refine Hd.drewN ?_ _ | with_reducible apply Hd.set' | (with_reducible apply Hd.far; case hp => first | (simp; done) | (simp; omega)) | exact (rfl : Array.setIfInBounds _ _ _ = _)))
        replace HB : Hd (w3.alloc (.cells #[.int .i64 0, .int .i64 0, .int .i64 0, .int .i64 0] 25)) (w.heap.size + 1) 25 #[.int .i64 y.re.lo, .int .i64 y.re.hi, .int .i64 y.im.lo, .int .i64 y.im.hi] := by (repeat' (first | (with_reducible assumption) | (with_reducible refine Hd.new ?_; (try simp only [World.size_alloc, World.size_setCell, World.size_drew]); done) | with_reducible refine Hd.alloc ?_ _ | with_reducible refine Hd.drew ?_ | with_reducible refine Hd.drewN ?_ _ | with_reducible apply Hd.set' | (with_reducible apply Hd.far; case hp => first | (simp; done) | (simp; omega)) | exact (rfl : Array.setIfInBounds _ _ _ = _)))
        replace HO : Hd (w3.alloc (.cells #[.int .i64 0, .int .i64 0, .int .i64 0, .int .i64 0] 25)) (w.heap.size + 2) 25 #[.int .i64 0, .int .i64 0, .int .i64 0, .int .i64 0] := by (repeat' (first | (with_reducible assumption) | (with_reducible refine Hd.new ?_; (try simp only [World.size_alloc, World.size_setCell, World.size_drew]); done) | with_reducible refine Hd.alloc ?_ _ | with_reducible refine Hd.drew ?_ | with_reducible refine Hd.drewN ?_ _ | with_reducible apply Hd.set' | (with_reducible apply Hd.far; case hp => first | (simp; done) | (simp; omega)) | exact (rfl : Array.setIfInBounds _ _ _ = _)))
        replace bw : Below w.heap.size w (w3.alloc (.cells #[.int .i64 0, .int .i64 0, .int .i64 0, .int .i64 0] 25)) := by go_grown
        have HM : Hd (w3.alloc (.cells #[.int .i64 0, .int .i64 0, .int .i64 0, .int .i64 0] 25)) w3.heap.size 25 #[.int .i64 0, .int .i64 0, .int .i64 0, .int .i64 0] := by (repeat' (first | (with_reducible assumption) | (with_reducible refine Hd.new ?_; (try simp only [World.size_alloc, World.size_setCell, World.size_drew]); done) | with_reducible refine Hd.alloc ?_ _ | with_reducible refine Hd.drew ?_ | with_reducible refine Hd.drewN ?_ _ | with_reducible apply Hd.set' | (with_reducible apply Hd.far; case hp => first | (simp; done) | (simp; omega)) | exact (rfl : Array.setIfInBounds _ _ _ = _)))
        (try refine ⟨⟨HA, HB, bw⟩, ?_⟩)
        repeat (first | (with_reducible refine eag_move ?_; simp only [Act.put, Act.eval, List.setIfInBounds_toArray, List.set_cons_zero, List.set_cons_succ, Array.getD_eq_getD_getElem?, List.getElem?_toArray, List.getElem?_cons_zero, List.getElem?_cons_succ, Option.getD_some]) | (with_reducible refine eag_assign ?_; simp only [Act.put, Act.eval, List.setIfInBounds_toArray, List.set_cons_zero, List.set_cons_succ, Array.getD_eq_getD_getElem?, List.getElem?_toArray, List.getElem?_cons_zero, List.getElem?_cons_succ, Option.getD_some]) | ((with_reducible refine eag_soft (v := ?_) (fun w' hw' => ?_) ?_); rotate_left 1; (focus (obtain ⟨hA, hB, hBw⟩ := hw'; obtain ⟨hcA, hfA⟩ := hA.facts; obtain ⟨hcB, hfB⟩ := hB.facts; go_simp; (try with_reducible rfl); done)); simp only [Act.put, Act.eval, List.setIfInBounds_toArray, List.set_cons_zero, List.set_cons_succ, Array.getD_eq_getD_getElem?, List.getElem?_toArray, List.getElem?_cons_zero, List.getElem?_cons_succ, Option.getD_some]))
        repeat (first | (with_reducible refine eag_move ?_; simp only [Act.put, Act.eval, List.setIfInBounds_toArray, List.set_cons_zero, List.set_cons_succ, Array.getD_eq_getD_getElem?, List.getElem?_toArray, List.getElem?_cons_zero, List.getElem?_cons_succ, Option.getD_some]) | (with_reducible refine eag_assign ?_; simp only [Act.put, Act.eval, List.setIfInBounds_toArray, List.set_cons_zero, List.set_cons_succ, Array.getD_eq_getD_getElem?, List.getElem?_toArray, List.getElem?_cons_zero, List.getElem?_cons_succ, Option.getD_some]) | ((with_reducible refine eag_soft (v := ?_) (fun w' hw' => ?_) ?_); rotate_left 1; (focus (obtain ⟨hA, hB, hBw⟩ := hw'; obtain ⟨hcA, hfA⟩ := hA.facts; obtain ⟨hcB, hfB⟩ := hB.facts; go_simp; (try with_reducible rfl); done)); simp only [Act.put, Act.eval, List.setIfInBounds_toArray, List.set_cons_zero, List.set_cons_succ, Array.getD_eq_getD_getElem?, List.getElem?_toArray, List.getElem?_cons_zero, List.getElem?_cons_succ, Option.getD_some]))
        refine eag_hard ?_
        go_wp2_with fail
        refine (CA.out _).mono ?_
        rintro e w4 ⟨rfl, hb4⟩
        replace bw : Below w.heap.size w w4 := below_next bw hb4
        replace HA := HA.call hb4
        replace HB := HB.call hb4
        replace HO := HO.call hb4
        replace HM := HM.call hb4
        have lw4 : w.heap.size ≤ w4.heap.size := bw.size
        clear hb4
        go_wp2_with fail
        (try refine ⟨⟨HA, HB, bw⟩, ?_⟩)
        repeat (first | (with_reducible refine eag_move ?_; simp only [Act.put, Act.eval, List.setIfInBounds_toArray, List.set_cons_zero, List.set_cons_succ, Array.getD_eq_getD_getElem?, List.getElem?_toArray, List.getElem?_cons_zero, List.getElem?_cons_succ, Option.getD_some]) | (with_reducible refine eag_assign ?_; simp only [Act.put, Act.eval, List.setIfInBounds_toArray, List.set_cons_zero, List.set_cons_succ, Array.getD_eq_getD_getElem?, List.getElem?_toArray, List.getElem?_cons_zero, List.getElem?_cons_succ, Option.getD_some]) | ((with_reducible refine eag_soft (v := ?_) (fun w' hw' => ?_) ?_); rotate_left 1; (focus (obtain ⟨hA, hB, hBw⟩ := hw'; obtain ⟨hcA, hfA⟩ := hA.facts; obtain ⟨hcB, hfB⟩ := hB.facts; go_simp; (try with_reducible rfl); done)); simp only [Act.put, Act.eval, List.setIfInBounds_toArray, List.set_cons_zero, List.set_cons_succ, Array.getD_eq_getD_getElem?, List.getElem?_toArray, List.getElem?_cons_zero, List.getElem?_cons_succ, Option.getD_some]))
        refine eag_hard ?_
        go_wp2_with fail
        refine (CB.out _).mono ?_
        rintro e w5 ⟨rfl, hb5⟩
        replace bw : Below w.heap.size w w5 := below_next bw hb5
        replace HA := HA.call hb5
        replace HB := HB.call hb5
        replace HO := HO.call hb5
        replace HM := HM.call hb5
        have lw5 : w.heap.size ≤ w5.heap.size := bw.size
        clear hb5
        go_wp2_with fail
        (try refine ⟨⟨HA, HB, bw⟩, ?_⟩)
        repeat (first | (with_reducible refine eag_move ?_; simp only [Act.put, Act.eval, List.setIfInBounds_toArray, List.set_cons_zero, List.set_cons_succ, Array.getD_eq_getD_getElem?, List.getElem?_toArray, List.getElem?_cons_zero, List.getElem?_cons_succ, Option.getD_some]) | (with_reducible refine eag_assign ?_; simp only [Act.put, Act.eval, List.setIfInBounds_toArray, List.set_cons_zero, List.set_cons_succ, Array.getD_eq_getD_getElem?, List.getElem?_toArray, List.getElem?_cons_zero, List.getElem?_cons_succ, Option.getD_some]) | ((with_reducible refine eag_soft (v := ?_) (fun w' hw' => ?_) ?_); rotate_left 1; (focus (obtain ⟨hA, hB, hBw⟩ := hw'; obtain ⟨hcA, hfA⟩ := hA.facts; obtain ⟨hcB, hfB⟩ := hB.facts; go_simp; (try with_reducible rfl); done)); simp only [Act.put, Act.eval, List.setIfInBounds_toArray, List.set_cons_zero, List.set_cons_succ, Array.getD_eq_getD_getElem?, List.getElem?_toArray, List.getElem?_cons_zero, List.getElem?_cons_succ, Option.getD_some]))
        refine eag_hard ?_
        go_wp2_with fail
        (try refine ⟨⟨HA, HB, bw⟩, ?_⟩)
        repeat (first | (with_reducible refine eag_move ?_; simp only [Act.put, Act.eval, List.setIfInBounds_toArray, List.set_cons_zero, List.set_cons_succ, Array.getD_eq_getD_getElem?, List.getElem?_toArray, List.getElem?_cons_zero, List.getElem?_cons_succ, Option.getD_some]) | (with_reducible refine eag_assign ?_; simp only [Act.put, Act.eval, List.setIfInBounds_toArray, List.set_cons_zero, List.set_cons_succ, Array.getD_eq_getD_getElem?, List.getElem?_toArray, List.getElem?_cons_zero, List.getElem?_cons_succ, Option.getD_some]) | ((with_reducible refine eag_soft (v := ?_) (fun w' hw' => ?_) ?_); rotate_left 1; (focus (obtain ⟨hA, hB, hBw⟩ := hw'; obtain ⟨hcA, hfA⟩ := hA.facts; obtain ⟨hcB, hfB⟩ := hB.facts; go_simp; (try with_reducible rfl); done)); simp only [Act.put, Act.eval, List.setIfInBounds_toArray, List.set_cons_zero, List.set_cons_succ, Array.getD_eq_getD_getElem?, List.getElem?_toArray, List.getElem?_cons_zero, List.getElem?_cons_succ, Option.getD_some]))
        refine eag_hard ?_
        obtain ⟨hcM, hfM⟩ := HM.facts
        go_wp2_with fail
        have PA := HA
        have PB := HB
        have PO := HO
        have PM := HM
        have Pbw := bw
        replace HA : Hd ((((w5.setCell ⟨w3.heap.size, 0, none⟩ (.int .i64 a.lo)).setCell ⟨w3.heap.size, 1, none⟩ (.int .i64 a.hi)).setCell ⟨w3.heap.size, 2, none⟩ (.int .i64 b.lo)).setCell ⟨w3.heap.size, 3, none⟩ (.int .i64 b.hi)) w.heap.size 25 #[.int .i64 x.re.lo, .int .i64 x.re.hi, .int .i64 x.im.lo, .int .i64 x.im.hi] := by (repeat' (first | (with_reducible assumption) | (with_reducible refine Hd.new ?_; (try simp only [World.size_alloc, World.size_setCell, World.size_drew]); done) | with_reducible refine Hd.alloc ?_ _ | with_reducible refine Hd.drew ?_ | with_reducible refine Hd.drewN ?_ _ | with_reducible apply Hd.set' | (with_reducible apply Hd.far; case hp => first | (simp; done) | (simp; omega)) | exact (rfl : Array.setIfInBounds _ _ _ = _)))
        replace HB : Hd ((((w5.setCell ⟨w3.heap.size, 0, none⟩ (.int .i64 a.lo)).setCell ⟨w3.heap.size, 1, none⟩ (.int .i64 a.hi)).setCell ⟨w3.heap.size, 2, none⟩ (.int .i64 b.lo)).setCell ⟨w3.heap.size, 3, none⟩ (.int .i64 b.hi)) (w.heap.size + 1) 25 #[.int .i64 y.re.lo, .int .i64 y.re.hi, .int .i64 y.im.lo, .int .i64 y.im.hi] := by (repeat' (first | (with_reducible assumption) | (with_reducible refine Hd.new ?_; (try simp only [World.size_alloc, World.size_setCell, World.size_drew]); done) | with_reducible refine Hd.alloc ?_ _ | with_reducible refine Hd.drew ?_ | with_reducible refine Hd.drewN ?_ _ | with_reducible apply Hd.set' | (with_reducible apply Hd.far; case hp => first | (simp; done) | (simp; omega)) | exact (rfl : Array.setIfInBounds _ _ _ = _)))
        replace HO : Hd ((((w5.setCell ⟨w3.heap.size, 0, none⟩ (.int .i64 a.lo)).setCell ⟨w3.heap.size, 1, none⟩ (.int .i64 a.hi)).setCell ⟨w3.heap.size, 2, none⟩ (.int .i64 b.lo)).setCell ⟨w3.heap.size, 3, none⟩ (.int .i64 b.hi)) (w.heap.size + 2) 25 #[.int .i64 0, .int .i64 0, .int .i64 0, .int .i64 0] := by (repeat' (first | (with_reducible assumption) | (with_reducible refine Hd.new ?_; (try simp only [World.size_alloc, World.size_setCell, World.size_drew]); done) | with_reducible refine Hd.alloc ?_ _ | with_reducible refine Hd.drew ?_ | with_reducible refine Hd.drewN ?_ _ | with_reducible apply Hd.set' | (with_reducible apply Hd.far; case hp => first | (simp; done) | (simp; omega)) | exact (rfl : Array.setIfInBounds _ _ _ = _)))
        replace HM : Hd ((((w5.setCell ⟨w3.heap.size, 0, none⟩ (.int .i64 a.lo)).setCell ⟨w3.heap.size, 1, none⟩ (.int .i64 a.hi)).setCell ⟨w3.heap.size, 2, none⟩ (.int .i64 b.lo)).setCell ⟨w3.heap.size, 3, none⟩ (.int .i64 b.hi)) w3.heap.size 25 #[.int .i64 a.lo, .int .i64 a.hi, .int .i64 b.lo, .int .i64 b.hi] := by (repeat' (first | (with_reducible assumption) | (with_reducible refine Hd.new ?_; (try simp only [World.size_alloc, World.size_setCell, World.size_drew]); done) | with_reducible refine Hd.alloc ?_ _ | with_reducible refine Hd.drew ?_ | with_reducible refine Hd.drewN ?_ _ | with_reducible apply Hd.set' | (with_reducible apply Hd.far; case hp => first | (simp; done) | (simp; omega)) | exact (rfl : Array.setIfInBounds _ _ _ = _)))
        replace bw : Below w.heap.size w ((((w5.setCell ⟨w3.heap.size, 0, none⟩ (.int .i64 a.lo)).setCell ⟨w3.heap.size, 1, none⟩ (.int .i64 a.hi)).setCell ⟨w3.heap.size, 2, none⟩ (.int .i64 b.lo)).setCell ⟨w3.heap.size, 3, none⟩ (.int .i64 b.hi)) := by go_grown
        (try refine ⟨⟨HA, HB, bw⟩, ?_⟩)
        repeat (first | (with_reducible refine eag_move ?_; simp only [Act.put, Act.eval, List.setIfInBounds_toArray, List.set_cons_zero, List.set_cons_succ, Array.getD_eq_getD_getElem?, List.getElem?_toArray, List.getElem?_cons_zero, List.getElem?_cons_succ, Option.getD_some]) | (with_reducible refine eag_assign ?_; simp only [Act.put, Act.eval, List.setIfInBounds_toArray, List.set_cons_zero, List.set_cons_succ, Array.getD_eq_getD_getElem?, List.getElem?_toArray, List.getElem?_cons_zero, List.getElem?_cons_succ, Option.getD_some]) | ((with_reducible refine eag_soft (v := ?_) (fun w' hw' => ?_) ?_); rotate_left 1; (focus (obtain ⟨hA, hB, hBw⟩ := hw'; obtain ⟨hcA, hfA⟩ := hA.facts; obtain ⟨hcB, hfB⟩ := hB.facts; go_simp; (try with_reducible rfl); done)); simp only [Act.put, Act.eval, List.setIfInBounds_toArray, List.set_cons_zero, List.set_cons_succ, Array.getD_eq_getD_getElem?, List.getElem?_toArray, List.getElem?_cons_zero, List.getElem?_cons_succ, Option.getD_some]))
        refine eag_nil ?_
        generalize hW : (((w5.setCell ⟨w3.heap.size, 0, none⟩ (.int .i64 a.lo)).setCell ⟨w3.heap.size, 1, none⟩ (.int .i64 a.hi)).setCell ⟨w3.heap.size, 2, none⟩ (.int .i64 b.lo)).setCell ⟨w3.heap.size, 3, none⟩ (.int .i64 b.hi) = w6 at HA HB HO HM bw ⊢
        clear hW
        have lw6 : w.heap.size ≤ w6.heap.size := bw.size
        obtain ⟨hcM, hfM⟩ := HM.facts
        go_wp2_with fail
        refine (CM.out _).mono ?_
        rintro e w7 ⟨rfl, hb7⟩
        replace bw : Below w.heap.size w w7 := below_next bw hb7
        replace HA := HA.call hb7
        replace HB := HB.call hb7
        replace HO := HO.call hb7
        replace HM := HM.call hb7
        have lw7 : w.heap.size ≤ w7.heap.size := bw.size
        clear hb7
        obtain ⟨hcM, hfM⟩ := HM.facts
        obtain ⟨hcO, hfO⟩ := HO.facts
        cases o
        · go_wp2
          refine bodyPost_ret (run_results3 rfl rfl (by (show Hd _ ((w.heap.size + 2)) 25 #[.int .i64 0, .int .i64 0, .int .i64 0, .int .i64 0]); (repeat' (first | (with_reducible assumption) | (with_reducible refine Hd.new ?_; (try simp only [World.size_alloc, World.size_setCell, World.size_drew]); done) | with_reducible refine Hd.alloc ?_ _ | with_reducible refine Hd.drew ?_ | with_reducible refine Hd.drewN ?_ _ | with_reducible apply Hd.set' | (with_reducible apply Hd.far; case hp => first | (simp; done) | (simp; omega)) | exact (rfl : Array.setIfInBounds _ _ _ = _)))) Try.underlying25 rfl (by kernel_rfl)) rfl ⟨rfl, by go_grown⟩
        · go_wp2
          refine bodyPost_ret (run_results3 rfl rfl (by (show Hd _ ((w.heap.size + 2)) 25 #[.int .i64 a.lo, .int .i64 a.hi, .int .i64 b.lo, .int .i64 b.hi]); (repeat' (first | (with_reducible assumption) | (with_reducible refine Hd.new ?_; (try simp only [World.size_alloc, World.size_setCell, World.size_drew]); done) | with_reducible refine Hd.alloc ?_ _ | with_reducible refine Hd.drew ?_ | with_reducible refine Hd.drewN ?_ _ | with_reducible apply Hd.set' | (with_reducible apply Hd.far; case hp => first | (simp; done) | (simp; omega)) | exact (rfl : Array.setIfInBounds _ _ _ = _)))) Try.underlying25 rfl (by kernel_rfl)) rfl ⟨rfl, by go_grown⟩
end Go.Proofs.Ytpbbbfglecbceaa
