/- Several texts in one. -/
import Derived.Test.YtpbbbfglecbceaaMt4
/- Package enclose: Meet. -/
namespace Go.Proofs.Ytpbbbfglecbceaa
set_option linter.all false
open Go.RowKit

set_option maxHeartbeats 4000000 in
theorem meetE_any (x y : En.Rc) (w : World) : Calls Try.prog 35 #[rcV x, rcV y] w fun e w' => e = .returned (.tuple #[rcV (capR x y).1, .bool (capR x y).2.1, .int .i64 (capR x y).2.2]) ∧ Below w.heap.size w w' := by
  have CV := validR2_any x y
  unfold capR
  have CA := meet_any x.re y.re
  have CB := meet_any x.im y.im
  obtain ⟨a, ha⟩ : ∃ a, En.cap x.re y.re = a := ⟨_, rfl⟩
  obtain ⟨b, hb⟩ : ∃ b, En.cap x.im y.im = b := ⟨_, rfl⟩
  rw [ha] at CA
  rw [hb] at CB
  rw [ha, hb]
  clear ha hb
  have CM := validR1_any ⟨a, b⟩
  obtain ⟨o, ho⟩ : ∃ o, (⟨a, b⟩ : En.Rc).ok = o := ⟨_, rfl⟩
  rw [ho] at CM
  rw [ho]
  clear ho
  dsimp only at CM
  replace CA := Lib.hid CA
  replace CB := Lib.hid CB
  replace CM := Lib.hid CM
  cases hv : (x.ok && y.ok) <;> rw [hv] at CV <;> clear hv <;> replace CV := Lib.hid CV
  · go_enter Try.func35, Try.ntmps35
    go_wp2_with fail
    have HA : Hd ((((w.alloc (.cells #[.int .i64 x.re.lo, .int .i64 x.re.hi, .int .i64 x.im.lo, .int .i64 x.im.hi] 25)).alloc (.cells #[.int .i64 y.re.lo, .int .i64 y.re.hi, .int .i64 y.im.lo, .int .i64 y.im.hi] 25)).alloc (.cells #[.int .i64 0, .int .i64 0, .int .i64 0, .int .i64 0] 25)).alloc (.cells #[.int .i64 x.re.lo, .int .i64 x.re.hi, .int .i64 x.im.lo, .int .i64 x.im.hi, .int .i64 y.re.lo, .int .i64 y.re.hi, .int .i64 y.im.lo, .int .i64 y.im.hi] 25)) w.heap.size 25 #[.int .i64 x.re.lo, .int .i64 x.re.hi, .int .i64 x.im.lo, .int .i64 x.im.hi] := hdx
    have HB : Hd ((((w.alloc (.cells #[.int .i64 x.re.lo, .int .i64 x.re.hi, .int .i64 x.im.lo, .int .i64 x.im.hi] 25)).alloc (.cells #[.int .i64 y.re.lo, .int .i64 y.re.hi, .int .i64 y.im.lo, .int .i64 y.im.hi] 25)).alloc (.cells #[.int .i64 0, .int .i64 0, .int .i64 0, .int .i64 0] 25)).alloc (.cells #[.int .i64 x.re.lo, .int .i64 x.re.hi, .int .i64 x.im.lo, .int .i64 x.im.hi, .int .i64 y.re.lo, .int .i64 y.re.hi, .int .i64 y.im.lo, .int .i64 y.im.hi] 25)) (w.heap.size + 1) 25 #[.int .i64 y.re.lo, .int .i64 y.re.hi, .int .i64 y.im.lo, .int .i64 y.im.hi] := hdx
    have HO : Hd ((((w.alloc (.cells #[.int .i64 x.re.lo, .int .i64 x.re.hi, .int .i64 x.im.lo, .int .i64 x.im.hi] 25)).alloc (.cells #[.int .i64 y.re.lo, .int .i64 y.re.hi, .int .i64 y.im.lo, .int .i64 y.im.hi] 25)).alloc (.cells #[.int .i64 0, .int .i64 0, .int .i64 0, .int .i64 0] 25)).alloc (.cells #[.int .i64 x.re.lo, .int .i64 x.re.hi, .int .i64 x.im.lo, .int .i64 x.im.hi, .int .i64 y.re.lo, .int .i64 y.re.hi, .int .i64 y.im.lo, .int .i64 y.im.hi] 25)) (w.heap.size + 2) 25 #[.int .i64 0, .int .i64 0, .int .i64 0, .int .i64 0] := hdx
    have HV : Hd ((((w.alloc (.cells #[.int .i64 x.re.lo, .int .i64 x.re.hi, .int .i64 x.im.lo, .int .i64 x.im.hi] 25)).alloc (.cells #[.int .i64 y.re.lo, .int .i64 y.re.hi, .int .i64 y.im.lo, .int .i64 y.im.hi] 25)).alloc (.cells #[.int .i64 0, .int .i64 0, .int .i64 0, .int .i64 0] 25)).alloc (.cells #[.int .i64 x.re.lo, .int .i64 x.re.hi, .int .i64 x.im.lo, .int .i64 x.im.hi, .int .i64 y.re.lo, .int .i64 y.re.hi, .int .i64 y.im.lo, .int .i64 y.im.hi] 25)) (w.heap.size + 3) 25 #[.int .i64 x.re.lo, .int .i64 x.re.hi, .int .i64 x.im.lo, .int .i64 x.im.hi, .int .i64 y.re.lo, .int .i64 y.re.hi, .int .i64 y.im.lo, .int .i64 y.im.hi] := hdx
    have bw : Below w.heap.size w ((((w.alloc (.cells #[.int .i64 x.re.lo, .int .i64 x.re.hi, .int .i64 x.im.lo, .int .i64 x.im.hi] 25)).alloc (.cells #[.int .i64 y.re.lo, .int .i64 y.re.hi, .int .i64 y.im.lo, .int .i64 y.im.hi] 25)).alloc (.cells #[.int .i64 0, .int .i64 0, .int .i64 0, .int .i64 0] 25)).alloc (.cells #[.int .i64 x.re.lo, .int .i64 x.re.hi, .int .i64 x.im.lo, .int .i64 x.im.hi, .int .i64 y.re.lo, .int .i64 y.re.hi, .int .i64 y.im.lo, .int .i64 y.im.hi] 25)) := by go_grown
    refine (CV.out _ _ _ HV).mono ?_
    rintro e w1 ⟨rfl, hb1⟩
    replace bw : Below w.heap.size w w1 := below_next bw hb1
    replace HA := HA.call hb1
    replace HB := HB.call hb1
    replace HO := HO.call hb1
    replace HV := HV.call hb1
    have lw1 : w.heap.size ≤ w1.heap.size := bw.size
    clear hb1
    obtain ⟨hcA, hfA⟩ := HA.facts
    obtain ⟨hcB, hfB⟩ := HB.facts
    obtain ⟨hcO, hfO⟩ := HO.facts
    go_wp2
    refine bodyPost_ret (run_results3 rfl rfl (by (show Hd _ (w.heap.size + 2) 25 #[.int .i64 0, .int .i64 0, .int .i64 0, .int .i64 0]); exact hdx) Try.underlying25 rfl (by kernel_rfl)) rfl ⟨rfl, by go_grown⟩
  · go_enter Try.func35, Try.ntmps35
    go_wp2_with fail
    have HA : Hd ((((w.alloc (.cells #[.int .i64 x.re.lo, .int .i64 x.re.hi, .int .i64 x.im.lo, .int .i64 x.im.hi] 25)).alloc (.cells #[.int .i64 y.re.lo, .int .i64 y.re.hi, .int .i64 y.im.lo, .int .i64 y.im.hi] 25)).alloc (.cells #[.int .i64 0, .int .i64 0, .int .i64 0, .int .i64 0] 25)).alloc (.cells #[.int .i64 x.re.lo, .int .i64 x.re.hi, .int .i64 x.im.lo, .int .i64 x.im.hi, .int .i64 y.re.lo, .int .i64 y.re.hi, .int .i64 y.im.lo, .int .i64 y.im.hi] 25)) w.heap.size 25 #[.int .i64 x.re.lo, .int .i64 x.re.hi, .int .i64 x.im.lo, .int .i64 x.im.hi] := hdx
    have HB : Hd ((((w.alloc (.cells #[.int .i64 x.re.lo, .int .i64 x.re.hi, .int .i64 x.im.lo, .int .i64 x.im.hi] 25)).alloc (.cells #[.int .i64 y.re.lo, .int .i64 y.re.hi, .int .i64 y.im.lo, .int .i64 y.im.hi] 25)).alloc (.cells #[.int .i64 0, .int .i64 0, .int .i64 0, .int .i64 0] 25)).alloc (.cells #[.int .i64 x.re.lo, .int .i64 x.re.hi, .int .i64 x.im.lo, .int .i64 x.im.hi, .int .i64 y.re.lo, .int .i64 y.re.hi, .int .i64 y.im.lo, .int .i64 y.im.hi] 25)) (w.heap.size + 1) 25 #[.int .i64 y.re.lo, .int .i64 y.re.hi, .int .i64 y.im.lo, .int .i64 y.im.hi] := hdx
    have HO : Hd ((((w.alloc (.cells #[.int .i64 x.re.lo, .int .i64 x.re.hi, .int .i64 x.im.lo, .int .i64 x.im.hi] 25)).alloc (.cells #[.int .i64 y.re.lo, .int .i64 y.re.hi, .int .i64 y.im.lo, .int .i64 y.im.hi] 25)).alloc (.cells #[.int .i64 0, .int .i64 0, .int .i64 0, .int .i64 0] 25)).alloc (.cells #[.int .i64 x.re.lo, .int .i64 x.re.hi, .int .i64 x.im.lo, .int .i64 x.im.hi, .int .i64 y.re.lo, .int .i64 y.re.hi, .int .i64 y.im.lo, .int .i64 y.im.hi] 25)) (w.heap.size + 2) 25 #[.int .i64 0, .int .i64 0, .int .i64 0, .int .i64 0] := hdx
    have HV : Hd ((((w.alloc (.cells #[.int .i64 x.re.lo, .int .i64 x.re.hi, .int .i64 x.im.lo, .int .i64 x.im.hi] 25)).alloc (.cells #[.int .i64 y.re.lo, .int .i64 y.re.hi, .int .i64 y.im.lo, .int .i64 y.im.hi] 25)).alloc (.cells #[.int .i64 0, .int .i64 0, .int .i64 0, .int .i64 0] 25)).alloc (.cells #[.int .i64 x.re.lo, .int .i64 x.re.hi, .int .i64 x.im.lo, .int .i64 x.im.hi, .int .i64 y.re.lo, .int .i64 y.re.hi, .int .i64 y.im.lo, .int .i64 y.im.hi] 25)) (w.heap.size + 3) 25 #[.int .i64 x.re.lo, .int .i64 x.re.hi, .int .i64 x.im.lo, .int .i64 x.im.hi, .int .i64 y.re.lo, .int .i64 y.re.hi, .int .i64 y.im.lo, .int .i64 y.im.hi] := hdx
    have bw : Below w.heap.size w ((((w.alloc (.cells #[.int .i64 x.re.lo, .int .i64 x.re.hi, .int .i64 x.im.lo, .int .i64 x.im.hi] 25)).alloc (.cells #[.int .i64 y.re.lo, .int .i64 y.re.hi, .int .i64 y.im.lo, .int .i64 y.im.hi] 25)).alloc (.cells #[.int .i64 0, .int .i64 0, .int .i64 0, .int .i64 0] 25)).alloc (.cells #[.int .i64 x.re.lo, .int .i64 x.re.hi, .int .i64 x.im.lo, .int .i64 x.im.hi, .int .i64 y.re.lo, .int .i64 y.re.hi, .int .i64 y.im.lo, .int .i64 y.im.hi] 25)) := by go_grown
    refine (CV.out _ _ _ HV).mono ?_
    rintro e w1 ⟨rfl, hb1⟩
    replace bw : Below w.heap.size w w1 := below_next bw hb1
    replace HA := HA.call hb1
    replace HB := HB.call hb1
    replace HO := HO.call hb1
    replace HV := HV.call hb1
    have lw1 : w.heap.size ≤ w1.heap.size := bw.size
    clear hb1
    clear HV
    obtain ⟨hcA, hfA⟩ := HA.facts
    obtain ⟨hcB, hfB⟩ := HB.facts
    obtain ⟨hcO, hfO⟩ := HO.facts
    go_upto_region 3 with fail
    replace HA : Hd (w1.drew) w.heap.size 25 #[.int .i64 x.re.lo, .int .i64 x.re.hi, .int .i64 x.im.lo, .int .i64 x.im.hi] := hdx
    replace HB : Hd (w1.drew) (w.heap.size + 1) 25 #[.int .i64 y.re.lo, .int .i64 y.re.hi, .int .i64 y.im.lo, .int .i64 y.im.hi] := hdx
    replace HO : Hd (w1.drew) (w.heap.size + 2) 25 #[.int .i64 0, .int .i64 0, .int .i64 0, .int .i64 0] := hdx
    replace bw : Below w.heap.size w (w1.drew) := by go_grown
    (refine wp_region_fl (fun w' => Hd w' w.heap.size 25 #[.int .i64 x.re.lo, .int .i64 x.re.hi, .int .i64 x.im.lo, .int .i64 x.im.hi] ∧ Hd w' (w.heap.size + 1) 25 #[.int .i64 y.re.lo, .int .i64 y.re.hi, .int .i64 y.im.lo, .int .i64 y.im.hi] ∧ Below w.heap.size w w') 11 [(0, 0), (1, 0), (2, 0), (3, 0), (5, 0), (6, 0), (7, 0), (8, 0), (4, 2), (9, 2), (10, 2), (11, 1), (12, 1)] (by kernel_rfl) (by kernel_rfl) (fun c d v a w h => by cases d <;> exact h) ⟨HA, HB, bw⟩ ?_; simp only [List.map_cons, List.map_nil, List.getD_cons_zero, List.getD_cons_succ, flMark, Nat.reduceEqDiff, ↓reduceIte])
    generalize hW : w1.drew = w2 at HA HB HO bw ⊢
    clear hW
    have lw2 : w.heap.size ≤ w2.heap.size := bw.size
    repeat ((first | with_reducible apply fl_move | with_reducible apply fl_assign | ((with_reducible refine fl_soft (v := ?_) (fun w' hw' => ?_) ?_); rotate_left 1; (focus (obtain ⟨hA, hB, hBw⟩ := hw'; obtain ⟨hcA, hfA⟩ := hA.facts; obtain ⟨hcB, hfB⟩ := hB.facts; go_simp; (try with_reducible rfl); done)))); simp only [Act.put, Act.eval, qs])
    refine fl_both ?_ ?_
    · go_wp2_with fail
      refine (CA.out _).mono ?_
      rintro e w3 ⟨rfl, hb3⟩
      replace bw : Below w.heap.size w w3 := below_next bw hb3
      replace HA := HA.call hb3
      replace HB := HB.call hb3
      replace HO := HO.call hb3
      have lw3 : w.heap.size ≤ w3.heap.size := bw.size
      clear hb3
      go_wp2_with fail
      (try refine ⟨⟨HA, HB, bw⟩, ?_⟩)
      repeat ((first | with_reducible apply fl_move | with_reducible apply fl_assign | ((with_reducible refine fl_soft (v := ?_) (fun w' hw' => ?_) ?_); rotate_left 1; (focus (obtain ⟨hA, hB, hBw⟩ := hw'; obtain ⟨hcA, hfA⟩ := hA.facts; obtain ⟨hcB, hfB⟩ := hB.facts; go_simp; (try with_reducible rfl); done)))); simp only [Act.put, Act.eval, qs])
      refine fl_both ?_ ?_
      · go_wp2_with fail
        refine (CB.out _).mono ?_
        rintro e w4 ⟨rfl, hb4⟩
        replace bw : Below w.heap.size w w4 := below_next bw hb4
        replace HA := HA.call hb4
        replace HB := HB.call hb4
        replace HO := HO.call hb4
        have lw4 : w.heap.size ≤ w4.heap.size := bw.size
        clear hb4
        go_wp2_with fail
        (try refine ⟨⟨HA, HB, bw⟩, ?_⟩)
        repeat ((first | with_reducible apply fl_move | with_reducible apply fl_assign | ((with_reducible refine fl_soft (v := ?_) (fun w' hw' => ?_) ?_); rotate_left 1; (focus (obtain ⟨hA, hB, hBw⟩ := hw'; obtain ⟨hcA, hfA⟩ := hA.facts; obtain ⟨hcB, hfB⟩ := hB.facts; go_simp; (try with_reducible rfl); done)))); simp only [Act.put, Act.eval, qs])
        refine fl_both ?_ ?_
        · go_wp2_with fail
          (try refine ⟨⟨HA, HB, bw⟩, ?_⟩)
          repeat ((first | with_reducible apply fl_move | with_reducible apply fl_assign | ((with_reducible refine fl_soft (v := ?_) (fun w' hw' => ?_) ?_); rotate_left 1; (focus (obtain ⟨hA, hB, hBw⟩ := hw'; obtain ⟨hcA, hfA⟩ := hA.facts; obtain ⟨hcB, hfB⟩ := hB.facts; go_simp; (try with_reducible rfl); done)))); simp only [Act.put, Act.eval, qs])
          refine fl_must ?_
          go_wp2_with fail
          have PA := HA
          have PB := HB
          have PO := HO
          have Pbw := bw
          have ltAM : w.heap.size < w4.heap.size := by (have := HA.lt; (try simp only [World.size_alloc, World.size_setCell, World.size_drew] at this); omega)
          have ltBM : (w.heap.size + 1) < w4.heap.size := by (have := HB.lt; (try simp only [World.size_alloc, World.size_setCell, World.size_drew] at this); omega)
          have ltOM : (w.heap.size + 2) < w4.heap.size := by (have := HO.lt; (try simp only [World.size_alloc, World.size_setCell, World.size_drew] at this); omega)
          replace HA : Hd (w4.alloc (.cells #[.int .i64 0, .int .i64 0, .int .i64 0, .int .i64 0] 25)) w.heap.size 25 #[.int .i64 x.re.lo, .int .i64 x.re.hi, .int .i64 x.im.lo, .int .i64 x.im.hi] := hdx
          replace HB : Hd (w4.alloc (.cells #[.int .i64 0, .int .i64 0, .int .i64 0, .int .i64 0] 25)) (w.heap.size + 1) 25 #[.int .i64 y.re.lo, .int .i64 y.re.hi, .int .i64 y.im.lo, .int .i64 y.im.hi] := hdx
          replace HO : Hd (w4.alloc (.cells #[.int .i64 0, .int .i64 0, .int .i64 0, .int .i64 0] 25)) (w.heap.size + 2) 25 #[.int .i64 0, .int .i64 0, .int .i64 0, .int .i64 0] := hdx
          replace bw : Below w.heap.size w (w4.alloc (.cells #[.int .i64 0, .int .i64 0, .int .i64 0, .int .i64 0] 25)) := by go_grown
          have HM : Hd (w4.alloc (.cells #[.int .i64 0, .int .i64 0, .int .i64 0, .int .i64 0] 25)) w4.heap.size 25 #[.int .i64 0, .int .i64 0, .int .i64 0, .int .i64 0] := hdx
          (try refine ⟨⟨HA, HB, bw⟩, ?_⟩)
          repeat ((first | with_reducible apply fl_move | with_reducible apply fl_assign | ((with_reducible refine fl_soft (v := ?_) (fun w' hw' => ?_) ?_); rotate_left 1; (focus (obtain ⟨hA, hB, hBw⟩ := hw'; obtain ⟨hcA, hfA⟩ := hA.facts; obtain ⟨hcB, hfB⟩ := hB.facts; go_simp; (try with_reducible rfl); done)))); simp only [Act.put, Act.eval, qs])
          repeat ((first | with_reducible apply fl_move | with_reducible apply fl_assign | ((with_reducible refine fl_soft (v := ?_) (fun w' hw' => ?_) ?_); rotate_left 1; (focus (obtain ⟨hA, hB, hBw⟩ := hw'; obtain ⟨hcA, hfA⟩ := hA.facts; obtain ⟨hcB, hfB⟩ := hB.facts; go_simp; (try with_reducible rfl); done)))); simp only [Act.put, Act.eval, qs])
          refine fl_hard ?_
          obtain ⟨hcM, hfM⟩ := HM.facts
          go_wp2_with fail
          replace HA : Hd (w4.alloc (.cells #[.int .i64 a.lo, .int .i64 a.hi, .int .i64 b.lo, .int .i64 b.hi] 25)) w.heap.size 25 #[.int .i64 x.re.lo, .int .i64 x.re.hi, .int .i64 x.im.lo, .int .i64 x.im.hi] := hdx
          replace HB : Hd (w4.alloc (.cells #[.int .i64 a.lo, .int .i64 a.hi, .int .i64 b.lo, .int .i64 b.hi] 25)) (w.heap.size + 1) 25 #[.int .i64 y.re.lo, .int .i64 y.re.hi, .int .i64 y.im.lo, .int .i64 y.im.hi] := hdx
          replace HO : Hd (w4.alloc (.cells #[.int .i64 a.lo, .int .i64 a.hi, .int .i64 b.lo, .int .i64 b.hi] 25)) (w.heap.size + 2) 25 #[.int .i64 0, .int .i64 0, .int .i64 0, .int .i64 0] := hdx
          replace HM : Hd (w4.alloc (.cells #[.int .i64 a.lo, .int .i64 a.hi, .int .i64 b.lo, .int .i64 b.hi] 25)) w4.heap.size 25 #[.int .i64 a.lo, .int .i64 a.hi, .int .i64 b.lo, .int .i64 b.hi] := hdx
          replace bw : Below w.heap.size w (w4.alloc (.cells #[.int .i64 a.lo, .int .i64 a.hi, .int .i64 b.lo, .int .i64 b.hi] 25)) := by go_grown
          (try refine ⟨⟨HA, HB, bw⟩, ?_⟩)
          repeat ((first | with_reducible apply fl_move | with_reducible apply fl_assign | ((with_reducible refine fl_soft (v := ?_) (fun w' hw' => ?_) ?_); rotate_left 1; (focus (obtain ⟨hA, hB, hBw⟩ := hw'; obtain ⟨hcA, hfA⟩ := hA.facts; obtain ⟨hcB, hfB⟩ := hB.facts; go_simp; (try with_reducible rfl); done)))); simp only [Act.put, Act.eval, qs])
          refine fl_nil ?_
          generalize hW : w4.alloc (.cells #[.int .i64 a.lo, .int .i64 a.hi, .int .i64 b.lo, .int .i64 b.hi] 25) = w5 at HA HB HO HM bw ⊢
          clear hW
          have lw5 : w.heap.size ≤ w5.heap.size := bw.size
          obtain ⟨hcM, hfM⟩ := HM.facts
          go_wp2_with fail
          have lmV := HM.lt
          replace HA : Hd (w5.alloc (.cells #[.int .i64 a.lo, .int .i64 a.hi, .int .i64 b.lo, .int .i64 b.hi] 25)) w.heap.size 25 #[.int .i64 x.re.lo, .int .i64 x.re.hi, .int .i64 x.im.lo, .int .i64 x.im.hi] := hdx
          replace HB : Hd (w5.alloc (.cells #[.int .i64 a.lo, .int .i64 a.hi, .int .i64 b.lo, .int .i64 b.hi] 25)) (w.heap.size + 1) 25 #[.int .i64 y.re.lo, .int .i64 y.re.hi, .int .i64 y.im.lo, .int .i64 y.im.hi] := hdx
          replace HO : Hd (w5.alloc (.cells #[.int .i64 a.lo, .int .i64 a.hi, .int .i64 b.lo, .int .i64 b.hi] 25)) (w.heap.size + 2) 25 #[.int .i64 0, .int .i64 0, .int .i64 0, .int .i64 0] := hdx
          replace HM : Hd (w5.alloc (.cells #[.int .i64 a.lo, .int .i64 a.hi, .int .i64 b.lo, .int .i64 b.hi] 25)) w4.heap.size 25 #[.int .i64 a.lo, .int .i64 a.hi, .int .i64 b.lo, .int .i64 b.hi] := hdx
          replace bw : Below w.heap.size w (w5.alloc (.cells #[.int .i64 a.lo, .int .i64 a.hi, .int .i64 b.lo, .int .i64 b.hi] 25)) := by go_grown
          have HV : Hd (w5.alloc (.cells #[.int .i64 a.lo, .int .i64 a.hi, .int .i64 b.lo, .int .i64 b.hi] 25)) w5.heap.size 25 #[.int .i64 a.lo, .int .i64 a.hi, .int .i64 b.lo, .int .i64 b.hi] := hdx
          refine (CM.out _ _ _ HV).mono ?_
          rintro e w6 ⟨rfl, hb6⟩
          replace bw : Below w.heap.size w w6 := below_next bw hb6
          replace HA := HA.call hb6
          replace HB := HB.call hb6
          replace HO := HO.call hb6
          replace HM := HM.call hb6
          replace HV := HV.call hb6
          have lw6 : w.heap.size ≤ w6.heap.size := bw.size
          clear hb6
          obtain ⟨hcM, hfM⟩ := HM.facts
          obtain ⟨hcO, hfO⟩ := HO.facts
          cases o
          · go_wp2
            refine bodyPost_ret (run_results3 rfl rfl (by (show Hd _ ((w.heap.size + 2)) 25 #[.int .i64 0, .int .i64 0, .int .i64 0, .int .i64 0]); exact hdx) Try.underlying25 rfl (by kernel_rfl)) rfl ⟨rfl, by go_grown⟩
          · go_wp2
            refine bodyPost_ret (run_results3 rfl rfl (by (show Hd _ ((w.heap.size + 2)) 25 #[.int .i64 a.lo, .int .i64 a.hi, .int .i64 b.lo, .int .i64 b.hi]); exact hdx) Try.underlying25 rfl (by kernel_rfl)) rfl ⟨rfl, by go_grown⟩
        · go_wp2_with fail
          have PA := HA
          have PB := HB
          have PO := HO
          have Pbw := bw
          have ltAM : w.heap.size < w4.heap.size := by (have := HA.lt; (try simp only [World.size_alloc, World.size_setCell, World.size_drew] at this); omega)
          have ltBM : (w.heap.size + 1) < w4.heap.size := by (have := HB.lt; (try simp only [World.size_alloc, World.size_setCell, World.size_drew] at this); omega)
          have ltOM : (w.heap.size + 2) < w4.heap.size := by (have := HO.lt; (try simp only [World.size_alloc, World.size_setCell, World.size_drew] at this); omega)
          replace HA : Hd (w4.alloc (.cells #[.int .i64 0, .int .i64 0, .int .i64 0, .int .i64 0] 25)) w.heap.size 25 #[.int .i64 x.re.lo, .int .i64 x.re.hi, .int .i64 x.im.lo, .int .i64 x.im.hi] := hdx
          replace HB : Hd (w4.alloc (.cells #[.int .i64 0, .int .i64 0, .int .i64 0, .int .i64 0] 25)) (w.heap.size + 1) 25 #[.int .i64 y.re.lo, .int .i64 y.re.hi, .int .i64 y.im.lo, .int .i64 y.im.hi] := hdx
          replace HO : Hd (w4.alloc (.cells #[.int .i64 0, .int .i64 0, .int .i64 0, .int .i64 0] 25)) (w.heap.size + 2) 25 #[.int .i64 0, .int .i64 0, .int .i64 0, .int .i64 0] := hdx
          replace bw : Below w.heap.size w (w4.alloc (.cells #[.int .i64 0, .int .i64 0, .int .i64 0, .int .i64 0] 25)) := by go_grown
          have HM : Hd (w4.alloc (.cells #[.int .i64 0, .int .i64 0, .int .i64 0, .int .i64 0] 25)) w4.heap.size 25 #[.int .i64 0, .int .i64 0, .int .i64 0, .int .i64 0] := hdx
          (try refine ⟨⟨HA, HB, bw⟩, ?_⟩)
          repeat ((first | with_reducible apply eag_move | with_reducible apply eag_assign | ((with_reducible refine eag_soft (v := ?_) (fun w' hw' => ?_) ?_); rotate_left 1; (focus (obtain ⟨hA, hB, hBw⟩ := hw'; obtain ⟨hcA, hfA⟩ := hA.facts; obtain ⟨hcB, hfB⟩ := hB.facts; go_simp; (try with_reducible rfl); done)))); simp only [Act.put, Act.eval, qs])
          repeat ((first | with_reducible apply eag_move | with_reducible apply eag_assign | ((with_reducible refine eag_soft (v := ?_) (fun w' hw' => ?_) ?_); rotate_left 1; (focus (obtain ⟨hA, hB, hBw⟩ := hw'; obtain ⟨hcA, hfA⟩ := hA.facts; obtain ⟨hcB, hfB⟩ := hB.facts; go_simp; (try with_reducible rfl); done)))); simp only [Act.put, Act.eval, qs])
          refine eag_hard ?_
          go_wp2_with fail
          (try refine ⟨⟨HA, HB, bw⟩, ?_⟩)
          repeat ((first | with_reducible apply eag_move | with_reducible apply eag_assign | ((with_reducible refine eag_soft (v := ?_) (fun w' hw' => ?_) ?_); rotate_left 1; (focus (obtain ⟨hA, hB, hBw⟩ := hw'; obtain ⟨hcA, hfA⟩ := hA.facts; obtain ⟨hcB, hfB⟩ := hB.facts; go_simp; (try with_reducible rfl); done)))); simp only [Act.put, Act.eval, qs])
          refine eag_hard ?_
          obtain ⟨hcM, hfM⟩ := HM.facts
          go_wp2_with fail
          replace HA : Hd (w4.alloc (.cells #[.int .i64 a.lo, .int .i64 a.hi, .int .i64 b.lo, .int .i64 b.hi] 25)) w.heap.size 25 #[.int .i64 x.re.lo, .int .i64 x.re.hi, .int .i64 x.im.lo, .int .i64 x.im.hi] := hdx
          replace HB : Hd (w4.alloc (.cells #[.int .i64 a.lo, .int .i64 a.hi, .int .i64 b.lo, .int .i64 b.hi] 25)) (w.heap.size + 1) 25 #[.int .i64 y.re.lo, .int .i64 y.re.hi, .int .i64 y.im.lo, .int .i64 y.im.hi] := hdx
          replace HO : Hd (w4.alloc (.cells #[.int .i64 a.lo, .int .i64 a.hi, .int .i64 b.lo, .int .i64 b.hi] 25)) (w.heap.size + 2) 25 #[.int .i64 0, .int .i64 0, .int .i64 0, .int .i64 0] := hdx
          replace HM : Hd (w4.alloc (.cells #[.int .i64 a.lo, .int .i64 a.hi, .int .i64 b.lo, .int .i64 b.hi] 25)) w4.heap.size 25 #[.int .i64 a.lo, .int .i64 a.hi, .int .i64 b.lo, .int .i64 b.hi] := hdx
          replace bw : Below w.heap.size w (w4.alloc (.cells #[.int .i64 a.lo, .int .i64 a.hi, .int .i64 b.lo, .int .i64 b.hi] 25)) := by go_grown
          (try refine ⟨⟨HA, HB, bw⟩, ?_⟩)
          repeat ((first | with_reducible apply eag_move | with_reducible apply eag_assign | ((with_reducible refine eag_soft (v := ?_) (fun w' hw' => ?_) ?_); rotate_left 1; (focus (obtain ⟨hA, hB, hBw⟩ := hw'; obtain ⟨hcA, hfA⟩ := hA.facts; obtain ⟨hcB, hfB⟩ := hB.facts; go_simp; (try with_reducible rfl); done)))); simp only [Act.put, Act.eval, qs])
          refine eag_nil ?_
          generalize hW : w4.alloc (.cells #[.int .i64 a.lo, .int .i64 a.hi, .int .i64 b.lo, .int .i64 b.hi] 25) = w5 at HA HB HO HM bw ⊢
          clear hW
          have lw5 : w.heap.size ≤ w5.heap.size := bw.size
          obtain ⟨hcM, hfM⟩ := HM.facts
          go_wp2_with fail
          have lmV := HM.lt
          replace HA : Hd (w5.alloc (.cells #[.int .i64 a.lo, .int .i64 a.hi, .int .i64 b.lo, .int .i64 b.hi] 25)) w.heap.size 25 #[.int .i64 x.re.lo, .int .i64 x.re.hi, .int .i64 x.im.lo, .int .i64 x.im.hi] := hdx
          replace HB : Hd (w5.alloc (.cells #[.int .i64 a.lo, .int .i64 a.hi, .int .i64 b.lo, .int .i64 b.hi] 25)) (w.heap.size + 1) 25 #[.int .i64 y.re.lo, .int .i64 y.re.hi, .int .i64 y.im.lo, .int .i64 y.im.hi] := hdx
          replace HO : Hd (w5.alloc (.cells #[.int .i64 a.lo, .int .i64 a.hi, .int .i64 b.lo, .int .i64 b.hi] 25)) (w.heap.size + 2) 25 #[.int .i64 0, .int .i64 0, .int .i64 0, .int .i64 0] := hdx
          replace HM : Hd (w5.alloc (.cells #[.int .i64 a.lo, .int .i64 a.hi, .int .i64 b.lo, .int .i64 b.hi] 25)) w4.heap.size 25 #[.int .i64 a.lo, .int .i64 a.hi, .int .i64 b.lo, .int .i64 b.hi] := hdx
          replace bw : Below w.heap.size w (w5.alloc (.cells #[.int .i64 a.lo, .int .i64 a.hi, .int .i64 b.lo, .int .i64 b.hi] 25)) := by go_grown
          have HV : Hd (w5.alloc (.cells #[.int .i64 a.lo, .int .i64 a.hi, .int .i64 b.lo, .int .i64 b.hi] 25)) w5.heap.size 25 #[.int .i64 a.lo, .int .i64 a.hi, .int .i64 b.lo, .int .i64 b.hi] := hdx
          refine (CM.out _ _ _ HV).mono ?_
          rintro e w6 ⟨rfl, hb6⟩
          replace bw : Below w.heap.size w w6 := below_next bw hb6
          replace HA := HA.call hb6
          replace HB := HB.call hb6
          replace HO := HO.call hb6
          replace HM := HM.call hb6
          replace HV := HV.call hb6
          have lw6 : w.heap.size ≤ w6.heap.size := bw.size
          clear hb6
          obtain ⟨hcM, hfM⟩ := HM.facts
          obtain ⟨hcO, hfO⟩ := HO.facts
          cases o
          · go_wp2
            refine bodyPost_ret (run_results3 rfl rfl (by (show Hd _ ((w.heap.size + 2)) 25 #[.int .i64 0, .int .i64 0, .int .i64 0, .int .i64 0]); exact hdx) Try.underlying25 rfl (by kernel_rfl)) rfl ⟨rfl, by go_grown⟩
          · go_wp2
            refine bodyPost_ret (run_results3 rfl rfl (by (show Hd _ ((w.heap.size + 2)) 25 #[.int .i64 a.lo, .int .i64 a.hi, .int .i64 b.lo, .int .i64 b.hi]); exact hdx) Try.underlying25 rfl (by kernel_rfl)) rfl ⟨rfl, by go_grown⟩
      · go_wp2_with fail
        have PA := HA
        have PB := HB
        have PO := HO
        have Pbw := bw
        have ltAM : w.heap.size < w3.heap.size := by (have := HA.lt; (try simp only [World.size_alloc, World.size_setCell, World.size_drew] at this); omega)
        have ltBM : (w.heap.size + 1) < w3.heap.size := by (have := HB.lt; (try simp only [World.size_alloc, World.size_setCell, World.size_drew] at this); omega)
        have ltOM : (w.heap.size + 2) < w3.heap.size := by (have := HO.lt; (try simp only [World.size_alloc, World.size_setCell, World.size_drew] at this); omega)
        replace HA : Hd (w3.alloc (.cells #[.int .i64 0, .int .i64 0, .int .i64 0, .int .i64 0] 25)) w.heap.size 25 #[.int .i64 x.re.lo, .int .i64 x.re.hi, .int .i64 x.im.lo, .int .i64 x.im.hi] := hdx
        replace HB : Hd (w3.alloc (.cells #[.int .i64 0, .int .i64 0, .int .i64 0, .int .i64 0] 25)) (w.heap.size + 1) 25 #[.int .i64 y.re.lo, .int .i64 y.re.hi, .int .i64 y.im.lo, .int .i64 y.im.hi] := hdx
        replace HO : Hd (w3.alloc (.cells #[.int .i64 0, .int .i64 0, .int .i64 0, .int .i64 0] 25)) (w.heap.size + 2) 25 #[.int .i64 0, .int .i64 0, .int .i64 0, .int .i64 0] := hdx
        replace bw : Below w.heap.size w (w3.alloc (.cells #[.int .i64 0, .int .i64 0, .int .i64 0, .int .i64 0] 25)) := by go_grown
        have HM : Hd (w3.alloc (.cells #[.int .i64 0, .int .i64 0, .int .i64 0, .int .i64 0] 25)) w3.heap.size 25 #[.int .i64 0, .int .i64 0, .int .i64 0, .int .i64 0] := hdx
        (try refine ⟨⟨HA, HB, bw⟩, ?_⟩)
        repeat ((first | with_reducible apply eag_move | with_reducible apply eag_assign | ((with_reducible refine eag_soft (v := ?_) (fun w' hw' => ?_) ?_); rotate_left 1; (focus (obtain ⟨hA, hB, hBw⟩ := hw'; obtain ⟨hcA, hfA⟩ := hA.facts; obtain ⟨hcB, hfB⟩ := hB.facts; go_simp; (try with_reducible rfl); done)))); simp only [Act.put, Act.eval, qs])
        repeat ((first | with_reducible apply eag_move | with_reducible apply eag_assign | ((with_reducible refine eag_soft (v := ?_) (fun w' hw' => ?_) ?_); rotate_left 1; (focus (obtain ⟨hA, hB, hBw⟩ := hw'; obtain ⟨hcA, hfA⟩ := hA.facts; obtain ⟨hcB, hfB⟩ := hB.facts; go_simp; (try with_reducible rfl); done)))); simp only [Act.put, Act.eval, qs])
        refine eag_hard ?_
        go_wp2_with fail
        refine (CB.out _).mono ?_
        rintro e w4 ⟨rfl, hb4⟩
        replace bw : Below w.heap.size w w4 := below_next bw hb4
        replace HA := HA.call hb4
        replace HB := HB.call hb4
        replace HO := HO.call hb4
        replace HM := HM.call hb4
        have lw4 : w.heap.size ≤ w4.heap.size := bw.size
        clear hb4
        go_wp2_with fail
        (try refine ⟨⟨HA, HB, bw⟩, ?_⟩)
        repeat ((first | with_reducible apply eag_move | with_reducible apply eag_assign | ((with_reducible refine eag_soft (v := ?_) (fun w' hw' => ?_) ?_); rotate_left 1; (focus (obtain ⟨hA, hB, hBw⟩ := hw'; obtain ⟨hcA, hfA⟩ := hA.facts; obtain ⟨hcB, hfB⟩ := hB.facts; go_simp; (try with_reducible rfl); done)))); simp only [Act.put, Act.eval, qs])
        refine eag_hard ?_
        go_wp2_with fail
        (try refine ⟨⟨HA, HB, bw⟩, ?_⟩)
        repeat ((first | with_reducible apply eag_move | with_reducible apply eag_assign | ((with_reducible refine eag_soft (v := ?_) (fun w' hw' => ?_) ?_); rotate_left 1; (focus (obtain ⟨hA, hB, hBw⟩ := hw'; obtain ⟨hcA, hfA⟩ := hA.facts; obtain ⟨hcB, hfB⟩ := hB.facts; go_simp; (try with_reducible rfl); done)))); simp only [Act.put, Act.eval, qs])
        refine eag_hard ?_
        obtain ⟨hcM, hfM⟩ := HM.facts
        go_wp2_with fail
        have PA := HA
        have PB := HB
        have PO := HO
        have PM := HM
        have Pbw := bw
        replace HA : Hd ((((w4.setCell ⟨w3.heap.size, 0, none⟩ (.int .i64 a.lo)).setCell ⟨w3.heap.size, 1, none⟩ (.int .i64 a.hi)).setCell ⟨w3.heap.size, 2, none⟩ (.int .i64 b.lo)).setCell ⟨w3.heap.size, 3, none⟩ (.int .i64 b.hi)) w.heap.size 25 #[.int .i64 x.re.lo, .int .i64 x.re.hi, .int .i64 x.im.lo, .int .i64 x.im.hi] := hdx
        replace HB : Hd ((((w4.setCell ⟨w3.heap.size, 0, none⟩ (.int .i64 a.lo)).setCell ⟨w3.heap.size, 1, none⟩ (.int .i64 a.hi)).setCell ⟨w3.heap.size, 2, none⟩ (.int .i64 b.lo)).setCell ⟨w3.heap.size, 3, none⟩ (.int .i64 b.hi)) (w.heap.size + 1) 25 #[.int .i64 y.re.lo, .int .i64 y.re.hi, .int .i64 y.im.lo, .int .i64 y.im.hi] := hdx
        replace HO : Hd ((((w4.setCell ⟨w3.heap.size, 0, none⟩ (.int .i64 a.lo)).setCell ⟨w3.heap.size, 1, none⟩ (.int .i64 a.hi)).setCell ⟨w3.heap.size, 2, none⟩ (.int .i64 b.lo)).setCell ⟨w3.heap.size, 3, none⟩ (.int .i64 b.hi)) (w.heap.size + 2) 25 #[.int .i64 0, .int .i64 0, .int .i64 0, .int .i64 0] := hdx
        replace HM : Hd ((((w4.setCell ⟨w3.heap.size, 0, none⟩ (.int .i64 a.lo)).setCell ⟨w3.heap.size, 1, none⟩ (.int .i64 a.hi)).setCell ⟨w3.heap.size, 2, none⟩ (.int .i64 b.lo)).setCell ⟨w3.heap.size, 3, none⟩ (.int .i64 b.hi)) w3.heap.size 25 #[.int .i64 a.lo, .int .i64 a.hi, .int .i64 b.lo, .int .i64 b.hi] := hdx
        replace bw : Below w.heap.size w ((((w4.setCell ⟨w3.heap.size, 0, none⟩ (.int .i64 a.lo)).setCell ⟨w3.heap.size, 1, none⟩ (.int .i64 a.hi)).setCell ⟨w3.heap.size, 2, none⟩ (.int .i64 b.lo)).setCell ⟨w3.heap.size, 3, none⟩ (.int .i64 b.hi)) := by go_grown
        (try refine ⟨⟨HA, HB, bw⟩, ?_⟩)
        repeat ((first | with_reducible apply eag_move | with_reducible apply eag_assign | ((with_reducible refine eag_soft (v := ?_) (fun w' hw' => ?_) ?_); rotate_left 1; (focus (obtain ⟨hA, hB, hBw⟩ := hw'; obtain ⟨hcA, hfA⟩ := hA.facts; obtain ⟨hcB, hfB⟩ := hB.facts; go_simp; (try with_reducible rfl); done)))); simp only [Act.put, Act.eval, qs])
        refine eag_nil ?_
        generalize hW : (((w4.setCell ⟨w3.heap.size, 0, none⟩ (.int .i64 a.lo)).setCell ⟨w3.heap.size, 1, none⟩ (.int .i64 a.hi)).setCell ⟨w3.heap.size, 2, none⟩ (.int .i64 b.lo)).setCell ⟨w3.heap.size, 3, none⟩ (.int .i64 b.hi) = w5 at HA HB HO HM bw ⊢
        clear hW
        have lw5 : w.heap.size ≤ w5.heap.size := bw.size
        obtain ⟨hcM, hfM⟩ := HM.facts
        go_wp2_with fail
        have lmV := HM.lt
        replace HA : Hd (w5.alloc (.cells #[.int .i64 a.lo, .int .i64 a.hi, .int .i64 b.lo, .int .i64 b.hi] 25)) w.heap.size 25 #[.int .i64 x.re.lo, .int .i64 x.re.hi, .int .i64 x.im.lo, .int .i64 x.im.hi] := hdx
        replace HB : Hd (w5.alloc (.cells #[.int .i64 a.lo, .int .i64 a.hi, .int .i64 b.lo, .int .i64 b.hi] 25)) (w.heap.size + 1) 25 #[.int .i64 y.re.lo, .int .i64 y.re.hi, .int .i64 y.im.lo, .int .i64 y.im.hi] := hdx
        replace HO : Hd (w5.alloc (.cells #[.int .i64 a.lo, .int .i64 a.hi, .int .i64 b.lo, .int .i64 b.hi] 25)) (w.heap.size + 2) 25 #[.int .i64 0, .int .i64 0, .int .i64 0, .int .i64 0] := hdx
        replace HM : Hd (w5.alloc (.cells #[.int .i64 a.lo, .int .i64 a.hi, .int .i64 b.lo, .int .i64 b.hi] 25)) w3.heap.size 25 #[.int .i64 a.lo, .int .i64 a.hi, .int .i64 b.lo, .int .i64 b.hi] := hdx
        replace bw : Below w.heap.size w (w5.alloc (.cells #[.int .i64 a.lo, .int .i64 a.hi, .int .i64 b.lo, .int .i64 b.hi] 25)) := by go_grown
        have HV : Hd (w5.alloc (.cells #[.int .i64 a.lo, .int .i64 a.hi, .int .i64 b.lo, .int .i64 b.hi] 25)) w5.heap.size 25 #[.int .i64 a.lo, .int .i64 a.hi, .int .i64 b.lo, .int .i64 b.hi] := hdx
        refine (CM.out _ _ _ HV).mono ?_
        rintro e w6 ⟨rfl, hb6⟩
        replace bw : Below w.heap.size w w6 := below_next bw hb6
        replace HA := HA.call hb6
        replace HB := HB.call hb6
        replace HO := HO.call hb6
        replace HM := HM.call hb6
        replace HV := HV.call hb6
        have lw6 : w.heap.size ≤ w6.heap.size := bw.size
        clear hb6
        obtain ⟨hcM, hfM⟩ := HM.facts
        obtain ⟨hcO, hfO⟩ := HO.facts
        cases o
        · go_wp2
          refine bodyPost_ret (run_results3 rfl rfl (by (show Hd _ ((w.heap.size + 2)) 25 #[.int .i64 0, .int .i64 0, .int .i64 0, .int .i64 0]); exact hdx) Try.underlying25 rfl (by kernel_rfl)) rfl ⟨rfl, by go_grown⟩
        · go_wp2
          refine bodyPost_ret (run_results3 rfl rfl (by (show Hd _ ((w.heap.size + 2)) 25 #[.int .i64 a.lo, .int .i64 a.hi, .int .i64 b.lo, .int .i64 b.hi]); exact hdx) Try.underlying25 rfl (by kernel_rfl)) rfl ⟨rfl, by go_grown⟩
    · go_wp2_with fail
      have PA := HA
      have PB := HB
      have PO := HO
      have Pbw := bw
      have ltAM : w.heap.size < w2.heap.size := by (have := HA.lt; (try simp only [World.size_alloc, World.size_setCell, World.size_drew] at this); omega)
      have ltBM : (w.heap.size + 1) < w2.heap.size := by (have := HB.lt; (try simp only [World.size_alloc, World.size_setCell, World.size_drew] at this); omega)
      have ltOM : (w.heap.size + 2) < w2.heap.size := by (have := HO.lt; (try simp only [World.size_alloc, World.size_setCell, World.size_drew] at this); omega)
      replace HA : Hd (w2.alloc (.cells #[.int .i64 0, .int .i64 0, .int .i64 0, .int .i64 0] 25)) w.heap.size 25 #[.int .i64 x.re.lo, .int .i64 x.re.hi, .int .i64 x.im.lo, .int .i64 x.im.hi] := hdx
      replace HB : Hd (w2.alloc (.cells #[.int .i64 0, .int .i64 0, .int .i64 0, .int .i64 0] 25)) (w.heap.size + 1) 25 #[.int .i64 y.re.lo, .int .i64 y.re.hi, .int .i64 y.im.lo, .int .i64 y.im.hi] := hdx
      replace HO : Hd (w2.alloc (.cells #[.int .i64 0, .int .i64 0, .int .i64 0, .int .i64 0] 25)) (w.heap.size + 2) 25 #[.int .i64 0, .int .i64 0, .int .i64 0, .int .i64 0] := hdx
      replace bw : Below w.heap.size w (w2.alloc (.cells #[.int .i64 0, .int .i64 0, .int .i64 0, .int .i64 0] 25)) := by go_grown
      have HM : Hd (w2.alloc (.cells #[.int .i64 0, .int .i64 0, .int .i64 0, .int .i64 0] 25)) w2.heap.size 25 #[.int .i64 0, .int .i64 0, .int .i64 0, .int .i64 0] := hdx
      (try refine ⟨⟨HA, HB, bw⟩, ?_⟩)
      repeat ((first | with_reducible apply eag_move | with_reducible apply eag_assign | ((with_reducible refine eag_soft (v := ?_) (fun w' hw' => ?_) ?_); rotate_left 1; (focus (obtain ⟨hA, hB, hBw⟩ := hw'; obtain ⟨hcA, hfA⟩ := hA.facts; obtain ⟨hcB, hfB⟩ := hB.facts; go_simp; (try with_reducible rfl); done)))); simp only [Act.put, Act.eval, qs])
      repeat ((first | with_reducible apply eag_move | with_reducible apply eag_assign | ((with_reducible refine eag_soft (v := ?_) (fun w' hw' => ?_) ?_); rotate_left 1; (focus (obtain ⟨hA, hB, hBw⟩ := hw'; obtain ⟨hcA, hfA⟩ := hA.facts; obtain ⟨hcB, hfB⟩ := hB.facts; go_simp; (try with_reducible rfl); done)))); simp only [Act.put, Act.eval, qs])
      refine eag_hard ?_
      go_wp2_with fail
      refine (CA.out _).mono ?_
      rintro e w3 ⟨rfl, hb3⟩
      replace bw : Below w.heap.size w w3 := below_next bw hb3
      replace HA := HA.call hb3
      replace HB := HB.call hb3
      replace HO := HO.call hb3
      replace HM := HM.call hb3
      have lw3 : w.heap.size ≤ w3.heap.size := bw.size
      clear hb3
      go_wp2_with fail
      (try refine ⟨⟨HA, HB, bw⟩, ?_⟩)
      repeat ((first | with_reducible apply eag_move | with_reducible apply eag_assign | ((with_reducible refine eag_soft (v := ?_) (fun w' hw' => ?_) ?_); rotate_left 1; (focus (obtain ⟨hA, hB, hBw⟩ := hw'; obtain ⟨hcA, hfA⟩ := hA.facts; obtain ⟨hcB, hfB⟩ := hB.facts; go_simp; (try with_reducible rfl); done)))); simp only [Act.put, Act.eval, qs])
      refine eag_hard ?_
      go_wp2_with fail
      refine (CB.out _).mono ?_
      rintro e w4 ⟨rfl, hb4⟩
      replace bw : Below w.heap.size w w4 := below_next bw hb4
      replace HA := HA.call hb4
      replace HB := HB.call hb4
      replace HO := HO.call hb4
      replace HM := HM.call hb4
      have lw4 : w.heap.size ≤ w4.heap.size := bw.size
      clear hb4
      go_wp2_with fail
      (try refine ⟨⟨HA, HB, bw⟩, ?_⟩)
      repeat ((first | with_reducible apply eag_move | with_reducible apply eag_assign | ((with_reducible refine eag_soft (v := ?_) (fun w' hw' => ?_) ?_); rotate_left 1; (focus (obtain ⟨hA, hB, hBw⟩ := hw'; obtain ⟨hcA, hfA⟩ := hA.facts; obtain ⟨hcB, hfB⟩ := hB.facts; go_simp; (try with_reducible rfl); done)))); simp only [Act.put, Act.eval, qs])
      refine eag_hard ?_
      go_wp2_with fail
      (try refine ⟨⟨HA, HB, bw⟩, ?_⟩)
      repeat ((first | with_reducible apply eag_move | with_reducible apply eag_assign | ((with_reducible refine eag_soft (v := ?_) (fun w' hw' => ?_) ?_); rotate_left 1; (focus (obtain ⟨hA, hB, hBw⟩ := hw'; obtain ⟨hcA, hfA⟩ := hA.facts; obtain ⟨hcB, hfB⟩ := hB.facts; go_simp; (try with_reducible rfl); done)))); simp only [Act.put, Act.eval, qs])
      refine eag_hard ?_
      obtain ⟨hcM, hfM⟩ := HM.facts
      go_wp2_with fail
      have PA := HA
      have PB := HB
      have PO := HO
      have PM := HM
      have Pbw := bw
      replace HA : Hd ((((w4.setCell ⟨w2.heap.size, 0, none⟩ (.int .i64 a.lo)).setCell ⟨w2.heap.size, 1, none⟩ (.int .i64 a.hi)).setCell ⟨w2.heap.size, 2, none⟩ (.int .i64 b.lo)).setCell ⟨w2.heap.size, 3, none⟩ (.int .i64 b.hi)) w.heap.size 25 #[.int .i64 x.re.lo, .int .i64 x.re.hi, .int .i64 x.im.lo, .int .i64 x.im.hi] := hdx
      replace HB : Hd ((((w4.setCell ⟨w2.heap.size, 0, none⟩ (.int .i64 a.lo)).setCell ⟨w2.heap.size, 1, none⟩ (.int .i64 a.hi)).setCell ⟨w2.heap.size, 2, none⟩ (.int .i64 b.lo)).setCell ⟨w2.heap.size, 3, none⟩ (.int .i64 b.hi)) (w.heap.size + 1) 25 #[.int .i64 y.re.lo, .int .i64 y.re.hi, .int .i64 y.im.lo, .int .i64 y.im.hi] := hdx
      replace HO : Hd ((((w4.setCell ⟨w2.heap.size, 0, none⟩ (.int .i64 a.lo)).setCell ⟨w2.heap.size, 1, none⟩ (.int .i64 a.hi)).setCell ⟨w2.heap.size, 2, none⟩ (.int .i64 b.lo)).setCell ⟨w2.heap.size, 3, none⟩ (.int .i64 b.hi)) (w.heap.size + 2) 25 #[.int .i64 0, .int .i64 0, .int .i64 0, .int .i64 0] := hdx
      replace HM : Hd ((((w4.setCell ⟨w2.heap.size, 0, none⟩ (.int .i64 a.lo)).setCell ⟨w2.heap.size, 1, none⟩ (.int .i64 a.hi)).setCell ⟨w2.heap.size, 2, none⟩ (.int .i64 b.lo)).setCell ⟨w2.heap.size, 3, none⟩ (.int .i64 b.hi)) w2.heap.size 25 #[.int .i64 a.lo, .int .i64 a.hi, .int .i64 b.lo, .int .i64 b.hi] := hdx
      replace bw : Below w.heap.size w ((((w4.setCell ⟨w2.heap.size, 0, none⟩ (.int .i64 a.lo)).setCell ⟨w2.heap.size, 1, none⟩ (.int .i64 a.hi)).setCell ⟨w2.heap.size, 2, none⟩ (.int .i64 b.lo)).setCell ⟨w2.heap.size, 3, none⟩ (.int .i64 b.hi)) := by go_grown
      (try refine ⟨⟨HA, HB, bw⟩, ?_⟩)
      repeat ((first | with_reducible apply eag_move | with_reducible apply eag_assign | ((with_reducible refine eag_soft (v := ?_) (fun w' hw' => ?_) ?_); rotate_left 1; (focus (obtain ⟨hA, hB, hBw⟩ := hw'; obtain ⟨hcA, hfA⟩ := hA.facts; obtain ⟨hcB, hfB⟩ := hB.facts; go_simp; (try with_reducible rfl); done)))); simp only [Act.put, Act.eval, qs])
      refine eag_nil ?_
      generalize hW : (((w4.setCell ⟨w2.heap.size, 0, none⟩ (.int .i64 a.lo)).setCell ⟨w2.heap.size, 1, none⟩ (.int .i64 a.hi)).setCell ⟨w2.heap.size, 2, none⟩ (.int .i64 b.lo)).setCell ⟨w2.heap.size, 3, none⟩ (.int .i64 b.hi) = w5 at HA HB HO HM bw ⊢
      clear hW
      have lw5 : w.heap.size ≤ w5.heap.size := bw.size
      obtain ⟨hcM, hfM⟩ := HM.facts
      go_wp2_with fail
      have lmV := HM.lt
      replace HA : Hd (w5.alloc (.cells #[.int .i64 a.lo, .int .i64 a.hi, .int .i64 b.lo, .int .i64 b.hi] 25)) w.heap.size 25 #[.int .i64 x.re.lo, .int .i64 x.re.hi, .int .i64 x.im.lo, .int .i64 x.im.hi] := hdx
      replace HB : Hd (w5.alloc (.cells #[.int .i64 a.lo, .int .i64 a.hi, .int .i64 b.lo, .int .i64 b.hi] 25)) (w.heap.size + 1) 25 #[.int .i64 y.re.lo, .int .i64 y.re.hi, .int .i64 y.im.lo, .int .i64 y.im.hi] := hdx
      replace HO : Hd (w5.alloc (.cells #[.int .i64 a.lo, .int .i64 a.hi, .int .i64 b.lo, .int .i64 b.hi] 25)) (w.heap.size + 2) 25 #[.int .i64 0, .int .i64 0, .int .i64 0, .int .i64 0] := hdx
      replace HM : Hd (w5.alloc (.cells #[.int .i64 a.lo, .int .i64 a.hi, .int .i64 b.lo, .int .i64 b.hi] 25)) w2.heap.size 25 #[.int .i64 a.lo, .int .i64 a.hi, .int .i64 b.lo, .int .i64 b.hi] := hdx
      replace bw : Below w.heap.size w (w5.alloc (.cells #[.int .i64 a.lo, .int .i64 a.hi, .int .i64 b.lo, .int .i64 b.hi] 25)) := by go_grown
      have HV : Hd (w5.alloc (.cells #[.int .i64 a.lo, .int .i64 a.hi, .int .i64 b.lo, .int .i64 b.hi] 25)) w5.heap.size 25 #[.int .i64 a.lo, .int .i64 a.hi, .int .i64 b.lo, .int .i64 b.hi] := hdx
      refine (CM.out _ _ _ HV).mono ?_
      rintro e w6 ⟨rfl, hb6⟩
      replace bw : Below w.heap.size w w6 := below_next bw hb6
      replace HA := HA.call hb6
      replace HB := HB.call hb6
      replace HO := HO.call hb6
      replace HM := HM.call hb6
      replace HV := HV.call hb6
      have lw6 : w.heap.size ≤ w6.heap.size := bw.size
      clear hb6
      obtain ⟨hcM, hfM⟩ := HM.facts
      obtain ⟨hcO, hfO⟩ := HO.facts
      cases o
      · go_wp2
        refine bodyPost_ret (run_results3 rfl rfl (by (show Hd _ ((w.heap.size + 2)) 25 #[.int .i64 0, .int .i64 0, .int .i64 0, .int .i64 0]); exact hdx) Try.underlying25 rfl (by kernel_rfl)) rfl ⟨rfl, by go_grown⟩
      · go_wp2
        refine bodyPost_ret (run_results3 rfl rfl (by (show Hd _ ((w.heap.size + 2)) 25 #[.int .i64 a.lo, .int .i64 a.hi, .int .i64 b.lo, .int .i64 b.hi]); exact hdx) Try.underlying25 rfl (by kernel_rfl)) rfl ⟨rfl, by go_grown⟩
end Go.Proofs.Ytpbbbfglecbceaa
