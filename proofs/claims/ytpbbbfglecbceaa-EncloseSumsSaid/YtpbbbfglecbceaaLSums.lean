/- Sums and differences of rectangles, and which spans are valid: for all rectangles. -/
import Derived.Test.YtpbbbfglecbceaaRows
import Derived.Test.YtpbbbfglecbceaaFlat
import Derived.Test.YtpbbbfglecbceaaEn17
import Derived.Test.YtpbbbfglecbceaaRe5
import Derived.WalkKit
import Derived.ProofKit
import Derived.OpenShut
namespace Go.Proofs.Ytpbbbfglecbceaa
set_option linter.all false
open Go.ChangeShapes Go.WideShapes Go.ChangeAt Go.RowKit
namespace LawSums

theorem walk (x y : En.Rc) (w : World) : Calls Try.prog 4 #[rcV x, rcV y] w fun e w' => e = .returned (.bool true) ∧ Below w.heap.size w w' := by
  have C1 := addE_any x y
  have C2 := rtwo_add x y
  have C3 := subE_any x y
  have C4 := rtwo_sub x y
  have C5 := valid_any x.re.lo x.re.hi
  have C6 := rvalid_any x.re.lo x.re.hi
  obtain ⟨a, ha⟩ : ∃ r, twoR En.plus x y = r := ⟨_, rfl⟩
  rw [ha] at C1
  rw [ha] at C2
  clear ha
  obtain ⟨b, hb⟩ : ∃ r, twoR En.minus x y = r := ⟨_, rfl⟩
  rw [hb] at C3
  rw [hb] at C4
  clear hb
  obtain ⟨c, hc⟩ : ∃ r, En.okS x.re.lo x.re.hi = r := ⟨_, rfl⟩
  rw [hc] at C5
  rw [hc] at C6
  clear hc
  obtain ⟨a1, a2⟩ := a
  obtain ⟨b1, b2⟩ := b
  replace C1 := Lib.hid C1
  replace C2 := Lib.hid C2
  replace C3 := Lib.hid C3
  replace C4 := Lib.hid C4
  replace C5 := Lib.hid C5
  replace C6 := Lib.hid C6
  go_enter Try.func4, Try.ntmps4
  go_wp2_with fail
  have HA : Hd ((w.alloc (.cells #[.int .i64 x.re.lo, .int .i64 x.re.hi, .int .i64 x.im.lo, .int .i64 x.im.hi] 25)).alloc (.cells #[.int .i64 y.re.lo, .int .i64 y.re.hi, .int .i64 y.im.lo, .int .i64 y.im.hi] 25)) w.heap.size 25 #[.int .i64 x.re.lo, .int .i64 x.re.hi, .int .i64 x.im.lo, .int .i64 x.im.hi] := by (repeat' (first | (with_reducible assumption) | (with_reducible refine Hd.new ?_; (try simp only [World.size_alloc, World.size_setCell, World.size_drew]); done) | with_reducible refine Hd.alloc ?_ _ | with_reducible refine Hd.drew ?_ | with_reducible refine Hd.drewN ?_ _ | with_reducible apply Hd.set' | (with_reducible apply Hd.far; case hp => first | (simp; done) | (simp; omega)) | exact (rfl : Array.setIfInBounds _ _ _ = _)))
  have HB : Hd ((w.alloc (.cells #[.int .i64 x.re.lo, .int .i64 x.re.hi, .int .i64 x.im.lo, .int .i64 x.im.hi] 25)).alloc (.cells #[.int .i64 y.re.lo, .int .i64 y.re.hi, .int .i64 y.im.lo, .int .i64 y.im.hi] 25)) (w.heap.size + 1) 25 #[.int .i64 y.re.lo, .int .i64 y.re.hi, .int .i64 y.im.lo, .int .i64 y.im.hi] := by (repeat' (first | (with_reducible assumption) | (with_reducible refine Hd.new ?_; (try simp only [World.size_alloc, World.size_setCell, World.size_drew]); done) | with_reducible refine Hd.alloc ?_ _ | with_reducible refine Hd.drew ?_ | with_reducible refine Hd.drewN ?_ _ | with_reducible apply Hd.set' | (with_reducible apply Hd.far; case hp => first | (simp; done) | (simp; omega)) | exact (rfl : Array.setIfInBounds _ _ _ = _)))
  have bw : Below w.heap.size w ((w.alloc (.cells #[.int .i64 x.re.lo, .int .i64 x.re.hi, .int .i64 x.im.lo, .int .i64 x.im.hi] 25)).alloc (.cells #[.int .i64 y.re.lo, .int .i64 y.re.hi, .int .i64 y.im.lo, .int .i64 y.im.hi] 25)) := by go_grown
  refine (C1.out _).mono ?_
  rintro e w1 ⟨rfl, hb1⟩
  replace bw : Below w.heap.size w w1 := below_next bw hb1
  replace HA := HA.call hb1
  replace HB := HB.call hb1
  have lw1 : w.heap.size ≤ w1.heap.size := bw.size
  clear hb1
  obtain ⟨hcA, hfA⟩ := HA.facts
  obtain ⟨hcB, hfB⟩ := HB.facts
  have ltA1 := HA.lt
  have ltB1 := HB.lt
  go_wp2_with fail
  replace HA : Hd (w1.alloc (.cells #[.int .i64 a1.re.lo, .int .i64 a1.re.hi, .int .i64 a1.im.lo, .int .i64 a1.im.hi] 25)) w.heap.size 25 #[.int .i64 x.re.lo, .int .i64 x.re.hi, .int .i64 x.im.lo, .int .i64 x.im.hi] := by (repeat' (first | (with_reducible assumption) | (with_reducible refine Hd.new ?_; (try simp only [World.size_alloc, World.size_setCell, World.size_drew]); done) | with_reducible refine Hd.alloc ?_ _ | with_reducible refine Hd.drew ?_ | with_reducible refine Hd.drewN ?_ _ | with_reducible apply Hd.set' | (with_reducible apply Hd.far; case hp => first | (simp; done) | (simp; omega)) | exact (rfl : Array.setIfInBounds _ _ _ = _)))
  replace HB : Hd (w1.alloc (.cells #[.int .i64 a1.re.lo, .int .i64 a1.re.hi, .int .i64 a1.im.lo, .int .i64 a1.im.hi] 25)) (w.heap.size + 1) 25 #[.int .i64 y.re.lo, .int .i64 y.re.hi, .int .i64 y.im.lo, .int .i64 y.im.hi] := by (repeat' (first | (with_reducible assumption) | (with_reducible refine Hd.new ?_; (try simp only [World.size_alloc, World.size_setCell, World.size_drew]); done) | with_reducible refine Hd.alloc ?_ _ | with_reducible refine Hd.drew ?_ | with_reducible refine Hd.drewN ?_ _ | with_reducible apply Hd.set' | (with_reducible apply Hd.far; case hp => first | (simp; done) | (simp; omega)) | exact (rfl : Array.setIfInBounds _ _ _ = _)))
  replace bw : Below w.heap.size w (w1.alloc (.cells #[.int .i64 a1.re.lo, .int .i64 a1.re.hi, .int .i64 a1.im.lo, .int .i64 a1.im.hi] 25)) := by go_grown
  have HX : Hd (w1.alloc (.cells #[.int .i64 a1.re.lo, .int .i64 a1.re.hi, .int .i64 a1.im.lo, .int .i64 a1.im.hi] 25)) w1.heap.size 25 #[.int .i64 a1.re.lo, .int .i64 a1.re.hi, .int .i64 a1.im.lo, .int .i64 a1.im.hi] := by (repeat' (first | (with_reducible assumption) | (with_reducible refine Hd.new ?_; (try simp only [World.size_alloc, World.size_setCell, World.size_drew]); done) | with_reducible refine Hd.alloc ?_ _ | with_reducible refine Hd.drew ?_ | with_reducible refine Hd.drewN ?_ _ | with_reducible apply Hd.set' | (with_reducible apply Hd.far; case hp => first | (simp; done) | (simp; omega)) | exact (rfl : Array.setIfInBounds _ _ _ = _)))
  refine (C2.out _).mono ?_
  rintro e w2 ⟨rfl, hb2⟩
  replace bw : Below w.heap.size w w2 := below_next bw hb2
  replace HA := HA.call hb2
  replace HB := HB.call hb2
  replace HX := HX.call hb2
  have lw2 : w.heap.size ≤ w2.heap.size := bw.size
  clear hb2
  obtain ⟨hcA, hfA⟩ := HA.facts
  obtain ⟨hcB, hfB⟩ := HB.facts
  obtain ⟨hcX, hfX⟩ := HX.facts
  have ltA2 := HA.lt
  have ltB2 := HB.lt
  have ltX2 := HX.lt
  go_wp2_with fail
  replace HA : Hd (w2.alloc (.cells #[.int .i64 a1.re.lo, .int .i64 a1.re.hi, .int .i64 a1.im.lo, .int .i64 a1.im.hi] 25)) w.heap.size 25 #[.int .i64 x.re.lo, .int .i64 x.re.hi, .int .i64 x.im.lo, .int .i64 x.im.hi] := by (repeat' (first | (with_reducible assumption) | (with_reducible refine Hd.new ?_; (try simp only [World.size_alloc, World.size_setCell, World.size_drew]); done) | with_reducible refine Hd.alloc ?_ _ | with_reducible refine Hd.drew ?_ | with_reducible refine Hd.drewN ?_ _ | with_reducible apply Hd.set' | (with_reducible apply Hd.far; case hp => first | (simp; done) | (simp; omega)) | exact (rfl : Array.setIfInBounds _ _ _ = _)))
  replace HB : Hd (w2.alloc (.cells #[.int .i64 a1.re.lo, .int .i64 a1.re.hi, .int .i64 a1.im.lo, .int .i64 a1.im.hi] 25)) (w.heap.size + 1) 25 #[.int .i64 y.re.lo, .int .i64 y.re.hi, .int .i64 y.im.lo, .int .i64 y.im.hi] := by (repeat' (first | (with_reducible assumption) | (with_reducible refine Hd.new ?_; (try simp only [World.size_alloc, World.size_setCell, World.size_drew]); done) | with_reducible refine Hd.alloc ?_ _ | with_reducible refine Hd.drew ?_ | with_reducible refine Hd.drewN ?_ _ | with_reducible apply Hd.set' | (with_reducible apply Hd.far; case hp => first | (simp; done) | (simp; omega)) | exact (rfl : Array.setIfInBounds _ _ _ = _)))
  replace HX : Hd (w2.alloc (.cells #[.int .i64 a1.re.lo, .int .i64 a1.re.hi, .int .i64 a1.im.lo, .int .i64 a1.im.hi] 25)) w1.heap.size 25 #[.int .i64 a1.re.lo, .int .i64 a1.re.hi, .int .i64 a1.im.lo, .int .i64 a1.im.hi] := by (repeat' (first | (with_reducible assumption) | (with_reducible refine Hd.new ?_; (try simp only [World.size_alloc, World.size_setCell, World.size_drew]); done) | with_reducible refine Hd.alloc ?_ _ | with_reducible refine Hd.drew ?_ | with_reducible refine Hd.drewN ?_ _ | with_reducible apply Hd.set' | (with_reducible apply Hd.far; case hp => first | (simp; done) | (simp; omega)) | exact (rfl : Array.setIfInBounds _ _ _ = _)))
  replace bw : Below w.heap.size w (w2.alloc (.cells #[.int .i64 a1.re.lo, .int .i64 a1.re.hi, .int .i64 a1.im.lo, .int .i64 a1.im.hi] 25)) := by go_grown
  have HY : Hd (w2.alloc (.cells #[.int .i64 a1.re.lo, .int .i64 a1.re.hi, .int .i64 a1.im.lo, .int .i64 a1.im.hi] 25)) w2.heap.size 25 #[.int .i64 a1.re.lo, .int .i64 a1.re.hi, .int .i64 a1.im.lo, .int .i64 a1.im.hi] := by (repeat' (first | (with_reducible assumption) | (with_reducible refine Hd.new ?_; (try simp only [World.size_alloc, World.size_setCell, World.size_drew]); done) | with_reducible refine Hd.alloc ?_ _ | with_reducible refine Hd.drew ?_ | with_reducible refine Hd.drewN ?_ _ | with_reducible apply Hd.set' | (with_reducible apply Hd.far; case hp => first | (simp; done) | (simp; omega)) | exact (rfl : Array.setIfInBounds _ _ _ = _)))
  refine (C3.out _).mono ?_
  rintro e w3 ⟨rfl, hb3⟩
  replace bw : Below w.heap.size w w3 := below_next bw hb3
  replace HA := HA.call hb3
  replace HB := HB.call hb3
  replace HX := HX.call hb3
  replace HY := HY.call hb3
  have lw3 : w.heap.size ≤ w3.heap.size := bw.size
  clear hb3
  obtain ⟨hcA, hfA⟩ := HA.facts
  obtain ⟨hcB, hfB⟩ := HB.facts
  obtain ⟨hcX, hfX⟩ := HX.facts
  obtain ⟨hcY, hfY⟩ := HY.facts
  have ltA3 := HA.lt
  have ltB3 := HB.lt
  have ltX3 := HX.lt
  have ltY3 := HY.lt
  go_wp2_with fail
  replace HA : Hd (w3.alloc (.cells #[.int .i64 b1.re.lo, .int .i64 b1.re.hi, .int .i64 b1.im.lo, .int .i64 b1.im.hi] 25)) w.heap.size 25 #[.int .i64 x.re.lo, .int .i64 x.re.hi, .int .i64 x.im.lo, .int .i64 x.im.hi] := by (repeat' (first | (with_reducible assumption) | (with_reducible refine Hd.new ?_; (try simp only [World.size_alloc, World.size_setCell, World.size_drew]); done) | with_reducible refine Hd.alloc ?_ _ | with_reducible refine Hd.drew ?_ | with_reducible refine Hd.drewN ?_ _ | with_reducible apply Hd.set' | (with_reducible apply Hd.far; case hp => first | (simp; done) | (simp; omega)) | exact (rfl : Array.setIfInBounds _ _ _ = _)))
  replace HB : Hd (w3.alloc (.cells #[.int .i64 b1.re.lo, .int .i64 b1.re.hi, .int .i64 b1.im.lo, .int .i64 b1.im.hi] 25)) (w.heap.size + 1) 25 #[.int .i64 y.re.lo, .int .i64 y.re.hi, .int .i64 y.im.lo, .int .i64 y.im.hi] := by (repeat' (first | (with_reducible assumption) | (with_reducible refine Hd.new ?_; (try simp only [World.size_alloc, World.size_setCell, World.size_drew]); done) | with_reducible refine Hd.alloc ?_ _ | with_reducible refine Hd.drew ?_ | with_reducible refine Hd.drewN ?_ _ | with_reducible apply Hd.set' | (with_reducible apply Hd.far; case hp => first | (simp; done) | (simp; omega)) | exact (rfl : Array.setIfInBounds _ _ _ = _)))
  replace HX : Hd (w3.alloc (.cells #[.int .i64 b1.re.lo, .int .i64 b1.re.hi, .int .i64 b1.im.lo, .int .i64 b1.im.hi] 25)) w1.heap.size 25 #[.int .i64 a1.re.lo, .int .i64 a1.re.hi, .int .i64 a1.im.lo, .int .i64 a1.im.hi] := by (repeat' (first | (with_reducible assumption) | (with_reducible refine Hd.new ?_; (try simp only [World.size_alloc, World.size_setCell, World.size_drew]); done) | with_reducible refine Hd.alloc ?_ _ | with_reducible refine Hd.drew ?_ | with_reducible refine Hd.drewN ?_ _ | with_reducible apply Hd.set' | (with_reducible apply Hd.far; case hp => first | (simp; done) | (simp; omega)) | exact (rfl : Array.setIfInBounds _ _ _ = _)))
  replace HY : Hd (w3.alloc (.cells #[.int .i64 b1.re.lo, .int .i64 b1.re.hi, .int .i64 b1.im.lo, .int .i64 b1.im.hi] 25)) w2.heap.size 25 #[.int .i64 a1.re.lo, .int .i64 a1.re.hi, .int .i64 a1.im.lo, .int .i64 a1.im.hi] := by (repeat' (first | (with_reducible assumption) | (with_reducible refine Hd.new ?_; (try simp only [World.size_alloc, World.size_setCell, World.size_drew]); done) | with_reducible refine Hd.alloc ?_ _ | with_reducible refine Hd.drew ?_ | with_reducible refine Hd.drewN ?_ _ | with_reducible apply Hd.set' | (with_reducible apply Hd.far; case hp => first | (simp; done) | (simp; omega)) | exact (rfl : Array.setIfInBounds _ _ _ = _)))
  replace bw : Below w.heap.size w (w3.alloc (.cells #[.int .i64 b1.re.lo, .int .i64 b1.re.hi, .int .i64 b1.im.lo, .int .i64 b1.im.hi] 25)) := by go_grown
  have HZ : Hd (w3.alloc (.cells #[.int .i64 b1.re.lo, .int .i64 b1.re.hi, .int .i64 b1.im.lo, .int .i64 b1.im.hi] 25)) w3.heap.size 25 #[.int .i64 b1.re.lo, .int .i64 b1.re.hi, .int .i64 b1.im.lo, .int .i64 b1.im.hi] := by (repeat' (first | (with_reducible assumption) | (with_reducible refine Hd.new ?_; (try simp only [World.size_alloc, World.size_setCell, World.size_drew]); done) | with_reducible refine Hd.alloc ?_ _ | with_reducible refine Hd.drew ?_ | with_reducible refine Hd.drewN ?_ _ | with_reducible apply Hd.set' | (with_reducible apply Hd.far; case hp => first | (simp; done) | (simp; omega)) | exact (rfl : Array.setIfInBounds _ _ _ = _)))
  refine (C4.out _).mono ?_
  rintro e w4 ⟨rfl, hb4⟩
  replace bw : Below w.heap.size w w4 := below_next bw hb4
  replace HA := HA.call hb4
  replace HB := HB.call hb4
  replace HX := HX.call hb4
  replace HY := HY.call hb4
  replace HZ := HZ.call hb4
  have lw4 : w.heap.size ≤ w4.heap.size := bw.size
  clear hb4
  obtain ⟨hcA, hfA⟩ := HA.facts
  obtain ⟨hcB, hfB⟩ := HB.facts
  obtain ⟨hcX, hfX⟩ := HX.facts
  obtain ⟨hcY, hfY⟩ := HY.facts
  obtain ⟨hcZ, hfZ⟩ := HZ.facts
  have ltA4 := HA.lt
  have ltB4 := HB.lt
  have ltX4 := HX.lt
  have ltY4 := HY.lt
  have ltZ4 := HZ.lt
  go_upto_region 5 with fail
  replace HA : Hd ((w4.alloc (.cells #[.int .i64 b1.re.lo, .int .i64 b1.re.hi, .int .i64 b1.im.lo, .int .i64 b1.im.hi] 25)).drew) w.heap.size 25 #[.int .i64 x.re.lo, .int .i64 x.re.hi, .int .i64 x.im.lo, .int .i64 x.im.hi] := by (repeat' (first | (with_reducible assumption) | (with_reducible refine Hd.new ?_; (try simp only [World.size_alloc, World.size_setCell, World.size_drew]); done) | with_reducible refine Hd.alloc ?_ _ | with_reducible refine Hd.drew ?_ | with_reducible refine Hd.drewN ?_ _ | with_reducible apply Hd.set' | (with_reducible apply Hd.far; case hp => first | (simp; done) | (simp; omega)) | exact (rfl : Array.setIfInBounds _ _ _ = _)))
  replace HB : Hd ((w4.alloc (.cells #[.int .i64 b1.re.lo, .int .i64 b1.re.hi, .int .i64 b1.im.lo, .int .i64 b1.im.hi] 25)).drew) (w.heap.size + 1) 25 #[.int .i64 y.re.lo, .int .i64 y.re.hi, .int .i64 y.im.lo, .int .i64 y.im.hi] := by (repeat' (first | (with_reducible assumption) | (with_reducible refine Hd.new ?_; (try simp only [World.size_alloc, World.size_setCell, World.size_drew]); done) | with_reducible refine Hd.alloc ?_ _ | with_reducible refine Hd.drew ?_ | with_reducible refine Hd.drewN ?_ _ | with_reducible apply Hd.set' | (with_reducible apply Hd.far; case hp => first | (simp; done) | (simp; omega)) | exact (rfl : Array.setIfInBounds _ _ _ = _)))
  replace HX : Hd ((w4.alloc (.cells #[.int .i64 b1.re.lo, .int .i64 b1.re.hi, .int .i64 b1.im.lo, .int .i64 b1.im.hi] 25)).drew) w1.heap.size 25 #[.int .i64 a1.re.lo, .int .i64 a1.re.hi, .int .i64 a1.im.lo, .int .i64 a1.im.hi] := by (repeat' (first | (with_reducible assumption) | (with_reducible refine Hd.new ?_; (try simp only [World.size_alloc, World.size_setCell, World.size_drew]); done) | with_reducible refine Hd.alloc ?_ _ | with_reducible refine Hd.drew ?_ | with_reducible refine Hd.drewN ?_ _ | with_reducible apply Hd.set' | (with_reducible apply Hd.far; case hp => first | (simp; done) | (simp; omega)) | exact (rfl : Array.setIfInBounds _ _ _ = _)))
  replace HY : Hd ((w4.alloc (.cells #[.int .i64 b1.re.lo, .int .i64 b1.re.hi, .int .i64 b1.im.lo, .int .i64 b1.im.hi] 25)).drew) w2.heap.size 25 #[.int .i64 a1.re.lo, .int .i64 a1.re.hi, .int .i64 a1.im.lo, .int .i64 a1.im.hi] := by (repeat' (first | (with_reducible assumption) | (with_reducible refine Hd.new ?_; (try simp only [World.size_alloc, World.size_setCell, World.size_drew]); done) | with_reducible refine Hd.alloc ?_ _ | with_reducible refine Hd.drew ?_ | with_reducible refine Hd.drewN ?_ _ | with_reducible apply Hd.set' | (with_reducible apply Hd.far; case hp => first | (simp; done) | (simp; omega)) | exact (rfl : Array.setIfInBounds _ _ _ = _)))
  replace HZ : Hd ((w4.alloc (.cells #[.int .i64 b1.re.lo, .int .i64 b1.re.hi, .int .i64 b1.im.lo, .int .i64 b1.im.hi] 25)).drew) w3.heap.size 25 #[.int .i64 b1.re.lo, .int .i64 b1.re.hi, .int .i64 b1.im.lo, .int .i64 b1.im.hi] := by (repeat' (first | (with_reducible assumption) | (with_reducible refine Hd.new ?_; (try simp only [World.size_alloc, World.size_setCell, World.size_drew]); done) | with_reducible refine Hd.alloc ?_ _ | with_reducible refine Hd.drew ?_ | with_reducible refine Hd.drewN ?_ _ | with_reducible apply Hd.set' | (with_reducible apply Hd.far; case hp => first | (simp; done) | (simp; omega)) | exact (rfl : Array.setIfInBounds _ _ _ = _)))
  replace bw : Below w.heap.size w ((w4.alloc (.cells #[.int .i64 b1.re.lo, .int .i64 b1.re.hi, .int .i64 b1.im.lo, .int .i64 b1.im.hi] 25)).drew) := by go_grown
  have HV : Hd ((w4.alloc (.cells #[.int .i64 b1.re.lo, .int .i64 b1.re.hi, .int .i64 b1.im.lo, .int .i64 b1.im.hi] 25)).drew) w4.heap.size 25 #[.int .i64 b1.re.lo, .int .i64 b1.re.hi, .int .i64 b1.im.lo, .int .i64 b1.im.hi] := by (repeat' (first | (with_reducible assumption) | (with_reducible refine Hd.new ?_; (try simp only [World.size_alloc, World.size_setCell, World.size_drew]); done) | with_reducible refine Hd.alloc ?_ _ | with_reducible refine Hd.drew ?_ | with_reducible refine Hd.drewN ?_ _ | with_reducible apply Hd.set' | (with_reducible apply Hd.far; case hp => first | (simp; done) | (simp; omega)) | exact (rfl : Array.setIfInBounds _ _ _ = _)))
  (refine wp_region_eag (fun w' => Hd w' w.heap.size 25 #[.int .i64 x.re.lo, .int .i64 x.re.hi, .int .i64 x.im.lo, .int .i64 x.im.hi] ∧ Hd w' w1.heap.size 25 #[.int .i64 a1.re.lo, .int .i64 a1.re.hi, .int .i64 a1.im.lo, .int .i64 a1.im.hi] ∧ Hd w' w2.heap.size 25 #[.int .i64 a1.re.lo, .int .i64 a1.re.hi, .int .i64 a1.im.lo, .int .i64 a1.im.hi] ∧ Hd w' w3.heap.size 25 #[.int .i64 b1.re.lo, .int .i64 b1.re.hi, .int .i64 b1.im.lo, .int .i64 b1.im.hi] ∧ Hd w' w4.heap.size 25 #[.int .i64 b1.re.lo, .int .i64 b1.re.hi, .int .i64 b1.im.lo, .int .i64 b1.im.hi] ∧ Below w.heap.size w w') [(0, true), (1, true), (3, true), (4, true), (2, false), (5, false), (6, true), (7, true), (8, true), (9, true), (10, true), (11, true), (12, true), (13, true), (14, true), (15, true), (16, true), (17, true), (18, true), (19, true), (20, true), (21, true), (22, true), (23, true), (24, true), (25, true), (26, true), (27, true), (28, false), (29, true), (30, true)] (by kernel_rfl) (by kernel_rfl) (fun c d v a w h => by cases d <;> exact h) ⟨HA, HX, HY, HZ, HV, bw⟩ ?_; simp only [List.map_cons, List.map_nil, List.getD_cons_zero, List.getD_cons_succ, flMark, Nat.reduceEqDiff, ↓reduceIte])
  repeat (first | (with_reducible refine eag_move ?_; simp only [Act.put, Act.eval, List.setIfInBounds_toArray, List.set_cons_zero, List.set_cons_succ, Array.getD_eq_getD_getElem?, List.getElem?_toArray, List.getElem?_cons_zero, List.getElem?_cons_succ, Option.getD_some]) | (with_reducible refine eag_assign ?_; simp only [Act.put, Act.eval, List.setIfInBounds_toArray, List.set_cons_zero, List.set_cons_succ, Array.getD_eq_getD_getElem?, List.getElem?_toArray, List.getElem?_cons_zero, List.getElem?_cons_succ, Option.getD_some]) | ((with_reducible refine eag_soft (v := ?_) (fun w' hw' => ?_) ?_); rotate_left 1; (focus (obtain ⟨hA, hX, hY, hZ, hV, hBw⟩ := hw'; obtain ⟨hcA, hfA⟩ := hA.facts; obtain ⟨hcX, hfX⟩ := hX.facts; obtain ⟨hcY, hfY⟩ := hY.facts; obtain ⟨hcZ, hfZ⟩ := hZ.facts; obtain ⟨hcV, hfV⟩ := hV.facts; go_simp; (try with_reducible rfl); done)); simp only [Act.put, Act.eval, List.setIfInBounds_toArray, List.set_cons_zero, List.set_cons_succ, Array.getD_eq_getD_getElem?, List.getElem?_toArray, List.getElem?_cons_zero, List.getElem?_cons_succ, Option.getD_some]) | ((refine eag_soft_g (v := ?_) (by rfl) (fun w' hw' => ?_) ?_); rotate_left 1; (focus (obtain ⟨hA, hX, hY, hZ, hV, hBw⟩ := hw'; obtain ⟨hcA, hfA⟩ := hA.facts; obtain ⟨hcX, hfX⟩ := hX.facts; obtain ⟨hcY, hfY⟩ := hY.facts; obtain ⟨hcZ, hfZ⟩ := hZ.facts; obtain ⟨hcV, hfV⟩ := hV.facts; go_simp; (try with_reducible rfl); done)); simp only [Act.put, Act.eval, List.setIfInBounds_toArray, List.set_cons_zero, List.set_cons_succ, Array.getD_eq_getD_getElem?, List.getElem?_toArray, List.getElem?_cons_zero, List.getElem?_cons_succ, Option.getD_some]))
  refine eag_hard ?_
  go_wp2_with fail
  refine (C5.out _).mono ?_
  rintro e w5 ⟨rfl, hb5⟩
  replace bw : Below w.heap.size w w5 := below_next bw hb5
  replace HA := HA.call hb5
  replace HB := HB.call hb5
  replace HX := HX.call hb5
  replace HY := HY.call hb5
  replace HZ := HZ.call hb5
  replace HV := HV.call hb5
  have lw5 : w.heap.size ≤ w5.heap.size := bw.size
  clear hb5
  go_wp2_with fail
  (try refine ⟨⟨HA, HX, HY, HZ, HV, bw⟩, ?_⟩)
  repeat (first | (with_reducible refine eag_move ?_; simp only [Act.put, Act.eval, List.setIfInBounds_toArray, List.set_cons_zero, List.set_cons_succ, Array.getD_eq_getD_getElem?, List.getElem?_toArray, List.getElem?_cons_zero, List.getElem?_cons_succ, Option.getD_some]) | (with_reducible refine eag_assign ?_; simp only [Act.put, Act.eval, List.setIfInBounds_toArray, List.set_cons_zero, List.set_cons_succ, Array.getD_eq_getD_getElem?, List.getElem?_toArray, List.getElem?_cons_zero, List.getElem?_cons_succ, Option.getD_some]) | ((with_reducible refine eag_soft (v := ?_) (fun w' hw' => ?_) ?_); rotate_left 1; (focus (obtain ⟨hA, hX, hY, hZ, hV, hBw⟩ := hw'; obtain ⟨hcA, hfA⟩ := hA.facts; obtain ⟨hcX, hfX⟩ := hX.facts; obtain ⟨hcY, hfY⟩ := hY.facts; obtain ⟨hcZ, hfZ⟩ := hZ.facts; obtain ⟨hcV, hfV⟩ := hV.facts; go_simp; (try with_reducible rfl); done)); simp only [Act.put, Act.eval, List.setIfInBounds_toArray, List.set_cons_zero, List.set_cons_succ, Array.getD_eq_getD_getElem?, List.getElem?_toArray, List.getElem?_cons_zero, List.getElem?_cons_succ, Option.getD_some]) | ((refine eag_soft_g (v := ?_) (by rfl) (fun w' hw' => ?_) ?_); rotate_left 1; (focus (obtain ⟨hA, hX, hY, hZ, hV, hBw⟩ := hw'; obtain ⟨hcA, hfA⟩ := hA.facts; obtain ⟨hcX, hfX⟩ := hX.facts; obtain ⟨hcY, hfY⟩ := hY.facts; obtain ⟨hcZ, hfZ⟩ := hZ.facts; obtain ⟨hcV, hfV⟩ := hV.facts; go_simp; (try with_reducible rfl); done)); simp only [Act.put, Act.eval, List.setIfInBounds_toArray, List.set_cons_zero, List.set_cons_succ, Array.getD_eq_getD_getElem?, List.getElem?_toArray, List.getElem?_cons_zero, List.getElem?_cons_succ, Option.getD_some]))
  refine eag_hard ?_
  go_wp2_with fail
  refine (C6.out _).mono ?_
  rintro e w6 ⟨rfl, hb6⟩
  replace bw : Below w.heap.size w w6 := below_next bw hb6
  replace HA := HA.call hb6
  replace HB := HB.call hb6
  replace HX := HX.call hb6
  replace HY := HY.call hb6
  replace HZ := HZ.call hb6
  replace HV := HV.call hb6
  have lw6 : w.heap.size ≤ w6.heap.size := bw.size
  clear hb6
  go_wp2_with fail
  (try refine ⟨⟨HA, HX, HY, HZ, HV, bw⟩, ?_⟩)
  repeat (first | (with_reducible refine eag_move ?_; simp only [Act.put, Act.eval, List.setIfInBounds_toArray, List.set_cons_zero, List.set_cons_succ, Array.getD_eq_getD_getElem?, List.getElem?_toArray, List.getElem?_cons_zero, List.getElem?_cons_succ, Option.getD_some]) | (with_reducible refine eag_assign ?_; simp only [Act.put, Act.eval, List.setIfInBounds_toArray, List.set_cons_zero, List.set_cons_succ, Array.getD_eq_getD_getElem?, List.getElem?_toArray, List.getElem?_cons_zero, List.getElem?_cons_succ, Option.getD_some]) | ((with_reducible refine eag_soft (v := ?_) (fun w' hw' => ?_) ?_); rotate_left 1; (focus (obtain ⟨hA, hX, hY, hZ, hV, hBw⟩ := hw'; obtain ⟨hcA, hfA⟩ := hA.facts; obtain ⟨hcX, hfX⟩ := hX.facts; obtain ⟨hcY, hfY⟩ := hY.facts; obtain ⟨hcZ, hfZ⟩ := hZ.facts; obtain ⟨hcV, hfV⟩ := hV.facts; go_simp; (try with_reducible rfl); done)); simp only [Act.put, Act.eval, List.setIfInBounds_toArray, List.set_cons_zero, List.set_cons_succ, Array.getD_eq_getD_getElem?, List.getElem?_toArray, List.getElem?_cons_zero, List.getElem?_cons_succ, Option.getD_some]) | ((refine eag_soft_g (v := ?_) (by rfl) (fun w' hw' => ?_) ?_); rotate_left 1; (focus (obtain ⟨hA, hX, hY, hZ, hV, hBw⟩ := hw'; obtain ⟨hcA, hfA⟩ := hA.facts; obtain ⟨hcX, hfX⟩ := hX.facts; obtain ⟨hcY, hfY⟩ := hY.facts; obtain ⟨hcZ, hfZ⟩ := hZ.facts; obtain ⟨hcV, hfV⟩ := hV.facts; go_simp; (try with_reducible rfl); done)); simp only [Act.put, Act.eval, List.setIfInBounds_toArray, List.set_cons_zero, List.set_cons_succ, Array.getD_eq_getD_getElem?, List.getElem?_toArray, List.getElem?_cons_zero, List.getElem?_cons_succ, Option.getD_some]))
  refine eag_hard ?_
  go_wp2_with fail
  refine (awake_any _).mono ?_
  rintro e w7 ⟨rfl, hb7⟩
  replace bw : Below w.heap.size w w7 := below_next bw hb7
  replace HA := HA.call hb7
  replace HB := HB.call hb7
  replace HX := HX.call hb7
  replace HY := HY.call hb7
  replace HZ := HZ.call hb7
  replace HV := HV.call hb7
  have lw7 : w.heap.size ≤ w7.heap.size := bw.size
  clear hb7
  go_wp2_with fail
  (try refine ⟨⟨HA, HX, HY, HZ, HV, bw⟩, ?_⟩)
  repeat (first | (with_reducible refine eag_move ?_; simp only [Act.put, Act.eval, List.setIfInBounds_toArray, List.set_cons_zero, List.set_cons_succ, Array.getD_eq_getD_getElem?, List.getElem?_toArray, List.getElem?_cons_zero, List.getElem?_cons_succ, Option.getD_some]) | (with_reducible refine eag_assign ?_; simp only [Act.put, Act.eval, List.setIfInBounds_toArray, List.set_cons_zero, List.set_cons_succ, Array.getD_eq_getD_getElem?, List.getElem?_toArray, List.getElem?_cons_zero, List.getElem?_cons_succ, Option.getD_some]) | ((with_reducible refine eag_soft (v := ?_) (fun w' hw' => ?_) ?_); rotate_left 1; (focus (obtain ⟨hA, hX, hY, hZ, hV, hBw⟩ := hw'; obtain ⟨hcA, hfA⟩ := hA.facts; obtain ⟨hcX, hfX⟩ := hX.facts; obtain ⟨hcY, hfY⟩ := hY.facts; obtain ⟨hcZ, hfZ⟩ := hZ.facts; obtain ⟨hcV, hfV⟩ := hV.facts; go_simp; (try with_reducible rfl); done)); simp only [Act.put, Act.eval, List.setIfInBounds_toArray, List.set_cons_zero, List.set_cons_succ, Array.getD_eq_getD_getElem?, List.getElem?_toArray, List.getElem?_cons_zero, List.getElem?_cons_succ, Option.getD_some]) | ((refine eag_soft_g (v := ?_) (by rfl) (fun w' hw' => ?_) ?_); rotate_left 1; (focus (obtain ⟨hA, hX, hY, hZ, hV, hBw⟩ := hw'; obtain ⟨hcA, hfA⟩ := hA.facts; obtain ⟨hcX, hfX⟩ := hX.facts; obtain ⟨hcY, hfY⟩ := hY.facts; obtain ⟨hcZ, hfZ⟩ := hZ.facts; obtain ⟨hcV, hfV⟩ := hV.facts; go_simp; (try with_reducible rfl); done)); simp only [Act.put, Act.eval, List.setIfInBounds_toArray, List.set_cons_zero, List.set_cons_succ, Array.getD_eq_getD_getElem?, List.getElem?_toArray, List.getElem?_cons_zero, List.getElem?_cons_succ, Option.getD_some]))
  refine eag_nil ?_
  go_wp2
  go_ret
  exact ⟨rfl, by go_grown⟩

theorem own : ownKnob Try.prog.godebug = none := by kernel_rfl

set_option maxRecDepth 100000 in
theorem lifted (os : Os) (started : os.Started) (H : Type) (enc : TypeId × Value → H) :
    ReturnsInHanded {} Try.checked os 4 .any (Rows.encloseSumsSpec.pre6 enc Try.prog Try.f4 Rows.encloseSumsRow.domain false) (Rows.encloseSumsSpec.post enc Try.prog Try.f4 false true false false) := by
  refine returnsInHanded_of_change (C := Try.checked) own started (by kernel_rfl) Try.func4
    (ChangeSpec.witness6 (enc := enc) (C := Try.checked) false ⟨#[], #[.agg #[.int .i64 0, .int .i64 0, .int .i64 0, .int .i64 0], .agg #[.int .i64 0, .int .i64 0, .int .i64 0, .int .i64 0]], []⟩ 8 (by kernel_rfl) (by kernel_rfl) (by kernel_rfl) (by kernel_rfl)) ?_
  intro W base args ds gs before hval0 hW hcnd _
  have hval : ∀ (j : Nat) t v, Try.f4.params[j]? = some t → args[j]? = some v → Value.okWide Try.prog W .any base t v := hval0
  have hW' := hW
  obtain ⟨p, q, hA0, hV, rfl, hfz, hnd⟩ := hW
  have hA : DataW.TrodAll enc Try.prog W 0 (fun _ => true) true Try.f4.params.toList args.toList ds p := hA0
  rw [Try.params4] at hA hval
  obtain ⟨rfl, hread⟩ := trodAll_flat (n := 8) (by kernel_rfl) hA
  obtain ⟨v0, vs0, d0, ds0, p0, q0, hargs, rfl, -, h0, r0⟩ := trodAll_cons hA
  obtain ⟨v1, vs1, d1, ds1, p1, q1, rfl, rfl, -, h1, r1⟩ := trodAll_cons r0
  obtain ⟨rfl, rfl, -⟩ := trodAll_nil r1
  obtain rfl : args = #[v0, v1] := by cases args; simp_all
  obtain ⟨rfl, rfl⟩ := trodVars_none hV
  obtain ⟨x0, rfl⟩ := open_rect (hval 0 25 v0 rfl rfl)
  obtain ⟨x1, rfl⟩ := open_rect (hval 1 25 v1 rfl rfl)
  clear hA0 hval0
  simp only [List.append_nil] at hW'
  refine (walk x0 x1 W).mono fun e W' ⟨he, hg⟩ => ?_
  subst he
  exact ⟨_, rfl, post_flat hW' (fun _ _ _ => (trodAll_cons_mk (shut_bool Try.underlying4 _) trodAll_mk0)) (fun sp => hread _ _ _ _) (fun _ => rfl)
    hg (ok_one (by kernel_rfl) rfl (okWide_bool_mk Try.underlying4 _))⟩

theorem holds : Rows.EncloseSumsSaid :=
  OpenClaim.holds_of_wide 4 Try.f4 rfl rfl rfl rfl rfl rfl rfl ⟨rfl, rfl, rfl, rfl, rfl⟩ rfl rfl rfl rfl rfl (by kernel_rfl) Try.func4 (by kernel_rfl)
    (of_decide_eq_true (by kernel_rfl)) (by unfold Func.isWrapper; rw [if_neg (of_decide_eq_false (by kernel_rfl))]; exact ⟨rfl, rfl⟩)
    (fun os started H enc _ => lifted os started H enc)
#print axioms holds
end LawSums
end Go.Proofs.Ytpbbbfglecbceaa
