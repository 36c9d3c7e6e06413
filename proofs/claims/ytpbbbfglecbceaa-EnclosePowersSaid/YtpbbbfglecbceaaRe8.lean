/- The document's Power and Root. -/
import Derived.Test.YtpbbbfglecbceaaRe7
import Derived.Test.YtpbbbfglecbceaaEn15
namespace Go.Proofs.Ytpbbbfglecbceaa
set_option linter.all false
open Go.RowKit

theorem rpower_any (x : En.Rc) (w : World) : Calls Try.prog 30 #[rcV x] w fun e w' => e = .returned (spE (powerR x)) ∧ Below w.heap.size w w' := by
  have CV := rvalidRect_any x
  cases hv : x.ok with
  | false =>
    have ht : powerR x = (⟨0, 0⟩, 50) := by unfold powerR; rw [hv]; rfl
    rw [hv] at CV
    rw [ht]
    replace CV := Lib.hid CV
    clear hv ht
    go_enter Try.func30, Try.ntmps30
    go_wp2_with fail
    have HA : Hd ((w.alloc (.cells #[.int .i64 x.re.lo, .int .i64 x.re.hi, .int .i64 x.im.lo, .int .i64 x.im.hi] 25)).alloc (.cells #[.int .i64 0, .int .i64 0] 23)) w.heap.size 25 #[.int .i64 x.re.lo, .int .i64 x.re.hi, .int .i64 x.im.lo, .int .i64 x.im.hi] := by (repeat' (first | (with_reducible assumption) | (with_reducible refine Hd.new ?_; (try simp only [World.size_alloc, World.size_setCell, World.size_drew]); done) | with_reducible refine Hd.alloc ?_ _ | with_reducible refine Hd.drew ?_ | with_reducible refine Hd.drewN ?_ _ | with_reducible apply Hd.set' | (with_reducible apply Hd.far; case hp => first | (simp; done) | (simp; omega)) | exact (rfl : Array.setIfInBounds _ _ _ = _)))
    have HO : Hd ((w.alloc (.cells #[.int .i64 x.re.lo, .int .i64 x.re.hi, .int .i64 x.im.lo, .int .i64 x.im.hi] 25)).alloc (.cells #[.int .i64 0, .int .i64 0] 23)) (w.heap.size + 1) 23 #[.int .i64 0, .int .i64 0] := by (repeat' (first | (with_reducible assumption) | (with_reducible refine Hd.new ?_; (try simp only [World.size_alloc, World.size_setCell, World.size_drew]); done) | with_reducible refine Hd.alloc ?_ _ | with_reducible refine Hd.drew ?_ | with_reducible refine Hd.drewN ?_ _ | with_reducible apply Hd.set' | (with_reducible apply Hd.far; case hp => first | (simp; done) | (simp; omega)) | exact (rfl : Array.setIfInBounds _ _ _ = _)))
    have bw : Below w.heap.size w ((w.alloc (.cells #[.int .i64 x.re.lo, .int .i64 x.re.hi, .int .i64 x.im.lo, .int .i64 x.im.hi] 25)).alloc (.cells #[.int .i64 0, .int .i64 0] 23)) := by go_grown
    refine (CV.out _).mono ?_
    rintro e w1 ⟨rfl, hb1⟩
    replace bw : Below w.heap.size w w1 := below_next bw hb1
    replace HA := HA.call hb1
    replace HO := HO.call hb1
    have lw1 : w.heap.size ≤ w1.heap.size := bw.size
    clear hb1
    obtain ⟨hcA, hfA⟩ := HA.facts
    obtain ⟨hcO, hfO⟩ := HO.facts
    go_wp2
    refine bodyPost_ret (run_results2 rfl rfl (by (show Hd _ (w.heap.size + 1) 23 #[.int .i64 0, .int .i64 0]); (repeat' (first | (with_reducible assumption) | (with_reducible refine Hd.new ?_; (try simp only [World.size_alloc, World.size_setCell, World.size_drew]); done) | with_reducible refine Hd.alloc ?_ _ | with_reducible refine Hd.drew ?_ | with_reducible refine Hd.drewN ?_ _ | with_reducible apply Hd.set' | (with_reducible apply Hd.far; case hp => first | (simp; done) | (simp; omega)) | exact (rfl : Array.setIfInBounds _ _ _ = _)))) Try.underlying23 rfl (by kernel_rfl)) rfl ⟨rfl, by go_grown⟩
  | true =>
    have ht : powerR x = outS (En.power x) := by unfold powerR; rw [hv]; rfl
    have hop' := Lib.hid (wpower_any x hv)
    rw [hv] at CV
    rw [ht]
    replace CV := Lib.hid CV
    clear hv ht
    go_enter Try.func30, Try.ntmps30
    go_wp2_with fail
    have HA : Hd ((w.alloc (.cells #[.int .i64 x.re.lo, .int .i64 x.re.hi, .int .i64 x.im.lo, .int .i64 x.im.hi] 25)).alloc (.cells #[.int .i64 0, .int .i64 0] 23)) w.heap.size 25 #[.int .i64 x.re.lo, .int .i64 x.re.hi, .int .i64 x.im.lo, .int .i64 x.im.hi] := by (repeat' (first | (with_reducible assumption) | (with_reducible refine Hd.new ?_; (try simp only [World.size_alloc, World.size_setCell, World.size_drew]); done) | with_reducible refine Hd.alloc ?_ _ | with_reducible refine Hd.drew ?_ | with_reducible refine Hd.drewN ?_ _ | with_reducible apply Hd.set' | (with_reducible apply Hd.far; case hp => first | (simp; done) | (simp; omega)) | exact (rfl : Array.setIfInBounds _ _ _ = _)))
    have HO : Hd ((w.alloc (.cells #[.int .i64 x.re.lo, .int .i64 x.re.hi, .int .i64 x.im.lo, .int .i64 x.im.hi] 25)).alloc (.cells #[.int .i64 0, .int .i64 0] 23)) (w.heap.size + 1) 23 #[.int .i64 0, .int .i64 0] := by (repeat' (first | (with_reducible assumption) | (with_reducible refine Hd.new ?_; (try simp only [World.size_alloc, World.size_setCell, World.size_drew]); done) | with_reducible refine Hd.alloc ?_ _ | with_reducible refine Hd.drew ?_ | with_reducible refine Hd.drewN ?_ _ | with_reducible apply Hd.set' | (with_reducible apply Hd.far; case hp => first | (simp; done) | (simp; omega)) | exact (rfl : Array.setIfInBounds _ _ _ = _)))
    have bw : Below w.heap.size w ((w.alloc (.cells #[.int .i64 x.re.lo, .int .i64 x.re.hi, .int .i64 x.im.lo, .int .i64 x.im.hi] 25)).alloc (.cells #[.int .i64 0, .int .i64 0] 23)) := by go_grown
    refine (CV.out _).mono ?_
    rintro e w1 ⟨rfl, hb1⟩
    replace bw : Below w.heap.size w w1 := below_next bw hb1
    replace HA := HA.call hb1
    replace HO := HO.call hb1
    have lw1 : w.heap.size ≤ w1.heap.size := bw.size
    clear hb1
    obtain ⟨hcA, hfA⟩ := HA.facts
    obtain ⟨hcO, hfO⟩ := HO.facts
    have ltA := HA.lt
    have ltO := HO.lt
    go_wp2_with fail
    replace HA : Hd (w1.alloc (.cells #[.int .i64 0] 83)) w.heap.size 25 #[.int .i64 x.re.lo, .int .i64 x.re.hi, .int .i64 x.im.lo, .int .i64 x.im.hi] := by (repeat' (first | (with_reducible assumption) | (with_reducible refine Hd.new ?_; (try simp only [World.size_alloc, World.size_setCell, World.size_drew]); done) | with_reducible refine Hd.alloc ?_ _ | with_reducible refine Hd.drew ?_ | with_reducible refine Hd.drewN ?_ _ | with_reducible apply Hd.set' | (with_reducible apply Hd.far; case hp => first | (simp; done) | (simp; omega)) | exact (rfl : Array.setIfInBounds _ _ _ = _)))
    replace HO : Hd (w1.alloc (.cells #[.int .i64 0] 83)) (w.heap.size + 1) 23 #[.int .i64 0, .int .i64 0] := by (repeat' (first | (with_reducible assumption) | (with_reducible refine Hd.new ?_; (try simp only [World.size_alloc, World.size_setCell, World.size_drew]); done) | with_reducible refine Hd.alloc ?_ _ | with_reducible refine Hd.drew ?_ | with_reducible refine Hd.drewN ?_ _ | with_reducible apply Hd.set' | (with_reducible apply Hd.far; case hp => first | (simp; done) | (simp; omega)) | exact (rfl : Array.setIfInBounds _ _ _ = _)))
    replace bw : Below w.heap.size w (w1.alloc (.cells #[.int .i64 0] 83)) := by go_grown
    have HG : Hd (w1.alloc (.cells #[.int .i64 0] 83)) w1.heap.size 83 #[.int .i64 0] := by (repeat' (first | (with_reducible assumption) | (with_reducible refine Hd.new ?_; (try simp only [World.size_alloc, World.size_setCell, World.size_drew]); done) | with_reducible refine Hd.alloc ?_ _ | with_reducible refine Hd.drew ?_ | with_reducible refine Hd.drewN ?_ _ | with_reducible apply Hd.set' | (with_reducible apply Hd.far; case hp => first | (simp; done) | (simp; omega)) | exact (rfl : Array.setIfInBounds _ _ _ = _)))
    refine (hop'.out 0 _ _ HG).mono ?_
    rintro e w2 ⟨z, e1, rfl, okz, zz, qq, HG2, hb2⟩
    replace qq := Lib.hid qq
    replace zz := Lib.hid zz
    replace bw : Below w.heap.size w w2 := But.far bw hb2 (by omega) (by simp only [World.size_alloc]; omega)
    replace HA := HA.but hb2 (by omega)
    replace HO := HO.but hb2 (by omega)
    have ltG := HG2.lt
    have lw2 : w.heap.size ≤ w2.heap.size := bw.size
    clear hb2 HG
    have HG := HG2
    clear HG2
    obtain ⟨hcA, hfA⟩ := HA.facts
    obtain ⟨hcO, hfO⟩ := HO.facts
    obtain ⟨hcG, hfG⟩ := HG.facts
    have ltA2 := HA.lt
    have ltO2 := HO.lt
    go_upto_region 5 with fail
    replace HA : Hd ((w2.alloc (.cells #[.int .i64 z.lo, .int .i64 z.hi] 23)).drew) w.heap.size 25 #[.int .i64 x.re.lo, .int .i64 x.re.hi, .int .i64 x.im.lo, .int .i64 x.im.hi] := by (repeat' (first | (with_reducible assumption) | (with_reducible refine Hd.new ?_; (try simp only [World.size_alloc, World.size_setCell, World.size_drew]); done) | with_reducible refine Hd.alloc ?_ _ | with_reducible refine Hd.drew ?_ | with_reducible refine Hd.drewN ?_ _ | with_reducible apply Hd.set' | (with_reducible apply Hd.far; case hp => first | (simp; done) | (simp; omega)) | exact (rfl : Array.setIfInBounds _ _ _ = _)))
    replace HO : Hd ((w2.alloc (.cells #[.int .i64 z.lo, .int .i64 z.hi] 23)).drew) (w.heap.size + 1) 23 #[.int .i64 0, .int .i64 0] := by (repeat' (first | (with_reducible assumption) | (with_reducible refine Hd.new ?_; (try simp only [World.size_alloc, World.size_setCell, World.size_drew]); done) | with_reducible refine Hd.alloc ?_ _ | with_reducible refine Hd.drew ?_ | with_reducible refine Hd.drewN ?_ _ | with_reducible apply Hd.set' | (with_reducible apply Hd.far; case hp => first | (simp; done) | (simp; omega)) | exact (rfl : Array.setIfInBounds _ _ _ = _)))
    replace HG : Hd ((w2.alloc (.cells #[.int .i64 z.lo, .int .i64 z.hi] 23)).drew) w1.heap.size 83 #[.int .i64 e1] := by (repeat' (first | (with_reducible assumption) | (with_reducible refine Hd.new ?_; (try simp only [World.size_alloc, World.size_setCell, World.size_drew]); done) | with_reducible refine Hd.alloc ?_ _ | with_reducible refine Hd.drew ?_ | with_reducible refine Hd.drewN ?_ _ | with_reducible apply Hd.set' | (with_reducible apply Hd.far; case hp => first | (simp; done) | (simp; omega)) | exact (rfl : Array.setIfInBounds _ _ _ = _)))
    replace bw : Below w.heap.size w ((w2.alloc (.cells #[.int .i64 z.lo, .int .i64 z.hi] 23)).drew) := by go_grown
    have HZ : Hd ((w2.alloc (.cells #[.int .i64 z.lo, .int .i64 z.hi] 23)).drew) w2.heap.size 23 #[.int .i64 z.lo, .int .i64 z.hi] := by (repeat' (first | (with_reducible assumption) | (with_reducible refine Hd.new ?_; (try simp only [World.size_alloc, World.size_setCell, World.size_drew]); done) | with_reducible refine Hd.alloc ?_ _ | with_reducible refine Hd.drew ?_ | with_reducible refine Hd.drewN ?_ _ | with_reducible apply Hd.set' | (with_reducible apply Hd.far; case hp => first | (simp; done) | (simp; omega)) | exact (rfl : Array.setIfInBounds _ _ _ = _)))
    (refine wp_region_eag (fun w' => Hd w' w1.heap.size 83 #[.int .i64 e1] ∧ Hd w' w2.heap.size 23 #[.int .i64 z.lo, .int .i64 z.hi] ∧ Below w.heap.size w w') [(0, true), (1, true), (2, true), (3, true), (4, true), (5, false), (6, true)] (by kernel_rfl) (by kernel_rfl) (fun c d v a w h => by cases d <;> exact h) ⟨HG, HZ, bw⟩ ?_; simp only [List.map_cons, List.map_nil, List.getD_cons_zero, List.getD_cons_succ, flMark, Nat.reduceEqDiff, ↓reduceIte])
    repeat (first | (with_reducible refine eag_move ?_; simp only [Act.put, Act.eval, List.setIfInBounds_toArray, List.set_cons_zero, List.set_cons_succ, Array.getD_eq_getD_getElem?, List.getElem?_toArray, List.getElem?_cons_zero, List.getElem?_cons_succ, Option.getD_some]) | (with_reducible refine eag_assign ?_; simp only [Act.put, Act.eval, List.setIfInBounds_toArray, List.set_cons_zero, List.set_cons_succ, Array.getD_eq_getD_getElem?, List.getElem?_toArray, List.getElem?_cons_zero, List.getElem?_cons_succ, Option.getD_some]) | ((with_reducible refine eag_soft (v := ?_) (fun w' hw' => ?_) ?_); rotate_left 1; (focus (obtain ⟨hG, hZ, hBw⟩ := hw'; obtain ⟨hcG, hfG⟩ := hG.facts; obtain ⟨hcZ, hfZ⟩ := hZ.facts; go_simp; (try with_reducible rfl); done)); simp only [Act.put, Act.eval, List.setIfInBounds_toArray, List.set_cons_zero, List.set_cons_succ, Array.getD_eq_getD_getElem?, List.getElem?_toArray, List.getElem?_cons_zero, List.getElem?_cons_succ, Option.getD_some]))
    generalize hW : (w2.alloc (.cells #[.int .i64 z.lo, .int .i64 z.hi] 23)).drew = w3 at HA HO HG HZ bw ⊢
    clear hW
    have lw3 : w.heap.size ≤ w3.heap.size := bw.size
    obtain ⟨hcO, hfO⟩ := HO.facts
    refine eag_hard ?_
    go_wp2_with fail
    replace HA : Hd ((w3.setCell ⟨(w.heap.size + 1), 0, none⟩ (.int .i64 z.lo)).setCell ⟨(w.heap.size + 1), 1, none⟩ (.int .i64 z.hi)) w.heap.size 25 #[.int .i64 x.re.lo, .int .i64 x.re.hi, .int .i64 x.im.lo, .int .i64 x.im.hi] := by (repeat' (first | (with_reducible assumption) | (with_reducible refine Hd.new ?_; (try simp only [World.size_alloc, World.size_setCell, World.size_drew]); done) | with_reducible refine Hd.alloc ?_ _ | with_reducible refine Hd.drew ?_ | with_reducible refine Hd.drewN ?_ _ | with_reducible apply Hd.set' | (with_reducible apply Hd.far; case hp => first | (simp; done) | (simp; omega)) | exact (rfl : Array.setIfInBounds _ _ _ = _)))
    replace HO : Hd ((w3.setCell ⟨(w.heap.size + 1), 0, none⟩ (.int .i64 z.lo)).setCell ⟨(w.heap.size + 1), 1, none⟩ (.int .i64 z.hi)) (w.heap.size + 1) 23 #[.int .i64 z.lo, .int .i64 z.hi] := by (repeat' (first | (with_reducible assumption) | (with_reducible refine Hd.new ?_; (try simp only [World.size_alloc, World.size_setCell, World.size_drew]); done) | with_reducible refine Hd.alloc ?_ _ | with_reducible refine Hd.drew ?_ | with_reducible refine Hd.drewN ?_ _ | with_reducible apply Hd.set' | (with_reducible apply Hd.far; case hp => first | (simp; done) | (simp; omega)) | exact (rfl : Array.setIfInBounds _ _ _ = _)))
    replace HG : Hd ((w3.setCell ⟨(w.heap.size + 1), 0, none⟩ (.int .i64 z.lo)).setCell ⟨(w.heap.size + 1), 1, none⟩ (.int .i64 z.hi)) w1.heap.size 83 #[.int .i64 e1] := by (repeat' (first | (with_reducible assumption) | (with_reducible refine Hd.new ?_; (try simp only [World.size_alloc, World.size_setCell, World.size_drew]); done) | with_reducible refine Hd.alloc ?_ _ | with_reducible refine Hd.drew ?_ | with_reducible refine Hd.drewN ?_ _ | with_reducible apply Hd.set' | (with_reducible apply Hd.far; case hp => first | (simp; done) | (simp; omega)) | exact (rfl : Array.setIfInBounds _ _ _ = _)))
    replace HZ : Hd ((w3.setCell ⟨(w.heap.size + 1), 0, none⟩ (.int .i64 z.lo)).setCell ⟨(w.heap.size + 1), 1, none⟩ (.int .i64 z.hi)) w2.heap.size 23 #[.int .i64 z.lo, .int .i64 z.hi] := by (repeat' (first | (with_reducible assumption) | (with_reducible refine Hd.new ?_; (try simp only [World.size_alloc, World.size_setCell, World.size_drew]); done) | with_reducible refine Hd.alloc ?_ _ | with_reducible refine Hd.drew ?_ | with_reducible refine Hd.drewN ?_ _ | with_reducible apply Hd.set' | (with_reducible apply Hd.far; case hp => first | (simp; done) | (simp; omega)) | exact (rfl : Array.setIfInBounds _ _ _ = _)))
    replace bw : Below w.heap.size w ((w3.setCell ⟨(w.heap.size + 1), 0, none⟩ (.int .i64 z.lo)).setCell ⟨(w.heap.size + 1), 1, none⟩ (.int .i64 z.hi)) := by go_grown
    (try refine ⟨⟨HG, HZ, bw⟩, ?_⟩)
    repeat (first | (with_reducible refine eag_move ?_; simp only [Act.put, Act.eval, List.setIfInBounds_toArray, List.set_cons_zero, List.set_cons_succ, Array.getD_eq_getD_getElem?, List.getElem?_toArray, List.getElem?_cons_zero, List.getElem?_cons_succ, Option.getD_some]) | (with_reducible refine eag_assign ?_; simp only [Act.put, Act.eval, List.setIfInBounds_toArray, List.set_cons_zero, List.set_cons_succ, Array.getD_eq_getD_getElem?, List.getElem?_toArray, List.getElem?_cons_zero, List.getElem?_cons_succ, Option.getD_some]) | ((with_reducible refine eag_soft (v := ?_) (fun w' hw' => ?_) ?_); rotate_left 1; (focus (obtain ⟨hG, hZ, hBw⟩ := hw'; obtain ⟨hcG, hfG⟩ := hG.facts; obtain ⟨hcZ, hfZ⟩ := hZ.facts; go_simp; (try with_reducible rfl); done)); simp only [Act.put, Act.eval, List.setIfInBounds_toArray, List.set_cons_zero, List.set_cons_succ, Array.getD_eq_getD_getElem?, List.getElem?_toArray, List.getElem?_cons_zero, List.getElem?_cons_succ, Option.getD_some]))
    refine eag_nil ?_
    go_wp2
    rcases qq.out.zero with ⟨hr, rfl⟩ | ⟨hr, hne⟩
    · refine bodyPost_ret (run_results2 rfl rfl (by (show Hd _ (w.heap.size + 1) 23 #[.int .i64 z.lo, .int .i64 z.hi]); (repeat' (first | (with_reducible assumption) | (with_reducible refine Hd.new ?_; (try simp only [World.size_alloc, World.size_setCell, World.size_drew]); done) | with_reducible refine Hd.alloc ?_ _ | with_reducible refine Hd.drew ?_ | with_reducible refine Hd.drewN ?_ _ | with_reducible apply Hd.set' | (with_reducible apply Hd.far; case hp => first | (simp; done) | (simp; omega)) | exact (rfl : Array.setIfInBounds _ _ _ = _)))) Try.underlying23 rfl (by kernel_rfl)) rfl ⟨by rw [hr]; rfl, by go_grown⟩
    · have hz := zz.out hne
      subst hz
      refine bodyPost_ret (run_results2 rfl rfl (by (show Hd _ (w.heap.size + 1) 23 #[.int .i64 0, .int .i64 0]); (repeat' (first | (with_reducible assumption) | (with_reducible refine Hd.new ?_; (try simp only [World.size_alloc, World.size_setCell, World.size_drew]); done) | with_reducible refine Hd.alloc ?_ _ | with_reducible refine Hd.drew ?_ | with_reducible refine Hd.drewN ?_ _ | with_reducible apply Hd.set' | (with_reducible apply Hd.far; case hp => first | (simp; done) | (simp; omega)) | exact (rfl : Array.setIfInBounds _ _ _ = _)))) Try.underlying23 rfl (by kernel_rfl)) rfl ⟨by rw [hr]; rfl, by go_grown⟩

theorem rroot_any (s : En.Sp) (w : World) : Calls Try.prog 32 #[spV s] w fun e w' => e = .returned (spE (rootR s)) ∧ Below w.heap.size w w' := by
  have CV := rvalid_any s.lo s.hi
  cases hv : En.okS s.lo s.hi with
  | false =>
    have ht : rootR s = (⟨0, 0⟩, 50) := by unfold rootR En.Sp.ok; rw [hv]; rfl
    rw [hv] at CV
    rw [ht]
    replace CV := Lib.hid CV
    clear hv ht
    go_enter Try.func32, Try.ntmps32
    go_wp2_with fail
    have HA : Hd ((w.alloc (.cells #[.int .i64 s.lo, .int .i64 s.hi] 23)).alloc (.cells #[.int .i64 0, .int .i64 0] 23)) w.heap.size 23 #[.int .i64 s.lo, .int .i64 s.hi] := by (repeat' (first | (with_reducible assumption) | (with_reducible refine Hd.new ?_; (try simp only [World.size_alloc, World.size_setCell, World.size_drew]); done) | with_reducible refine Hd.alloc ?_ _ | with_reducible refine Hd.drew ?_ | with_reducible refine Hd.drewN ?_ _ | with_reducible apply Hd.set' | (with_reducible apply Hd.far; case hp => first | (simp; done) | (simp; omega)) | exact (rfl : Array.setIfInBounds _ _ _ = _)))
    have HO : Hd ((w.alloc (.cells #[.int .i64 s.lo, .int .i64 s.hi] 23)).alloc (.cells #[.int .i64 0, .int .i64 0] 23)) (w.heap.size + 1) 23 #[.int .i64 0, .int .i64 0] := by (repeat' (first | (with_reducible assumption) | (with_reducible refine Hd.new ?_; (try simp only [World.size_alloc, World.size_setCell, World.size_drew]); done) | with_reducible refine Hd.alloc ?_ _ | with_reducible refine Hd.drew ?_ | with_reducible refine Hd.drewN ?_ _ | with_reducible apply Hd.set' | (with_reducible apply Hd.far; case hp => first | (simp; done) | (simp; omega)) | exact (rfl : Array.setIfInBounds _ _ _ = _)))
    have bw : Below w.heap.size w ((w.alloc (.cells #[.int .i64 s.lo, .int .i64 s.hi] 23)).alloc (.cells #[.int .i64 0, .int .i64 0] 23)) := by go_grown
    refine (CV.out _).mono ?_
    rintro e w1 ⟨rfl, hb1⟩
    replace bw : Below w.heap.size w w1 := below_next bw hb1
    replace HA := HA.call hb1
    replace HO := HO.call hb1
    have lw1 : w.heap.size ≤ w1.heap.size := bw.size
    clear hb1
    obtain ⟨hcA, hfA⟩ := HA.facts
    obtain ⟨hcO, hfO⟩ := HO.facts
    go_wp2
    refine bodyPost_ret (run_results2 rfl rfl (by (show Hd _ (w.heap.size + 1) 23 #[.int .i64 0, .int .i64 0]); (repeat' (first | (with_reducible assumption) | (with_reducible refine Hd.new ?_; (try simp only [World.size_alloc, World.size_setCell, World.size_drew]); done) | with_reducible refine Hd.alloc ?_ _ | with_reducible refine Hd.drew ?_ | with_reducible refine Hd.drewN ?_ _ | with_reducible apply Hd.set' | (with_reducible apply Hd.far; case hp => first | (simp; done) | (simp; omega)) | exact (rfl : Array.setIfInBounds _ _ _ = _)))) Try.underlying23 rfl (by kernel_rfl)) rfl ⟨rfl, by go_grown⟩
  | true =>
    by_cases hl : s.lo < 0
    · have ht : rootR s = (⟨0, 0⟩, 2) := by unfold rootR En.Sp.ok; rw [hv]; simp [hl]
      rw [hv] at CV
      rw [ht]
      replace CV := Lib.hid CV
      clear hv ht
      go_enter Try.func32, Try.ntmps32
      go_wp2_with fail
      have HA : Hd ((w.alloc (.cells #[.int .i64 s.lo, .int .i64 s.hi] 23)).alloc (.cells #[.int .i64 0, .int .i64 0] 23)) w.heap.size 23 #[.int .i64 s.lo, .int .i64 s.hi] := by (repeat' (first | (with_reducible assumption) | (with_reducible refine Hd.new ?_; (try simp only [World.size_alloc, World.size_setCell, World.size_drew]); done) | with_reducible refine Hd.alloc ?_ _ | with_reducible refine Hd.drew ?_ | with_reducible refine Hd.drewN ?_ _ | with_reducible apply Hd.set' | (with_reducible apply Hd.far; case hp => first | (simp; done) | (simp; omega)) | exact (rfl : Array.setIfInBounds _ _ _ = _)))
      have HO : Hd ((w.alloc (.cells #[.int .i64 s.lo, .int .i64 s.hi] 23)).alloc (.cells #[.int .i64 0, .int .i64 0] 23)) (w.heap.size + 1) 23 #[.int .i64 0, .int .i64 0] := by (repeat' (first | (with_reducible assumption) | (with_reducible refine Hd.new ?_; (try simp only [World.size_alloc, World.size_setCell, World.size_drew]); done) | with_reducible refine Hd.alloc ?_ _ | with_reducible refine Hd.drew ?_ | with_reducible refine Hd.drewN ?_ _ | with_reducible apply Hd.set' | (with_reducible apply Hd.far; case hp => first | (simp; done) | (simp; omega)) | exact (rfl : Array.setIfInBounds _ _ _ = _)))
      have bw : Below w.heap.size w ((w.alloc (.cells #[.int .i64 s.lo, .int .i64 s.hi] 23)).alloc (.cells #[.int .i64 0, .int .i64 0] 23)) := by go_grown
      refine (CV.out _).mono ?_
      rintro e w1 ⟨rfl, hb1⟩
      replace bw : Below w.heap.size w w1 := below_next bw hb1
      replace HA := HA.call hb1
      replace HO := HO.call hb1
      have lw1 : w.heap.size ≤ w1.heap.size := bw.size
      clear hb1
      obtain ⟨hcA, hfA⟩ := HA.facts
      obtain ⟨hcO, hfO⟩ := HO.facts
      go_wp2
      refine bodyPost_ret (run_results2 rfl rfl (by (show Hd _ (w.heap.size + 1) 23 #[.int .i64 0, .int .i64 0]); (repeat' (first | (with_reducible assumption) | (with_reducible refine Hd.new ?_; (try simp only [World.size_alloc, World.size_setCell, World.size_drew]); done) | with_reducible refine Hd.alloc ?_ _ | with_reducible refine Hd.drew ?_ | with_reducible refine Hd.drewN ?_ _ | with_reducible apply Hd.set' | (with_reducible apply Hd.far; case hp => first | (simp; done) | (simp; omega)) | exact (rfl : Array.setIfInBounds _ _ _ = _)))) Try.underlying23 rfl (by kernel_rfl)) rfl ⟨rfl, by go_grown⟩
    · have ht : rootR s = outS (En.roots s) := by unfold rootR En.Sp.ok; rw [hv]; simp [hl]
      have hle := En.Sp.le_of_ok (s := s) hv
      have hop' := Lib.hid (wroot_any s (En.Sp.fit_of_ok (s := s) hv) (by omega) (by omega))
      rw [hv] at CV
      rw [ht]
      replace CV := Lib.hid CV
      clear hv ht hle
      go_enter Try.func32, Try.ntmps32
      go_wp2_with fail
      have HA : Hd ((w.alloc (.cells #[.int .i64 s.lo, .int .i64 s.hi] 23)).alloc (.cells #[.int .i64 0, .int .i64 0] 23)) w.heap.size 23 #[.int .i64 s.lo, .int .i64 s.hi] := by (repeat' (first | (with_reducible assumption) | (with_reducible refine Hd.new ?_; (try simp only [World.size_alloc, World.size_setCell, World.size_drew]); done) | with_reducible refine Hd.alloc ?_ _ | with_reducible refine Hd.drew ?_ | with_reducible refine Hd.drewN ?_ _ | with_reducible apply Hd.set' | (with_reducible apply Hd.far; case hp => first | (simp; done) | (simp; omega)) | exact (rfl : Array.setIfInBounds _ _ _ = _)))
      have HO : Hd ((w.alloc (.cells #[.int .i64 s.lo, .int .i64 s.hi] 23)).alloc (.cells #[.int .i64 0, .int .i64 0] 23)) (w.heap.size + 1) 23 #[.int .i64 0, .int .i64 0] := by (repeat' (first | (with_reducible assumption) | (with_reducible refine Hd.new ?_; (try simp only [World.size_alloc, World.size_setCell, World.size_drew]); done) | with_reducible refine Hd.alloc ?_ _ | with_reducible refine Hd.drew ?_ | with_reducible refine Hd.drewN ?_ _ | with_reducible apply Hd.set' | (with_reducible apply Hd.far; case hp => first | (simp; done) | (simp; omega)) | exact (rfl : Array.setIfInBounds _ _ _ = _)))
      have bw : Below w.heap.size w ((w.alloc (.cells #[.int .i64 s.lo, .int .i64 s.hi] 23)).alloc (.cells #[.int .i64 0, .int .i64 0] 23)) := by go_grown
      refine (CV.out _).mono ?_
      rintro e w1 ⟨rfl, hb1⟩
      replace bw : Below w.heap.size w w1 := below_next bw hb1
      replace HA := HA.call hb1
      replace HO := HO.call hb1
      have lw1 : w.heap.size ≤ w1.heap.size := bw.size
      clear hb1
      obtain ⟨hcA, hfA⟩ := HA.facts
      obtain ⟨hcO, hfO⟩ := HO.facts
      have ltA := HA.lt
      have ltO := HO.lt
      go_wp2_with fail
      replace HA : Hd (w1.alloc (.cells #[.int .i64 0] 83)) w.heap.size 23 #[.int .i64 s.lo, .int .i64 s.hi] := by (repeat' (first | (with_reducible assumption) | (with_reducible refine Hd.new ?_; (try simp only [World.size_alloc, World.size_setCell, World.size_drew]); done) | with_reducible refine Hd.alloc ?_ _ | with_reducible refine Hd.drew ?_ | with_reducible refine Hd.drewN ?_ _ | with_reducible apply Hd.set' | (with_reducible apply Hd.far; case hp => first | (simp; done) | (simp; omega)) | exact (rfl : Array.setIfInBounds _ _ _ = _)))
      replace HO : Hd (w1.alloc (.cells #[.int .i64 0] 83)) (w.heap.size + 1) 23 #[.int .i64 0, .int .i64 0] := by (repeat' (first | (with_reducible assumption) | (with_reducible refine Hd.new ?_; (try simp only [World.size_alloc, World.size_setCell, World.size_drew]); done) | with_reducible refine Hd.alloc ?_ _ | with_reducible refine Hd.drew ?_ | with_reducible refine Hd.drewN ?_ _ | with_reducible apply Hd.set' | (with_reducible apply Hd.far; case hp => first | (simp; done) | (simp; omega)) | exact (rfl : Array.setIfInBounds _ _ _ = _)))
      replace bw : Below w.heap.size w (w1.alloc (.cells #[.int .i64 0] 83)) := by go_grown
      have HG : Hd (w1.alloc (.cells #[.int .i64 0] 83)) w1.heap.size 83 #[.int .i64 0] := by (repeat' (first | (with_reducible assumption) | (with_reducible refine Hd.new ?_; (try simp only [World.size_alloc, World.size_setCell, World.size_drew]); done) | with_reducible refine Hd.alloc ?_ _ | with_reducible refine Hd.drew ?_ | with_reducible refine Hd.drewN ?_ _ | with_reducible apply Hd.set' | (with_reducible apply Hd.far; case hp => first | (simp; done) | (simp; omega)) | exact (rfl : Array.setIfInBounds _ _ _ = _)))
      refine (hop'.out 0 _ _ HG).mono ?_
      rintro e w2 ⟨z, e1, rfl, okz, zz, qq, HG2, hb2⟩
      replace qq := Lib.hid qq
      replace zz := Lib.hid zz
      replace bw : Below w.heap.size w w2 := But.far bw hb2 (by omega) (by simp only [World.size_alloc]; omega)
      replace HA := HA.but hb2 (by omega)
      replace HO := HO.but hb2 (by omega)
      have ltG := HG2.lt
      have lw2 : w.heap.size ≤ w2.heap.size := bw.size
      clear hb2 HG
      have HG := HG2
      clear HG2
      obtain ⟨hcA, hfA⟩ := HA.facts
      obtain ⟨hcO, hfO⟩ := HO.facts
      obtain ⟨hcG, hfG⟩ := HG.facts
      have ltA2 := HA.lt
      have ltO2 := HO.lt
      go_upto_region 7 with fail
      replace HA : Hd ((w2.alloc (.cells #[.int .i64 z.lo, .int .i64 z.hi] 23)).drew) w.heap.size 23 #[.int .i64 s.lo, .int .i64 s.hi] := by (repeat' (first | (with_reducible assumption) | (with_reducible refine Hd.new ?_; (try simp only [World.size_alloc, World.size_setCell, World.size_drew]); done) | with_reducible refine Hd.alloc ?_ _ | with_reducible refine Hd.drew ?_ | with_reducible refine Hd.drewN ?_ _ | with_reducible apply Hd.set' | (with_reducible apply Hd.far; case hp => first | (simp; done) | (simp; omega)) | exact (rfl : Array.setIfInBounds _ _ _ = _)))
      replace HO : Hd ((w2.alloc (.cells #[.int .i64 z.lo, .int .i64 z.hi] 23)).drew) (w.heap.size + 1) 23 #[.int .i64 0, .int .i64 0] := by (repeat' (first | (with_reducible assumption) | (with_reducible refine Hd.new ?_; (try simp only [World.size_alloc, World.size_setCell, World.size_drew]); done) | with_reducible refine Hd.alloc ?_ _ | with_reducible refine Hd.drew ?_ | with_reducible refine Hd.drewN ?_ _ | with_reducible apply Hd.set' | (with_reducible apply Hd.far; case hp => first | (simp; done) | (simp; omega)) | exact (rfl : Array.setIfInBounds _ _ _ = _)))
      replace HG : Hd ((w2.alloc (.cells #[.int .i64 z.lo, .int .i64 z.hi] 23)).drew) w1.heap.size 83 #[.int .i64 e1] := by (repeat' (first | (with_reducible assumption) | (with_reducible refine Hd.new ?_; (try simp only [World.size_alloc, World.size_setCell, World.size_drew]); done) | with_reducible refine Hd.alloc ?_ _ | with_reducible refine Hd.drew ?_ | with_reducible refine Hd.drewN ?_ _ | with_reducible apply Hd.set' | (with_reducible apply Hd.far; case hp => first | (simp; done) | (simp; omega)) | exact (rfl : Array.setIfInBounds _ _ _ = _)))
      replace bw : Below w.heap.size w ((w2.alloc (.cells #[.int .i64 z.lo, .int .i64 z.hi] 23)).drew) := by go_grown
      have HZ : Hd ((w2.alloc (.cells #[.int .i64 z.lo, .int .i64 z.hi] 23)).drew) w2.heap.size 23 #[.int .i64 z.lo, .int .i64 z.hi] := by (repeat' (first | (with_reducible assumption) | (with_reducible refine Hd.new ?_; (try simp only [World.size_alloc, World.size_setCell, World.size_drew]); done) | with_reducible refine Hd.alloc ?_ _ | with_reducible refine Hd.drew ?_ | with_reducible refine Hd.drewN ?_ _ | with_reducible apply Hd.set' | (with_reducible apply Hd.far; case hp => first | (simp; done) | (simp; omega)) | exact (rfl : Array.setIfInBounds _ _ _ = _)))
      (refine wp_region_eag (fun w' => Hd w' w1.heap.size 83 #[.int .i64 e1] ∧ Hd w' w2.heap.size 23 #[.int .i64 z.lo, .int .i64 z.hi] ∧ Below w.heap.size w w') [(0, true), (1, true), (2, true), (3, true), (4, true), (5, false), (6, true)] (by kernel_rfl) (by kernel_rfl) (fun c d v a w h => by cases d <;> exact h) ⟨HG, HZ, bw⟩ ?_; simp only [List.map_cons, List.map_nil, List.getD_cons_zero, List.getD_cons_succ, flMark, Nat.reduceEqDiff, ↓reduceIte])
      repeat (first | (with_reducible refine eag_move ?_; simp only [Act.put, Act.eval, List.setIfInBounds_toArray, List.set_cons_zero, List.set_cons_succ, Array.getD_eq_getD_getElem?, List.getElem?_toArray, List.getElem?_cons_zero, List.getElem?_cons_succ, Option.getD_some]) | (with_reducible refine eag_assign ?_; simp only [Act.put, Act.eval, List.setIfInBounds_toArray, List.set_cons_zero, List.set_cons_succ, Array.getD_eq_getD_getElem?, List.getElem?_toArray, List.getElem?_cons_zero, List.getElem?_cons_succ, Option.getD_some]) | ((with_reducible refine eag_soft (v := ?_) (fun w' hw' => ?_) ?_); rotate_left 1; (focus (obtain ⟨hG, hZ, hBw⟩ := hw'; obtain ⟨hcG, hfG⟩ := hG.facts; obtain ⟨hcZ, hfZ⟩ := hZ.facts; go_simp; (try with_reducible rfl); done)); simp only [Act.put, Act.eval, List.setIfInBounds_toArray, List.set_cons_zero, List.set_cons_succ, Array.getD_eq_getD_getElem?, List.getElem?_toArray, List.getElem?_cons_zero, List.getElem?_cons_succ, Option.getD_some]))
      generalize hW : (w2.alloc (.cells #[.int .i64 z.lo, .int .i64 z.hi] 23)).drew = w3 at HA HO HG HZ bw ⊢
      clear hW
      have lw3 : w.heap.size ≤ w3.heap.size := bw.size
      obtain ⟨hcO, hfO⟩ := HO.facts
      refine eag_hard ?_
      go_wp2_with fail
      replace HA : Hd ((w3.setCell ⟨(w.heap.size + 1), 0, none⟩ (.int .i64 z.lo)).setCell ⟨(w.heap.size + 1), 1, none⟩ (.int .i64 z.hi)) w.heap.size 23 #[.int .i64 s.lo, .int .i64 s.hi] := by (repeat' (first | (with_reducible assumption) | (with_reducible refine Hd.new ?_; (try simp only [World.size_alloc, World.size_setCell, World.size_drew]); done) | with_reducible refine Hd.alloc ?_ _ | with_reducible refine Hd.drew ?_ | with_reducible refine Hd.drewN ?_ _ | with_reducible apply Hd.set' | (with_reducible apply Hd.far; case hp => first | (simp; done) | (simp; omega)) | exact (rfl : Array.setIfInBounds _ _ _ = _)))
      replace HO : Hd ((w3.setCell ⟨(w.heap.size + 1), 0, none⟩ (.int .i64 z.lo)).setCell ⟨(w.heap.size + 1), 1, none⟩ (.int .i64 z.hi)) (w.heap.size + 1) 23 #[.int .i64 z.lo, .int .i64 z.hi] := by (repeat' (first | (with_reducible assumption) | (with_reducible refine Hd.new ?_; (try simp only [World.size_alloc, World.size_setCell, World.size_drew]); done) | with_reducible refine Hd.alloc ?_ _ | with_reducible refine Hd.drew ?_ | with_reducible refine Hd.drewN ?_ _ | with_reducible apply Hd.set' | (with_reducible apply Hd.far; case hp => first | (simp; done) | (simp; omega)) | exact (rfl : Array.setIfInBounds _ _ _ = _)))
      replace HG : Hd ((w3.setCell ⟨(w.heap.size + 1), 0, none⟩ (.int .i64 z.lo)).setCell ⟨(w.heap.size + 1), 1, none⟩ (.int .i64 z.hi)) w1.heap.size 83 #[.int .i64 e1] := by (repeat' (first | (with_reducible assumption) | (with_reducible refine Hd.new ?_; (try simp only [World.size_alloc, World.size_setCell, World.size_drew]); done) | with_reducible refine Hd.alloc ?_ _ | with_reducible refine Hd.drew ?_ | with_reducible refine Hd.drewN ?_ _ | with_reducible apply Hd.set' | (with_reducible apply Hd.far; case hp => first | (simp; done) | (simp; omega)) | exact (rfl : Array.setIfInBounds _ _ _ = _)))
      replace HZ : Hd ((w3.setCell ⟨(w.heap.size + 1), 0, none⟩ (.int .i64 z.lo)).setCell ⟨(w.heap.size + 1), 1, none⟩ (.int .i64 z.hi)) w2.heap.size 23 #[.int .i64 z.lo, .int .i64 z.hi] := by (repeat' (first | (with_reducible assumption) | (with_reducible refine Hd.new ?_; (try simp only [World.size_alloc, World.size_setCell, World.size_drew]); done) | with_reducible refine Hd.alloc ?_ _ | with_reducible refine Hd.drew ?_ | with_reducible refine Hd.drewN ?_ _ | with_reducible apply Hd.set' | (with_reducible apply Hd.far; case hp => first | (simp; done) | (simp; omega)) | exact (rfl : Array.setIfInBounds _ _ _ = _)))
      replace bw : Below w.heap.size w ((w3.setCell ⟨(w.heap.size + 1), 0, none⟩ (.int .i64 z.lo)).setCell ⟨(w.heap.size + 1), 1, none⟩ (.int .i64 z.hi)) := by go_grown
      (try refine ⟨⟨HG, HZ, bw⟩, ?_⟩)
      repeat (first | (with_reducible refine eag_move ?_; simp only [Act.put, Act.eval, List.setIfInBounds_toArray, List.set_cons_zero, List.set_cons_succ, Array.getD_eq_getD_getElem?, List.getElem?_toArray, List.getElem?_cons_zero, List.getElem?_cons_succ, Option.getD_some]) | (with_reducible refine eag_assign ?_; simp only [Act.put, Act.eval, List.setIfInBounds_toArray, List.set_cons_zero, List.set_cons_succ, Array.getD_eq_getD_getElem?, List.getElem?_toArray, List.getElem?_cons_zero, List.getElem?_cons_succ, Option.getD_some]) | ((with_reducible refine eag_soft (v := ?_) (fun w' hw' => ?_) ?_); rotate_left 1; (focus (obtain ⟨hG, hZ, hBw⟩ := hw'; obtain ⟨hcG, hfG⟩ := hG.facts; obtain ⟨hcZ, hfZ⟩ := hZ.facts; go_simp; (try with_reducible rfl); done)); simp only [Act.put, Act.eval, List.setIfInBounds_toArray, List.set_cons_zero, List.set_cons_succ, Array.getD_eq_getD_getElem?, List.getElem?_toArray, List.getElem?_cons_zero, List.getElem?_cons_succ, Option.getD_some]))
      refine eag_nil ?_
      go_wp2
      rcases qq.out.zero with ⟨hr, rfl⟩ | ⟨hr, hne⟩
      · refine bodyPost_ret (run_results2 rfl rfl (by (show Hd _ (w.heap.size + 1) 23 #[.int .i64 z.lo, .int .i64 z.hi]); (repeat' (first | (with_reducible assumption) | (with_reducible refine Hd.new ?_; (try simp only [World.size_alloc, World.size_setCell, World.size_drew]); done) | with_reducible refine Hd.alloc ?_ _ | with_reducible refine Hd.drew ?_ | with_reducible refine Hd.drewN ?_ _ | with_reducible apply Hd.set' | (with_reducible apply Hd.far; case hp => first | (simp; done) | (simp; omega)) | exact (rfl : Array.setIfInBounds _ _ _ = _)))) Try.underlying23 rfl (by kernel_rfl)) rfl ⟨by rw [hr]; rfl, by go_grown⟩
      · have hz := zz.out hne
        subst hz
        refine bodyPost_ret (run_results2 rfl rfl (by (show Hd _ (w.heap.size + 1) 23 #[.int .i64 0, .int .i64 0]); (repeat' (first | (with_reducible assumption) | (with_reducible refine Hd.new ?_; (try simp only [World.size_alloc, World.size_setCell, World.size_drew]); done) | with_reducible refine Hd.alloc ?_ _ | with_reducible refine Hd.drew ?_ | with_reducible refine Hd.drewN ?_ _ | with_reducible apply Hd.set' | (with_reducible apply Hd.far; case hp => first | (simp; done) | (simp; omega)) | exact (rfl : Array.setIfInBounds _ _ _ = _)))) Try.underlying23 rfl (by kernel_rfl)) rfl ⟨by rw [hr]; rfl, by go_grown⟩
end Go.Proofs.Ytpbbbfglecbceaa
