/- The document's Ring. -/
import Derived.Test.YtpbbbfglecbceaaRe10
import Derived.Test.YtpbbbfglecbceaaRe11
import Derived.Test.YtpbbbfglecbceaaEn20
namespace Go.Proofs.Ytpbbbfglecbceaa
set_option linter.all false
open Go.RowKit

theorem rpart_pm (n : Int) (h0 : 0 ≤ n) (h1 : n ≤ 1000000) (w : World) : Calls Try.prog 54 #[.int .i64 n, .int .i64 1000000] w fun e w' => e = .returned (spE (En.pmS n, 0)) ∧ Below w.heap.size w w' := by
  have hsp : En.span (n * 1073741824 / 1000000) (-(-n * 1073741824 / 1000000)) = .ok (En.pmS n) := by rw [Int.neg_mul]; exact if_pos (En.pmS_ok h0 h1)
  have HSP := Lib.hid hsp
  have b1 : 0 ≤ n * 1073741824 / 1000000 := by omega
  have b2 : n * 1073741824 / 1000000 ≤ 1073741824 := by omega
  have b3 : -1073741824 ≤ -n * 1073741824 / 1000000 := by omega
  have b4 : -n * 1073741824 / 1000000 ≤ 0 := by omega
  clear hsp
  obtain ⟨p, hp⟩ : ∃ p, En.pmS n = p := ⟨_, rfl⟩
  rw [hp] at HSP
  rw [hp]
  clear hp
  go_enter Try.func54, Try.ntmps54
  go_wp2_with fail
  have HO : Hd ((w.alloc (.cells #[.int .i64 0, .int .i64 0] 23)).alloc (.cells #[.int .i64 0] 83)) w.heap.size 23 #[.int .i64 0, .int .i64 0] := by (with_reducible repeat' (first | assumption | (apply hdN; (try simp only [sA, sS, sD]); done) | apply hdA | apply hdD | apply hdS | (apply hdF; case hp => first | (simp; done) | (simp; omega)) | with_unfolding_all rfl))
  have HG : Hd ((w.alloc (.cells #[.int .i64 0, .int .i64 0] 23)).alloc (.cells #[.int .i64 0] 83)) (w.heap.size + 1) 83 #[.int .i64 0] := by (with_reducible repeat' (first | assumption | (apply hdN; (try simp only [sA, sS, sD]); done) | apply hdA | apply hdD | apply hdS | (apply hdF; case hp => first | (simp; done) | (simp; omega)) | with_unfolding_all rfl))
  have bw : Below w.heap.size w ((w.alloc (.cells #[.int .i64 0, .int .i64 0] 23)).alloc (.cells #[.int .i64 0] 83)) := by go_grown
  refine (below_any (n * 1073741824) 1000000 (by omega) (by omega) (by omega) (by omega) _).mono ?_
  rintro e w'' ⟨rfl, rfl⟩
  go_wp2_with fail
  refine (below_any (-n * 1073741824) 1000000 (by omega) (by omega) (by omega) (by omega) _).mono ?_
  rintro e w'' ⟨rfl, rfl⟩
  go_wp2_with fail
  refine (wspan_any _ _ 0 (w.heap.size + 1) _ HG).mono ?_
  rintro e w1 ⟨z, e1, rfl, okz, -, qq, HG1, hb1⟩
  obtain ⟨rfl, rfl⟩ := qq.sure HSP.out
  clear qq
  replace bw := But.far bw hb1 (by omega) (by (try simp only [World.size_alloc, World.size_setCell, World.size_drew]); omega)
  replace HO := HO.but hb1 (by omega)
  replace HG := HG1
  clear HG1 hb1
  have lw1 : w.heap.size ≤ w1.heap.size := bw.size
  obtain ⟨hcO, hfO⟩ := HO.facts
  obtain ⟨hcG, hfG⟩ := HG.facts
  have ltO := HO.lt
  have ltG := HG.lt
  go_upto_region 5 with fail
  replace HO : Hd ((w1.alloc (.cells #[.int .i64 p.lo, .int .i64 p.hi] 23)).drew) w.heap.size 23 #[.int .i64 0, .int .i64 0] := by (with_reducible repeat' (first | assumption | (apply hdN; (try simp only [sA, sS, sD]); done) | apply hdA | apply hdD | apply hdS | (apply hdF; case hp => first | (simp; done) | (simp; omega)) | with_unfolding_all rfl))
  replace HG : Hd ((w1.alloc (.cells #[.int .i64 p.lo, .int .i64 p.hi] 23)).drew) (w.heap.size + 1) 83 #[.int .i64 0] := by (with_reducible repeat' (first | assumption | (apply hdN; (try simp only [sA, sS, sD]); done) | apply hdA | apply hdD | apply hdS | (apply hdF; case hp => first | (simp; done) | (simp; omega)) | with_unfolding_all rfl))
  replace bw : Below w.heap.size w ((w1.alloc (.cells #[.int .i64 p.lo, .int .i64 p.hi] 23)).drew) := by go_grown
  have HZ : Hd ((w1.alloc (.cells #[.int .i64 p.lo, .int .i64 p.hi] 23)).drew) w1.heap.size 23 #[.int .i64 p.lo, .int .i64 p.hi] := by (with_reducible repeat' (first | assumption | (apply hdN; (try simp only [sA, sS, sD]); done) | apply hdA | apply hdD | apply hdS | (apply hdF; case hp => first | (simp; done) | (simp; omega)) | with_unfolding_all rfl))
  (refine wp_region_eag (fun w' => Hd w' (w.heap.size + 1) 83 #[.int .i64 0] ∧ Hd w' w1.heap.size 23 #[.int .i64 p.lo, .int .i64 p.hi] ∧ Below w.heap.size w w') [(0, true), (1, true), (2, true), (3, true), (4, true), (5, false), (6, true)] (by kernel_rfl) (by kernel_rfl) (fun c d v a w h => by cases d <;> exact h) ⟨HG, HZ, bw⟩ ?_; simp only [List.map_cons, List.map_nil, List.getD_cons_zero, List.getD_cons_succ, flMark, Nat.reduceEqDiff, ↓reduceIte])
  repeat ((first | with_reducible apply eag_move | with_reducible apply eag_assign | ((with_reducible refine eag_soft (v := ?_) (fun w' hw' => ?_) ?_); rotate_left 1; (focus (obtain ⟨hG, hZ, hBw⟩ := hw'; obtain ⟨hcG, hfG⟩ := hG.facts; obtain ⟨hcZ, hfZ⟩ := hZ.facts; go_simp; (try with_reducible rfl); done)))); simp only [Act.put, Act.eval, List.setIfInBounds_toArray, List.set_cons_zero, List.set_cons_succ, Array.getD_eq_getD_getElem?, List.getElem?_toArray, List.getElem?_cons_zero, List.getElem?_cons_succ, Option.getD_some])
  generalize hW : (w1.alloc (.cells #[.int .i64 p.lo, .int .i64 p.hi] 23)).drew = w2 at HO HG HZ bw ⊢
  clear hW
  have lw2 : w.heap.size ≤ w2.heap.size := bw.size
  obtain ⟨hcO, hfO⟩ := HO.facts
  refine eag_hard ?_
  go_wp2_with fail
  replace HO : Hd ((w2.setCell ⟨w.heap.size, 0, none⟩ (.int .i64 p.lo)).setCell ⟨w.heap.size, 1, none⟩ (.int .i64 p.hi)) w.heap.size 23 #[.int .i64 p.lo, .int .i64 p.hi] := by (with_reducible repeat' (first | assumption | (apply hdN; (try simp only [sA, sS, sD]); done) | apply hdA | apply hdD | apply hdS | (apply hdF; case hp => first | (simp; done) | (simp; omega)) | with_unfolding_all rfl))
  replace HG : Hd ((w2.setCell ⟨w.heap.size, 0, none⟩ (.int .i64 p.lo)).setCell ⟨w.heap.size, 1, none⟩ (.int .i64 p.hi)) (w.heap.size + 1) 83 #[.int .i64 0] := by (with_reducible repeat' (first | assumption | (apply hdN; (try simp only [sA, sS, sD]); done) | apply hdA | apply hdD | apply hdS | (apply hdF; case hp => first | (simp; done) | (simp; omega)) | with_unfolding_all rfl))
  replace HZ : Hd ((w2.setCell ⟨w.heap.size, 0, none⟩ (.int .i64 p.lo)).setCell ⟨w.heap.size, 1, none⟩ (.int .i64 p.hi)) w1.heap.size 23 #[.int .i64 p.lo, .int .i64 p.hi] := by (with_reducible repeat' (first | assumption | (apply hdN; (try simp only [sA, sS, sD]); done) | apply hdA | apply hdD | apply hdS | (apply hdF; case hp => first | (simp; done) | (simp; omega)) | with_unfolding_all rfl))
  replace bw : Below w.heap.size w ((w2.setCell ⟨w.heap.size, 0, none⟩ (.int .i64 p.lo)).setCell ⟨w.heap.size, 1, none⟩ (.int .i64 p.hi)) := by go_grown
  (try refine ⟨⟨HG, HZ, bw⟩, ?_⟩)
  repeat ((first | with_reducible apply eag_move | with_reducible apply eag_assign | ((with_reducible refine eag_soft (v := ?_) (fun w' hw' => ?_) ?_); rotate_left 1; (focus (obtain ⟨hG, hZ, hBw⟩ := hw'; obtain ⟨hcG, hfG⟩ := hG.facts; obtain ⟨hcZ, hfZ⟩ := hZ.facts; go_simp; (try with_reducible rfl); done)))); simp only [Act.put, Act.eval, List.setIfInBounds_toArray, List.set_cons_zero, List.set_cons_succ, Array.getD_eq_getD_getElem?, List.getElem?_toArray, List.getElem?_cons_zero, List.getElem?_cons_succ, Option.getD_some])
  refine eag_nil ?_
  go_wp2
  refine bodyPost_ret (run_results2 rfl rfl (by (show Hd _ (w.heap.size) 23 #[.int .i64 p.lo, .int .i64 p.hi]); (with_reducible repeat' (first | assumption | (apply hdN; (try simp only [sA, sS, sD]); done) | apply hdA | apply hdD | apply hdS | (apply hdF; case hp => first | (simp; done) | (simp; omega)) | with_unfolding_all rfl))) Try.underlying23 rfl (by kernel_rfl)) rfl ⟨rfl, by go_grown⟩

set_option maxHeartbeats 4000000 in
theorem rring_any (t a n : Int) (u : En.Rc) (hu : En.unit n = .ok u) (w : World) : Calls Try.prog 28 #[.int .i64 t, .int .i64 a, .int .i64 n] w fun e w' => e = .returned (rcE (ringR t a u)) ∧ Below w.heap.size w w' := by
  by_cases hin : 0 ≤ t ∧ t ≤ 1000000 ∧ 0 ≤ a ∧ a ≤ 1000000
  · have hr : ringR t a u = outR (En.ringCore ⟨En.pmS t, ⟨0, 0⟩⟩ ⟨En.pmS a, ⟨0, 0⟩⟩ u) := if_pos hin
    rw [hr]
    clear hr
    obtain ⟨t0, t1, a0, a1⟩ := hin
    have CT := rpart_pm t t0 t1
    have CA := rpart_pm a a0 a1
    have CU := runit_any n
    rw [hu, show outR (.ok u) = (u, 0) from rfl] at CU
    have okT := En.pmS_ok t0 t1
    have okA := En.pmS_ok a0 a1
    have okU := En.unit_okR hu
    clear hu
    obtain ⟨pt, hpt⟩ : ∃ p, En.pmS t = p := ⟨_, rfl⟩
    obtain ⟨pa, hpa⟩ : ∃ p, En.pmS a = p := ⟨_, rfl⟩
    rw [hpt] at CT okT
    rw [hpa] at CA okA
    rw [hpt, hpa]
    clear hpt hpa
    replace CT := Lib.hid CT
    replace CA := Lib.hid CA
    replace CU := Lib.hid CU
    have oT : (⟨pt, ⟨0, 0⟩⟩ : En.Rc).ok = true := En.Rc.ok_mk okT (by decide)
    have oA : (⟨pa, ⟨0, 0⟩⟩ : En.Rc).ok = true := En.Rc.ok_mk okA (by decide)
    go_enter Try.func28, Try.ntmps28
    go_wp2_with fail
    have HR : Hd (w.alloc (.cells #[.int .i64 0, .int .i64 0, .int .i64 0, .int .i64 0] 25)) w.heap.size 25 #[.int .i64 0, .int .i64 0, .int .i64 0, .int .i64 0] := by (with_reducible repeat' (first | assumption | (apply hdN; (try simp only [sA, sS, sD]); done) | apply hdA | apply hdD | apply hdS | (apply hdF; case hp => first | (simp; done) | (simp; omega)) | with_unfolding_all rfl))
    have bw : Below w.heap.size w (w.alloc (.cells #[.int .i64 0, .int .i64 0, .int .i64 0, .int .i64 0] 25)) := by go_grown
    refine (CT.out _).mono ?_
    rintro e w1 ⟨rfl, hb1⟩
    replace bw : Below w.heap.size w w1 := below_next bw hb1
    replace HR := HR.call hb1
    have lw1 : w.heap.size ≤ w1.heap.size := bw.size
    clear hb1
    have ltR1 := HR.lt
    have luR1 := Nat.lt_succ_of_lt ltR1
    have lvR1 := Nat.lt_succ_of_lt luR1
    go_wp2_with fail
    replace HR : Hd (w1.alloc (.cells #[.int .i64 pt.lo, .int .i64 pt.hi] 23)) w.heap.size 25 #[.int .i64 0, .int .i64 0, .int .i64 0, .int .i64 0] := by (with_reducible repeat' (first | assumption | (apply hdN; (try simp only [sA, sS, sD]); done) | apply hdA | apply hdD | apply hdS | (apply hdF; case hp => first | (simp; done) | (simp; omega)) | with_unfolding_all rfl))
    replace bw : Below w.heap.size w (w1.alloc (.cells #[.int .i64 pt.lo, .int .i64 pt.hi] 23)) := by go_grown
    have HX : Hd (w1.alloc (.cells #[.int .i64 pt.lo, .int .i64 pt.hi] 23)) w1.heap.size 23 #[.int .i64 pt.lo, .int .i64 pt.hi] := by (with_reducible repeat' (first | assumption | (apply hdN; (try simp only [sA, sS, sD]); done) | apply hdA | apply hdD | apply hdS | (apply hdF; case hp => first | (simp; done) | (simp; omega)) | with_unfolding_all rfl))
    refine (CA.out _).mono ?_
    rintro e w2 ⟨rfl, hb2⟩
    replace bw : Below w.heap.size w w2 := below_next bw hb2
    replace HR := HR.call hb2
    replace HX := HX.call hb2
    have lw2 : w.heap.size ≤ w2.heap.size := bw.size
    clear hb2
    obtain ⟨hcX, hfX⟩ := HX.facts
    clear luR1 lvR1
    have ltR2 := HR.lt
    have luR2 := Nat.lt_succ_of_lt ltR2
    have lvR2 := Nat.lt_succ_of_lt luR2
    have ltX2 := HX.lt
    have luX2 := Nat.lt_succ_of_lt ltX2
    have lvX2 := Nat.lt_succ_of_lt luX2
    go_wp2_with fail
    replace HR : Hd (w2.alloc (.cells #[.int .i64 pa.lo, .int .i64 pa.hi] 23)) w.heap.size 25 #[.int .i64 0, .int .i64 0, .int .i64 0, .int .i64 0] := by (with_reducible repeat' (first | assumption | (apply hdN; (try simp only [sA, sS, sD]); done) | apply hdA | apply hdD | apply hdS | (apply hdF; case hp => first | (simp; done) | (simp; omega)) | with_unfolding_all rfl))
    replace HX : Hd (w2.alloc (.cells #[.int .i64 pa.lo, .int .i64 pa.hi] 23)) w1.heap.size 23 #[.int .i64 pt.lo, .int .i64 pt.hi] := by (with_reducible repeat' (first | assumption | (apply hdN; (try simp only [sA, sS, sD]); done) | apply hdA | apply hdD | apply hdS | (apply hdF; case hp => first | (simp; done) | (simp; omega)) | with_unfolding_all rfl))
    replace bw : Below w.heap.size w (w2.alloc (.cells #[.int .i64 pa.lo, .int .i64 pa.hi] 23)) := by go_grown
    have HY : Hd (w2.alloc (.cells #[.int .i64 pa.lo, .int .i64 pa.hi] 23)) w2.heap.size 23 #[.int .i64 pa.lo, .int .i64 pa.hi] := by (with_reducible repeat' (first | assumption | (apply hdN; (try simp only [sA, sS, sD]); done) | apply hdA | apply hdD | apply hdS | (apply hdF; case hp => first | (simp; done) | (simp; omega)) | with_unfolding_all rfl))
    refine (CU.out _).mono ?_
    rintro e w3 ⟨rfl, hb3⟩
    replace bw : Below w.heap.size w w3 := below_next bw hb3
    replace HR := HR.call hb3
    replace HX := HX.call hb3
    replace HY := HY.call hb3
    have lw3 : w.heap.size ≤ w3.heap.size := bw.size
    clear hb3
    clear hcX hfX
    obtain ⟨hcR, hfR⟩ := HR.facts
    obtain ⟨hcX, hfX⟩ := HX.facts
    obtain ⟨hcY, hfY⟩ := HY.facts
    clear luR2 lvR2 luX2 lvX2
    have ltR3 := HR.lt
    have luR3 := Nat.lt_succ_of_lt ltR3
    have lvR3 := Nat.lt_succ_of_lt luR3
    have ltX3 := HX.lt
    have luX3 := Nat.lt_succ_of_lt ltX3
    have lvX3 := Nat.lt_succ_of_lt luX3
    have ltY3 := HY.lt
    have luY3 := Nat.lt_succ_of_lt ltY3
    have lvY3 := Nat.lt_succ_of_lt luY3
    go_wp2_with fail
    replace HR : Hd (((w3.alloc (.cells #[.int .i64 u.re.lo, .int .i64 u.re.hi, .int .i64 u.im.lo, .int .i64 u.im.hi] 25)).alloc (.cells #[.int .i64 0] 83)).alloc (.cells #[.int .i64 pt.lo, .int .i64 pt.hi, .int .i64 0, .int .i64 0] 25)) w.heap.size 25 #[.int .i64 0, .int .i64 0, .int .i64 0, .int .i64 0] := by (with_reducible repeat' (first | assumption | (apply hdN; (try simp only [sA, sS, sD]); done) | apply hdA | apply hdD | apply hdS | (apply hdF; case hp => first | (simp; done) | (simp; omega)) | with_unfolding_all rfl))
    replace HX : Hd (((w3.alloc (.cells #[.int .i64 u.re.lo, .int .i64 u.re.hi, .int .i64 u.im.lo, .int .i64 u.im.hi] 25)).alloc (.cells #[.int .i64 0] 83)).alloc (.cells #[.int .i64 pt.lo, .int .i64 pt.hi, .int .i64 0, .int .i64 0] 25)) w1.heap.size 23 #[.int .i64 pt.lo, .int .i64 pt.hi] := by (with_reducible repeat' (first | assumption | (apply hdN; (try simp only [sA, sS, sD]); done) | apply hdA | apply hdD | apply hdS | (apply hdF; case hp => first | (simp; done) | (simp; omega)) | with_unfolding_all rfl))
    replace HY : Hd (((w3.alloc (.cells #[.int .i64 u.re.lo, .int .i64 u.re.hi, .int .i64 u.im.lo, .int .i64 u.im.hi] 25)).alloc (.cells #[.int .i64 0] 83)).alloc (.cells #[.int .i64 pt.lo, .int .i64 pt.hi, .int .i64 0, .int .i64 0] 25)) w2.heap.size 23 #[.int .i64 pa.lo, .int .i64 pa.hi] := by (with_reducible repeat' (first | assumption | (apply hdN; (try simp only [sA, sS, sD]); done) | apply hdA | apply hdD | apply hdS | (apply hdF; case hp => first | (simp; done) | (simp; omega)) | with_unfolding_all rfl))
    replace bw : Below w.heap.size w (((w3.alloc (.cells #[.int .i64 u.re.lo, .int .i64 u.re.hi, .int .i64 u.im.lo, .int .i64 u.im.hi] 25)).alloc (.cells #[.int .i64 0] 83)).alloc (.cells #[.int .i64 pt.lo, .int .i64 pt.hi, .int .i64 0, .int .i64 0] 25)) := by go_grown
    have HU : Hd (((w3.alloc (.cells #[.int .i64 u.re.lo, .int .i64 u.re.hi, .int .i64 u.im.lo, .int .i64 u.im.hi] 25)).alloc (.cells #[.int .i64 0] 83)).alloc (.cells #[.int .i64 pt.lo, .int .i64 pt.hi, .int .i64 0, .int .i64 0] 25)) w3.heap.size 25 #[.int .i64 u.re.lo, .int .i64 u.re.hi, .int .i64 u.im.lo, .int .i64 u.im.hi] := by (with_reducible repeat' (first | assumption | (apply hdN; (try simp only [sA, sS, sD]); done) | apply hdA | apply hdD | apply hdS | (apply hdF; case hp => first | (simp; done) | (simp; omega)) | with_unfolding_all rfl))
    have HG : Hd (((w3.alloc (.cells #[.int .i64 u.re.lo, .int .i64 u.re.hi, .int .i64 u.im.lo, .int .i64 u.im.hi] 25)).alloc (.cells #[.int .i64 0] 83)).alloc (.cells #[.int .i64 pt.lo, .int .i64 pt.hi, .int .i64 0, .int .i64 0] 25)) (w3.heap.size + 1) 83 #[.int .i64 0] := by (with_reducible repeat' (first | assumption | (apply hdN; (try simp only [sA, sS, sD]); done) | apply hdA | apply hdD | apply hdS | (apply hdF; case hp => first | (simp; done) | (simp; omega)) | with_unfolding_all rfl))
    have HT : Hd (((w3.alloc (.cells #[.int .i64 u.re.lo, .int .i64 u.re.hi, .int .i64 u.im.lo, .int .i64 u.im.hi] 25)).alloc (.cells #[.int .i64 0] 83)).alloc (.cells #[.int .i64 pt.lo, .int .i64 pt.hi, .int .i64 0, .int .i64 0] 25)) (w3.heap.size + 1 + 1) 25 #[.int .i64 pt.lo, .int .i64 pt.hi, .int .i64 0, .int .i64 0] := by (with_reducible repeat' (first | assumption | (apply hdN; (try simp only [sA, sS, sD]); done) | apply hdA | apply hdD | apply hdS | (apply hdF; case hp => first | (simp; done) | (simp; omega)) | with_unfolding_all rfl))
    refine (rmul_any ⟨pa, ⟨0, 0⟩⟩ u oA okU 0 (w3.heap.size + 1) _ HG).mono ?_
    rintro e w4 ⟨z4, e4, rfl, ok4, qq4, HG4, hb4⟩
    replace qq4 := Lib.hid qq4
    replace bw := But.far bw hb4 (by omega) (by (try simp only [World.size_alloc, World.size_setCell, World.size_drew]); omega)
    replace HR := HR.but hb4 (by omega)
    replace HX := HX.but hb4 (by omega)
    replace HY := HY.but hb4 (by omega)
    replace HU := HU.but hb4 (by omega)
    replace HT := HT.but hb4 (by omega)
    replace HG := HG4
    clear HG4
    have lw4 : w.heap.size ≤ w4.heap.size := bw.size
    clear hb4
    clear HX HY HU
    clear hcR hfR hcX hfX hcY hfY
    obtain ⟨hcR, hfR⟩ := HR.facts
    obtain ⟨hcG, hfG⟩ := HG.facts
    obtain ⟨hcT, hfT⟩ := HT.facts
    clear luR3 lvR3 luX3 lvX3 luY3 lvY3
    have ltR4 := HR.lt
    have luR4 := Nat.lt_succ_of_lt ltR4
    have lvR4 := Nat.lt_succ_of_lt luR4
    have ltG4 := HG.lt
    have luG4 := Nat.lt_succ_of_lt ltG4
    have lvG4 := Nat.lt_succ_of_lt luG4
    have ltT4 := HT.lt
    have luT4 := Nat.lt_succ_of_lt ltT4
    have lvT4 := Nat.lt_succ_of_lt luT4
    go_wp2_with fail
    replace HR : Hd (w4.alloc (.cells #[.int .i64 z4.re.lo, .int .i64 z4.re.hi, .int .i64 z4.im.lo, .int .i64 z4.im.hi] 25)) w.heap.size 25 #[.int .i64 0, .int .i64 0, .int .i64 0, .int .i64 0] := by (with_reducible repeat' (first | assumption | (apply hdN; (try simp only [sA, sS, sD]); done) | apply hdA | apply hdD | apply hdS | (apply hdF; case hp => first | (simp; done) | (simp; omega)) | with_unfolding_all rfl))
    replace HG : Hd (w4.alloc (.cells #[.int .i64 z4.re.lo, .int .i64 z4.re.hi, .int .i64 z4.im.lo, .int .i64 z4.im.hi] 25)) (w3.heap.size + 1) 83 #[.int .i64 e4] := by (with_reducible repeat' (first | assumption | (apply hdN; (try simp only [sA, sS, sD]); done) | apply hdA | apply hdD | apply hdS | (apply hdF; case hp => first | (simp; done) | (simp; omega)) | with_unfolding_all rfl))
    replace HT : Hd (w4.alloc (.cells #[.int .i64 z4.re.lo, .int .i64 z4.re.hi, .int .i64 z4.im.lo, .int .i64 z4.im.hi] 25)) (w3.heap.size + 1 + 1) 25 #[.int .i64 pt.lo, .int .i64 pt.hi, .int .i64 0, .int .i64 0] := by (with_reducible repeat' (first | assumption | (apply hdN; (try simp only [sA, sS, sD]); done) | apply hdA | apply hdD | apply hdS | (apply hdF; case hp => first | (simp; done) | (simp; omega)) | with_unfolding_all rfl))
    replace bw : Below w.heap.size w (w4.alloc (.cells #[.int .i64 z4.re.lo, .int .i64 z4.re.hi, .int .i64 z4.im.lo, .int .i64 z4.im.hi] 25)) := by go_grown
    have HV : Hd (w4.alloc (.cells #[.int .i64 z4.re.lo, .int .i64 z4.re.hi, .int .i64 z4.im.lo, .int .i64 z4.im.hi] 25)) w4.heap.size 25 #[.int .i64 z4.re.lo, .int .i64 z4.re.hi, .int .i64 z4.im.lo, .int .i64 z4.im.hi] := by (with_reducible repeat' (first | assumption | (apply hdN; (try simp only [sA, sS, sD]); done) | apply hdA | apply hdD | apply hdS | (apply hdF; case hp => first | (simp; done) | (simp; omega)) | with_unfolding_all rfl))
    refine (rsub_any ⟨pt, ⟨0, 0⟩⟩ z4 oT ok4 e4 (w3.heap.size + 1) _ HG).mono ?_
    rintro e w5 ⟨z5, e5, rfl, ok5, qq5, HG5, hb5⟩
    replace qq5 := Lib.hid qq5
    replace bw := But.far bw hb5 (by omega) (by (try simp only [World.size_alloc, World.size_setCell, World.size_drew]); omega)
    replace HR := HR.but hb5 (by omega)
    replace HT := HT.but hb5 (by omega)
    replace HV := HV.but hb5 (by omega)
    replace HG := HG5
    clear HG5
    have lw5 : w.heap.size ≤ w5.heap.size := bw.size
    clear hb5
    clear hcR hfR hcG hfG hcT hfT
    obtain ⟨hcR, hfR⟩ := HR.facts
    obtain ⟨hcG, hfG⟩ := HG.facts
    obtain ⟨hcT, hfT⟩ := HT.facts
    obtain ⟨hcV, hfV⟩ := HV.facts
    clear luR4 lvR4 luG4 lvG4 luT4 lvT4
    have ltR5 := HR.lt
    have luR5 := Nat.lt_succ_of_lt ltR5
    have lvR5 := Nat.lt_succ_of_lt luR5
    have ltG5 := HG.lt
    have luG5 := Nat.lt_succ_of_lt ltG5
    have lvG5 := Nat.lt_succ_of_lt luG5
    have ltT5 := HT.lt
    have luT5 := Nat.lt_succ_of_lt ltT5
    have lvT5 := Nat.lt_succ_of_lt luT5
    have ltV5 := HV.lt
    have luV5 := Nat.lt_succ_of_lt ltV5
    have lvV5 := Nat.lt_succ_of_lt luV5
    go_wp2_with fail
    replace HR : Hd (w5.alloc (.cells #[.int .i64 z5.re.lo, .int .i64 z5.re.hi, .int .i64 z5.im.lo, .int .i64 z5.im.hi] 25)) w.heap.size 25 #[.int .i64 0, .int .i64 0, .int .i64 0, .int .i64 0] := by (with_reducible repeat' (first | assumption | (apply hdN; (try simp only [sA, sS, sD]); done) | apply hdA | apply hdD | apply hdS | (apply hdF; case hp => first | (simp; done) | (simp; omega)) | with_unfolding_all rfl))
    replace HG : Hd (w5.alloc (.cells #[.int .i64 z5.re.lo, .int .i64 z5.re.hi, .int .i64 z5.im.lo, .int .i64 z5.im.hi] 25)) (w3.heap.size + 1) 83 #[.int .i64 e5] := by (with_reducible repeat' (first | assumption | (apply hdN; (try simp only [sA, sS, sD]); done) | apply hdA | apply hdD | apply hdS | (apply hdF; case hp => first | (simp; done) | (simp; omega)) | with_unfolding_all rfl))
    replace HT : Hd (w5.alloc (.cells #[.int .i64 z5.re.lo, .int .i64 z5.re.hi, .int .i64 z5.im.lo, .int .i64 z5.im.hi] 25)) (w3.heap.size + 1 + 1) 25 #[.int .i64 pt.lo, .int .i64 pt.hi, .int .i64 0, .int .i64 0] := by (with_reducible repeat' (first | assumption | (apply hdN; (try simp only [sA, sS, sD]); done) | apply hdA | apply hdD | apply hdS | (apply hdF; case hp => first | (simp; done) | (simp; omega)) | with_unfolding_all rfl))
    replace HV : Hd (w5.alloc (.cells #[.int .i64 z5.re.lo, .int .i64 z5.re.hi, .int .i64 z5.im.lo, .int .i64 z5.im.hi] 25)) w4.heap.size 25 #[.int .i64 z4.re.lo, .int .i64 z4.re.hi, .int .i64 z4.im.lo, .int .i64 z4.im.hi] := by (with_reducible repeat' (first | assumption | (apply hdN; (try simp only [sA, sS, sD]); done) | apply hdA | apply hdD | apply hdS | (apply hdF; case hp => first | (simp; done) | (simp; omega)) | with_unfolding_all rfl))
    replace bw : Below w.heap.size w (w5.alloc (.cells #[.int .i64 z5.re.lo, .int .i64 z5.re.hi, .int .i64 z5.im.lo, .int .i64 z5.im.hi] 25)) := by go_grown
    have HP : Hd (w5.alloc (.cells #[.int .i64 z5.re.lo, .int .i64 z5.re.hi, .int .i64 z5.im.lo, .int .i64 z5.im.hi] 25)) w5.heap.size 25 #[.int .i64 z5.re.lo, .int .i64 z5.re.hi, .int .i64 z5.im.lo, .int .i64 z5.im.hi] := by (with_reducible repeat' (first | assumption | (apply hdN; (try simp only [sA, sS, sD]); done) | apply hdA | apply hdD | apply hdS | (apply hdF; case hp => first | (simp; done) | (simp; omega)) | with_unfolding_all rfl))
    refine (rmul_any ⟨pt, ⟨0, 0⟩⟩ z4 oT ok4 e5 (w3.heap.size + 1) _ HG).mono ?_
    rintro e w6 ⟨z6, e6, rfl, ok6, qq6, HG6, hb6⟩
    replace qq6 := Lib.hid qq6
    replace bw := But.far bw hb6 (by omega) (by (try simp only [World.size_alloc, World.size_setCell, World.size_drew]); omega)
    replace HR := HR.but hb6 (by omega)
    replace HT := HT.but hb6 (by omega)
    replace HV := HV.but hb6 (by omega)
    replace HP := HP.but hb6 (by omega)
    replace HG := HG6
    clear HG6
    have lw6 : w.heap.size ≤ w6.heap.size := bw.size
    clear hb6
    clear hcR hfR hcG hfG hcT hfT hcV hfV
    obtain ⟨hcR, hfR⟩ := HR.facts
    obtain ⟨hcG, hfG⟩ := HG.facts
    obtain ⟨hcT, hfT⟩ := HT.facts
    obtain ⟨hcV, hfV⟩ := HV.facts
    obtain ⟨hcP, hfP⟩ := HP.facts
    clear luR5 lvR5 luG5 lvG5 luT5 lvT5 luV5 lvV5
    have ltR6 := HR.lt
    have luR6 := Nat.lt_succ_of_lt ltR6
    have lvR6 := Nat.lt_succ_of_lt luR6
    have ltG6 := HG.lt
    have luG6 := Nat.lt_succ_of_lt ltG6
    have lvG6 := Nat.lt_succ_of_lt luG6
    have ltT6 := HT.lt
    have luT6 := Nat.lt_succ_of_lt ltT6
    have lvT6 := Nat.lt_succ_of_lt luT6
    have ltV6 := HV.lt
    have luV6 := Nat.lt_succ_of_lt ltV6
    have lvV6 := Nat.lt_succ_of_lt luV6
    have ltP6 := HP.lt
    have luP6 := Nat.lt_succ_of_lt ltP6
    have lvP6 := Nat.lt_succ_of_lt luP6
    go_upto_region 11 with fail
    replace HR : Hd (w6.alloc (.cells #[.int .i64 z6.re.lo, .int .i64 z6.re.hi, .int .i64 z6.im.lo, .int .i64 z6.im.hi] 25)) w.heap.size 25 #[.int .i64 0, .int .i64 0, .int .i64 0, .int .i64 0] := by (with_reducible repeat' (first | assumption | (apply hdN; (try simp only [sA, sS, sD]); done) | apply hdA | apply hdD | apply hdS | (apply hdF; case hp => first | (simp; done) | (simp; omega)) | with_unfolding_all rfl))
    replace HG : Hd (w6.alloc (.cells #[.int .i64 z6.re.lo, .int .i64 z6.re.hi, .int .i64 z6.im.lo, .int .i64 z6.im.hi] 25)) (w3.heap.size + 1) 83 #[.int .i64 e6] := by (with_reducible repeat' (first | assumption | (apply hdN; (try simp only [sA, sS, sD]); done) | apply hdA | apply hdD | apply hdS | (apply hdF; case hp => first | (simp; done) | (simp; omega)) | with_unfolding_all rfl))
    replace HT : Hd (w6.alloc (.cells #[.int .i64 z6.re.lo, .int .i64 z6.re.hi, .int .i64 z6.im.lo, .int .i64 z6.im.hi] 25)) (w3.heap.size + 1 + 1) 25 #[.int .i64 pt.lo, .int .i64 pt.hi, .int .i64 0, .int .i64 0] := by (with_reducible repeat' (first | assumption | (apply hdN; (try simp only [sA, sS, sD]); done) | apply hdA | apply hdD | apply hdS | (apply hdF; case hp => first | (simp; done) | (simp; omega)) | with_unfolding_all rfl))
    replace HV : Hd (w6.alloc (.cells #[.int .i64 z6.re.lo, .int .i64 z6.re.hi, .int .i64 z6.im.lo, .int .i64 z6.im.hi] 25)) w4.heap.size 25 #[.int .i64 z4.re.lo, .int .i64 z4.re.hi, .int .i64 z4.im.lo, .int .i64 z4.im.hi] := by (with_reducible repeat' (first | assumption | (apply hdN; (try simp only [sA, sS, sD]); done) | apply hdA | apply hdD | apply hdS | (apply hdF; case hp => first | (simp; done) | (simp; omega)) | with_unfolding_all rfl))
    replace HP : Hd (w6.alloc (.cells #[.int .i64 z6.re.lo, .int .i64 z6.re.hi, .int .i64 z6.im.lo, .int .i64 z6.im.hi] 25)) w5.heap.size 25 #[.int .i64 z5.re.lo, .int .i64 z5.re.hi, .int .i64 z5.im.lo, .int .i64 z5.im.hi] := by (with_reducible repeat' (first | assumption | (apply hdN; (try simp only [sA, sS, sD]); done) | apply hdA | apply hdD | apply hdS | (apply hdF; case hp => first | (simp; done) | (simp; omega)) | with_unfolding_all rfl))
    replace bw : Below w.heap.size w (w6.alloc (.cells #[.int .i64 z6.re.lo, .int .i64 z6.re.hi, .int .i64 z6.im.lo, .int .i64 z6.im.hi] 25)) := by go_grown
    have HN : Hd (w6.alloc (.cells #[.int .i64 z6.re.lo, .int .i64 z6.re.hi, .int .i64 z6.im.lo, .int .i64 z6.im.hi] 25)) w6.heap.size 25 #[.int .i64 z6.re.lo, .int .i64 z6.re.hi, .int .i64 z6.im.lo, .int .i64 z6.im.hi] := by (with_reducible repeat' (first | assumption | (apply hdN; (try simp only [sA, sS, sD]); done) | apply hdA | apply hdD | apply hdS | (apply hdF; case hp => first | (simp; done) | (simp; omega)) | with_unfolding_all rfl))
    clear HT HV
    clear hcR hfR hcG hfG hcT hfT hcV hfV hcP hfP
    generalize hW : w6.alloc (.cells #[.int .i64 z6.re.lo, .int .i64 z6.re.hi, .int .i64 z6.im.lo, .int .i64 z6.im.hi] 25) = w7 at HR HG HP HN bw ⊢
    clear hW
    have lw7 : w.heap.size ≤ w7.heap.size := bw.size
    replace HR : Hd (w7.drew) w.heap.size 25 #[.int .i64 0, .int .i64 0, .int .i64 0, .int .i64 0] := by (with_reducible repeat' (first | assumption | (apply hdN; (try simp only [sA, sS, sD]); done) | apply hdA | apply hdD | apply hdS | (apply hdF; case hp => first | (simp; done) | (simp; omega)) | with_unfolding_all rfl))
    replace HG : Hd (w7.drew) (w3.heap.size + 1) 83 #[.int .i64 e6] := by (with_reducible repeat' (first | assumption | (apply hdN; (try simp only [sA, sS, sD]); done) | apply hdA | apply hdD | apply hdS | (apply hdF; case hp => first | (simp; done) | (simp; omega)) | with_unfolding_all rfl))
    replace HP : Hd (w7.drew) w5.heap.size 25 #[.int .i64 z5.re.lo, .int .i64 z5.re.hi, .int .i64 z5.im.lo, .int .i64 z5.im.hi] := by (with_reducible repeat' (first | assumption | (apply hdN; (try simp only [sA, sS, sD]); done) | apply hdA | apply hdD | apply hdS | (apply hdF; case hp => first | (simp; done) | (simp; omega)) | with_unfolding_all rfl))
    replace HN : Hd (w7.drew) w6.heap.size 25 #[.int .i64 z6.re.lo, .int .i64 z6.re.hi, .int .i64 z6.im.lo, .int .i64 z6.im.hi] := by (with_reducible repeat' (first | assumption | (apply hdN; (try simp only [sA, sS, sD]); done) | apply hdA | apply hdD | apply hdS | (apply hdF; case hp => first | (simp; done) | (simp; omega)) | with_unfolding_all rfl))
    replace bw : Below w.heap.size w (w7.drew) := by go_grown
    (refine wp_region_fl (fun w' => Hd w' w6.heap.size 25 #[.int .i64 z6.re.lo, .int .i64 z6.re.hi, .int .i64 z6.im.lo, .int .i64 z6.im.hi] ∧ Below w.heap.size w w') 4 [(0, 0), (2, 0), (1, 2), (3, 2), (4, 1), (5, 1)] (by kernel_rfl) (by kernel_rfl) (fun c d v a w h => by cases d <;> exact h) ⟨HN, bw⟩ ?_; simp only [List.map_cons, List.map_nil, List.getD_cons_zero, List.getD_cons_succ, flMark, Nat.reduceEqDiff, ↓reduceIte])
    generalize hW : w7.drew = w8 at HR HG HP HN bw ⊢
    clear hW
    have lw8 : w.heap.size ≤ w8.heap.size := bw.size
    repeat ((first | with_reducible apply fl_move | with_reducible apply fl_assign | ((with_reducible refine fl_soft (v := ?_) (fun w' hw' => ?_) ?_); rotate_left 1; (focus (obtain ⟨hN, hBw⟩ := hw'; obtain ⟨hcN, hfN⟩ := hN.facts; go_simp; (try with_reducible rfl); done)))); simp only [Act.put, Act.eval, List.setIfInBounds_toArray, List.set_cons_zero, List.set_cons_succ, Array.getD_eq_getD_getElem?, List.getElem?_toArray, List.getElem?_cons_zero, List.getElem?_cons_succ, Option.getD_some])
    refine fl_both ?_ ?_
    · go_wp2_with fail
      refine (whole1 _).mono ?_
      rintro e w9 ⟨rfl, hb9⟩
      replace bw : Below w.heap.size w w9 := below_next bw hb9
      replace HR := HR.call hb9
      replace HG := HG.call hb9
      replace HP := HP.call hb9
      replace HN := HN.call hb9
      have lw9 : w.heap.size ≤ w9.heap.size := bw.size
      clear hb9
      go_wp2_with fail
      (try refine ⟨⟨HN, bw⟩, ?_⟩)
      repeat ((first | with_reducible apply fl_move | with_reducible apply fl_assign | ((with_reducible refine fl_soft (v := ?_) (fun w' hw' => ?_) ?_); rotate_left 1; (focus (obtain ⟨hN, hBw⟩ := hw'; obtain ⟨hcN, hfN⟩ := hN.facts; go_simp; (try with_reducible rfl); done)))); simp only [Act.put, Act.eval, List.setIfInBounds_toArray, List.set_cons_zero, List.set_cons_succ, Array.getD_eq_getD_getElem?, List.getElem?_toArray, List.getElem?_cons_zero, List.getElem?_cons_succ, Option.getD_some])
      refine fl_both ?_ ?_
      · go_wp2_with fail
        refine (rsub_any ⟨⟨1073741824, 1073741824⟩, ⟨0, 0⟩⟩ z6 (by decide) ok6 e6 (w3.heap.size + 1) _ HG).mono ?_
        rintro e w10 ⟨z10, e10, rfl, ok10, qq10, HG10, hb10⟩
        replace qq10 := Lib.hid qq10
        replace bw := But.far bw hb10 (by omega) (by (try simp only [World.size_alloc, World.size_setCell, World.size_drew]); omega)
        replace HR := HR.but hb10 (by omega)
        replace HP := HP.but hb10 (by omega)
        replace HN := HN.but hb10 (by omega)
        replace HG := HG10
        clear HG10
        have lw10 : w.heap.size ≤ w10.heap.size := bw.size
        clear hb10
        go_wp2_with fail
        (try refine ⟨⟨HN, bw⟩, ?_⟩)
        repeat ((first | with_reducible apply fl_move | with_reducible apply fl_assign | ((with_reducible refine fl_soft (v := ?_) (fun w' hw' => ?_) ?_); rotate_left 1; (focus (obtain ⟨hN, hBw⟩ := hw'; obtain ⟨hcN, hfN⟩ := hN.facts; go_simp; (try with_reducible rfl); done)))); simp only [Act.put, Act.eval, List.setIfInBounds_toArray, List.set_cons_zero, List.set_cons_succ, Array.getD_eq_getD_getElem?, List.getElem?_toArray, List.getElem?_cons_zero, List.getElem?_cons_succ, Option.getD_some])
        refine fl_must ?_
        go_wp2_with fail
        have PR := HR
        have PG := HG
        have PP := HP
        have PN := HN
        have Pbw := bw
        have ltRD : w.heap.size < w10.heap.size := by (have := HR.lt; (try simp only [World.size_alloc, World.size_setCell, World.size_drew] at this); omega)
        have ltGD : (w3.heap.size + 1) < w10.heap.size := by (have := HG.lt; (try simp only [World.size_alloc, World.size_setCell, World.size_drew] at this); omega)
        have ltPD : w5.heap.size < w10.heap.size := by (have := HP.lt; (try simp only [World.size_alloc, World.size_setCell, World.size_drew] at this); omega)
        have ltND : w6.heap.size < w10.heap.size := by (have := HN.lt; (try simp only [World.size_alloc, World.size_setCell, World.size_drew] at this); omega)
        replace HR : Hd (w10.alloc (.cells #[.int .i64 0, .int .i64 0, .int .i64 0, .int .i64 0] 25)) w.heap.size 25 #[.int .i64 0, .int .i64 0, .int .i64 0, .int .i64 0] := by (with_reducible repeat' (first | assumption | (apply hdN; (try simp only [sA, sS, sD]); done) | apply hdA | apply hdD | apply hdS | (apply hdF; case hp => first | (simp; done) | (simp; omega)) | with_unfolding_all rfl))
        replace HG : Hd (w10.alloc (.cells #[.int .i64 0, .int .i64 0, .int .i64 0, .int .i64 0] 25)) (w3.heap.size + 1) 83 #[.int .i64 e10] := by (with_reducible repeat' (first | assumption | (apply hdN; (try simp only [sA, sS, sD]); done) | apply hdA | apply hdD | apply hdS | (apply hdF; case hp => first | (simp; done) | (simp; omega)) | with_unfolding_all rfl))
        replace HP : Hd (w10.alloc (.cells #[.int .i64 0, .int .i64 0, .int .i64 0, .int .i64 0] 25)) w5.heap.size 25 #[.int .i64 z5.re.lo, .int .i64 z5.re.hi, .int .i64 z5.im.lo, .int .i64 z5.im.hi] := by (with_reducible repeat' (first | assumption | (apply hdN; (try simp only [sA, sS, sD]); done) | apply hdA | apply hdD | apply hdS | (apply hdF; case hp => first | (simp; done) | (simp; omega)) | with_unfolding_all rfl))
        replace HN : Hd (w10.alloc (.cells #[.int .i64 0, .int .i64 0, .int .i64 0, .int .i64 0] 25)) w6.heap.size 25 #[.int .i64 z6.re.lo, .int .i64 z6.re.hi, .int .i64 z6.im.lo, .int .i64 z6.im.hi] := by (with_reducible repeat' (first | assumption | (apply hdN; (try simp only [sA, sS, sD]); done) | apply hdA | apply hdD | apply hdS | (apply hdF; case hp => first | (simp; done) | (simp; omega)) | with_unfolding_all rfl))
        replace bw : Below w.heap.size w (w10.alloc (.cells #[.int .i64 0, .int .i64 0, .int .i64 0, .int .i64 0] 25)) := by go_grown
        have HD : Hd (w10.alloc (.cells #[.int .i64 0, .int .i64 0, .int .i64 0, .int .i64 0] 25)) w10.heap.size 25 #[.int .i64 0, .int .i64 0, .int .i64 0, .int .i64 0] := by (with_reducible repeat' (first | assumption | (apply hdN; (try simp only [sA, sS, sD]); done) | apply hdA | apply hdD | apply hdS | (apply hdF; case hp => first | (simp; done) | (simp; omega)) | with_unfolding_all rfl))
        (try refine ⟨⟨HN, bw⟩, ?_⟩)
        repeat ((first | with_reducible apply fl_move | with_reducible apply fl_assign | ((with_reducible refine fl_soft (v := ?_) (fun w' hw' => ?_) ?_); rotate_left 1; (focus (obtain ⟨hN, hBw⟩ := hw'; obtain ⟨hcN, hfN⟩ := hN.facts; go_simp; (try with_reducible rfl); done)))); simp only [Act.put, Act.eval, List.setIfInBounds_toArray, List.set_cons_zero, List.set_cons_succ, Array.getD_eq_getD_getElem?, List.getElem?_toArray, List.getElem?_cons_zero, List.getElem?_cons_succ, Option.getD_some])
        repeat ((first | with_reducible apply fl_move | with_reducible apply fl_assign | ((with_reducible refine fl_soft (v := ?_) (fun w' hw' => ?_) ?_); rotate_left 1; (focus (obtain ⟨hN, hBw⟩ := hw'; obtain ⟨hcN, hfN⟩ := hN.facts; go_simp; (try with_reducible rfl); done)))); simp only [Act.put, Act.eval, List.setIfInBounds_toArray, List.set_cons_zero, List.set_cons_succ, Array.getD_eq_getD_getElem?, List.getElem?_toArray, List.getElem?_cons_zero, List.getElem?_cons_succ, Option.getD_some])
        refine fl_hard ?_
        obtain ⟨hcD, hfD⟩ := HD.facts
        go_wp2_with fail
        replace HR : Hd (w10.alloc (.cells #[.int .i64 z10.re.lo, .int .i64 z10.re.hi, .int .i64 z10.im.lo, .int .i64 z10.im.hi] 25)) w.heap.size 25 #[.int .i64 0, .int .i64 0, .int .i64 0, .int .i64 0] := by (with_reducible repeat' (first | assumption | (apply hdN; (try simp only [sA, sS, sD]); done) | apply hdA | apply hdD | apply hdS | (apply hdF; case hp => first | (simp; done) | (simp; omega)) | with_unfolding_all rfl))
        replace HG : Hd (w10.alloc (.cells #[.int .i64 z10.re.lo, .int .i64 z10.re.hi, .int .i64 z10.im.lo, .int .i64 z10.im.hi] 25)) (w3.heap.size + 1) 83 #[.int .i64 e10] := by (with_reducible repeat' (first | assumption | (apply hdN; (try simp only [sA, sS, sD]); done) | apply hdA | apply hdD | apply hdS | (apply hdF; case hp => first | (simp; done) | (simp; omega)) | with_unfolding_all rfl))
        replace HP : Hd (w10.alloc (.cells #[.int .i64 z10.re.lo, .int .i64 z10.re.hi, .int .i64 z10.im.lo, .int .i64 z10.im.hi] 25)) w5.heap.size 25 #[.int .i64 z5.re.lo, .int .i64 z5.re.hi, .int .i64 z5.im.lo, .int .i64 z5.im.hi] := by (with_reducible repeat' (first | assumption | (apply hdN; (try simp only [sA, sS, sD]); done) | apply hdA | apply hdD | apply hdS | (apply hdF; case hp => first | (simp; done) | (simp; omega)) | with_unfolding_all rfl))
        replace HN : Hd (w10.alloc (.cells #[.int .i64 z10.re.lo, .int .i64 z10.re.hi, .int .i64 z10.im.lo, .int .i64 z10.im.hi] 25)) w6.heap.size 25 #[.int .i64 z6.re.lo, .int .i64 z6.re.hi, .int .i64 z6.im.lo, .int .i64 z6.im.hi] := by (with_reducible repeat' (first | assumption | (apply hdN; (try simp only [sA, sS, sD]); done) | apply hdA | apply hdD | apply hdS | (apply hdF; case hp => first | (simp; done) | (simp; omega)) | with_unfolding_all rfl))
        replace HD : Hd (w10.alloc (.cells #[.int .i64 z10.re.lo, .int .i64 z10.re.hi, .int .i64 z10.im.lo, .int .i64 z10.im.hi] 25)) w10.heap.size 25 #[.int .i64 z10.re.lo, .int .i64 z10.re.hi, .int .i64 z10.im.lo, .int .i64 z10.im.hi] := by (with_reducible repeat' (first | assumption | (apply hdN; (try simp only [sA, sS, sD]); done) | apply hdA | apply hdD | apply hdS | (apply hdF; case hp => first | (simp; done) | (simp; omega)) | with_unfolding_all rfl))
        replace bw : Below w.heap.size w (w10.alloc (.cells #[.int .i64 z10.re.lo, .int .i64 z10.re.hi, .int .i64 z10.im.lo, .int .i64 z10.im.hi] 25)) := by go_grown
        (try refine ⟨⟨HN, bw⟩, ?_⟩)
        repeat ((first | with_reducible apply fl_move | with_reducible apply fl_assign | ((with_reducible refine fl_soft (v := ?_) (fun w' hw' => ?_) ?_); rotate_left 1; (focus (obtain ⟨hN, hBw⟩ := hw'; obtain ⟨hcN, hfN⟩ := hN.facts; go_simp; (try with_reducible rfl); done)))); simp only [Act.put, Act.eval, List.setIfInBounds_toArray, List.set_cons_zero, List.set_cons_succ, Array.getD_eq_getD_getElem?, List.getElem?_toArray, List.getElem?_cons_zero, List.getElem?_cons_succ, Option.getD_some])
        refine fl_nil ?_
        generalize hW : w10.alloc (.cells #[.int .i64 z10.re.lo, .int .i64 z10.re.hi, .int .i64 z10.im.lo, .int .i64 z10.im.hi] 25) = w11 at HR HG HP HN HD bw ⊢
        clear hW
        have lw11 : w.heap.size ≤ w11.heap.size := bw.size
        obtain ⟨hcR, hfR⟩ := HR.facts
        obtain ⟨hcG, hfG⟩ := HG.facts
        obtain ⟨hcP, hfP⟩ := HP.facts
        obtain ⟨hcN, hfN⟩ := HN.facts
        obtain ⟨hcD, hfD⟩ := HD.facts
        clear luR6 lvR6 luG6 lvG6 luT6 lvT6 luV6 lvV6 luP6 lvP6
        have ltR7 := HR.lt
        have luR7 := Nat.lt_succ_of_lt ltR7
        have lvR7 := Nat.lt_succ_of_lt luR7
        have ltG7 := HG.lt
        have luG7 := Nat.lt_succ_of_lt ltG7
        have lvG7 := Nat.lt_succ_of_lt luG7
        have ltP7 := HP.lt
        have luP7 := Nat.lt_succ_of_lt ltP7
        have lvP7 := Nat.lt_succ_of_lt luP7
        have ltN7 := HN.lt
        have luN7 := Nat.lt_succ_of_lt ltN7
        have lvN7 := Nat.lt_succ_of_lt luN7
        have ltD7 := HD.lt
        have luD7 := Nat.lt_succ_of_lt ltD7
        have lvD7 := Nat.lt_succ_of_lt luD7
        go_wp2_with fail
        refine (rdiv_any z5 z10 ok5 ok10 e10 (w3.heap.size + 1) _ HG).mono ?_
        rintro e w12 ⟨z12, e12, rfl, ok12, qq12, HG12, hb12⟩
        replace qq12 := Lib.hid qq12
        replace bw := But.far bw hb12 (by omega) (by (try simp only [World.size_alloc, World.size_setCell, World.size_drew]); omega)
        replace HR := HR.but hb12 (by omega)
        replace HP := HP.but hb12 (by omega)
        replace HN := HN.but hb12 (by omega)
        replace HD := HD.but hb12 (by omega)
        replace HG := HG12
        clear HG12
        have lw12 : w.heap.size ≤ w12.heap.size := bw.size
        clear hb12
        go_wp2_with fail
        refine (rdone_any z12 e12 _ _ HG).mono ?_
        rintro e w13 ⟨rfl, hb13⟩
        replace bw : Below w.heap.size w w13 := below_next bw hb13
        replace HR := HR.call hb13
        replace HG := HG.call hb13
        replace HP := HP.call hb13
        replace HN := HN.call hb13
        replace HD := HD.call hb13
        have lw13 : w.heap.size ≤ w13.heap.size := bw.size
        clear hb13
        obtain ⟨hcR, hfR⟩ := HR.facts
        have hs := Lib.hid (qq4.out.bind (f := fun v => En.minus ⟨pt, ⟨0, 0⟩⟩ v >>= fun up => En.times ⟨pt, ⟨0, 0⟩⟩ v >>= fun cv => En.minus ⟨⟨1073741824, 1073741824⟩, ⟨0, 0⟩⟩ cv >>= fun dn => En.quotient up dn) (qq5.out.bind (qq6.out.bind (qq10.out.bind qq12.out))))
        rcases hs.out.zero with ⟨hr, he⟩ | ⟨hr, hne⟩
        · rw [if_pos he]
          clear he
          have HR2 := Lib.hid hr
          clear hr
          go_wp2
          refine bodyPost_ret (run_results2 rfl rfl (by (show Hd _ (w.heap.size) 25 #[.int .i64 z12.re.lo, .int .i64 z12.re.hi, .int .i64 z12.im.lo, .int .i64 z12.im.hi]); (with_reducible repeat' (first | assumption | (apply hdN; (try simp only [sA, sS, sD]); done) | apply hdA | apply hdD | apply hdS | (apply hdF; case hp => first | (simp; done) | (simp; omega)) | with_unfolding_all rfl))) Try.underlying25 rfl (by kernel_rfl)) rfl ⟨by rw [show En.ringCore ⟨pt, ⟨0, 0⟩⟩ ⟨pa, ⟨0, 0⟩⟩ u = _ from HR2.out]; rfl, by go_grown⟩
        · rw [if_neg hne]
          have HR2 := Lib.hid hr
          clear hr hne
          go_wp2
          refine bodyPost_ret (run_results2 rfl rfl (by (show Hd _ (w.heap.size) 25 #[.int .i64 0, .int .i64 0, .int .i64 0, .int .i64 0]); (with_reducible repeat' (first | assumption | (apply hdN; (try simp only [sA, sS, sD]); done) | apply hdA | apply hdD | apply hdS | (apply hdF; case hp => first | (simp; done) | (simp; omega)) | with_unfolding_all rfl))) Try.underlying25 rfl (by kernel_rfl)) rfl ⟨by rw [show En.ringCore ⟨pt, ⟨0, 0⟩⟩ ⟨pa, ⟨0, 0⟩⟩ u = _ from HR2.out]; rfl, by go_grown⟩
      · go_wp2_with fail
        have PR := HR
        have PG := HG
        have PP := HP
        have PN := HN
        have Pbw := bw
        have ltRD : w.heap.size < w9.heap.size := by (have := HR.lt; (try simp only [World.size_alloc, World.size_setCell, World.size_drew] at this); omega)
        have ltGD : (w3.heap.size + 1) < w9.heap.size := by (have := HG.lt; (try simp only [World.size_alloc, World.size_setCell, World.size_drew] at this); omega)
        have ltPD : w5.heap.size < w9.heap.size := by (have := HP.lt; (try simp only [World.size_alloc, World.size_setCell, World.size_drew] at this); omega)
        have ltND : w6.heap.size < w9.heap.size := by (have := HN.lt; (try simp only [World.size_alloc, World.size_setCell, World.size_drew] at this); omega)
        replace HR : Hd (w9.alloc (.cells #[.int .i64 0, .int .i64 0, .int .i64 0, .int .i64 0] 25)) w.heap.size 25 #[.int .i64 0, .int .i64 0, .int .i64 0, .int .i64 0] := by (with_reducible repeat' (first | assumption | (apply hdN; (try simp only [sA, sS, sD]); done) | apply hdA | apply hdD | apply hdS | (apply hdF; case hp => first | (simp; done) | (simp; omega)) | with_unfolding_all rfl))
        replace HG : Hd (w9.alloc (.cells #[.int .i64 0, .int .i64 0, .int .i64 0, .int .i64 0] 25)) (w3.heap.size + 1) 83 #[.int .i64 e6] := by (with_reducible repeat' (first | assumption | (apply hdN; (try simp only [sA, sS, sD]); done) | apply hdA | apply hdD | apply hdS | (apply hdF; case hp => first | (simp; done) | (simp; omega)) | with_unfolding_all rfl))
        replace HP : Hd (w9.alloc (.cells #[.int .i64 0, .int .i64 0, .int .i64 0, .int .i64 0] 25)) w5.heap.size 25 #[.int .i64 z5.re.lo, .int .i64 z5.re.hi, .int .i64 z5.im.lo, .int .i64 z5.im.hi] := by (with_reducible repeat' (first | assumption | (apply hdN; (try simp only [sA, sS, sD]); done) | apply hdA | apply hdD | apply hdS | (apply hdF; case hp => first | (simp; done) | (simp; omega)) | with_unfolding_all rfl))
        replace HN : Hd (w9.alloc (.cells #[.int .i64 0, .int .i64 0, .int .i64 0, .int .i64 0] 25)) w6.heap.size 25 #[.int .i64 z6.re.lo, .int .i64 z6.re.hi, .int .i64 z6.im.lo, .int .i64 z6.im.hi] := by (with_reducible repeat' (first | assumption | (apply hdN; (try simp only [sA, sS, sD]); done) | apply hdA | apply hdD | apply hdS | (apply hdF; case hp => first | (simp; done) | (simp; omega)) | with_unfolding_all rfl))
        replace bw : Below w.heap.size w (w9.alloc (.cells #[.int .i64 0, .int .i64 0, .int .i64 0, .int .i64 0] 25)) := by go_grown
        have HD : Hd (w9.alloc (.cells #[.int .i64 0, .int .i64 0, .int .i64 0, .int .i64 0] 25)) w9.heap.size 25 #[.int .i64 0, .int .i64 0, .int .i64 0, .int .i64 0] := by (with_reducible repeat' (first | assumption | (apply hdN; (try simp only [sA, sS, sD]); done) | apply hdA | apply hdD | apply hdS | (apply hdF; case hp => first | (simp; done) | (simp; omega)) | with_unfolding_all rfl))
        (try refine ⟨⟨HN, bw⟩, ?_⟩)
        repeat ((first | with_reducible apply eag_move | with_reducible apply eag_assign | ((with_reducible refine eag_soft (v := ?_) (fun w' hw' => ?_) ?_); rotate_left 1; (focus (obtain ⟨hN, hBw⟩ := hw'; obtain ⟨hcN, hfN⟩ := hN.facts; go_simp; (try with_reducible rfl); done)))); simp only [Act.put, Act.eval, List.setIfInBounds_toArray, List.set_cons_zero, List.set_cons_succ, Array.getD_eq_getD_getElem?, List.getElem?_toArray, List.getElem?_cons_zero, List.getElem?_cons_succ, Option.getD_some])
        repeat ((first | with_reducible apply eag_move | with_reducible apply eag_assign | ((with_reducible refine eag_soft (v := ?_) (fun w' hw' => ?_) ?_); rotate_left 1; (focus (obtain ⟨hN, hBw⟩ := hw'; obtain ⟨hcN, hfN⟩ := hN.facts; go_simp; (try with_reducible rfl); done)))); simp only [Act.put, Act.eval, List.setIfInBounds_toArray, List.set_cons_zero, List.set_cons_succ, Array.getD_eq_getD_getElem?, List.getElem?_toArray, List.getElem?_cons_zero, List.getElem?_cons_succ, Option.getD_some])
        refine eag_hard ?_
        go_wp2_with fail
        refine (rsub_any ⟨⟨1073741824, 1073741824⟩, ⟨0, 0⟩⟩ z6 (by decide) ok6 e6 (w3.heap.size + 1) _ HG).mono ?_
        rintro e w10 ⟨z10, e10, rfl, ok10, qq10, HG10, hb10⟩
        replace qq10 := Lib.hid qq10
        replace bw := But.far bw hb10 (by omega) (by (try simp only [World.size_alloc, World.size_setCell, World.size_drew]); omega)
        replace HR := HR.but hb10 (by omega)
        replace HP := HP.but hb10 (by omega)
        replace HN := HN.but hb10 (by omega)
        replace HD := HD.but hb10 (by omega)
        replace HG := HG10
        clear HG10
        have lw10 : w.heap.size ≤ w10.heap.size := bw.size
        clear hb10
        go_wp2_with fail
        (try refine ⟨⟨HN, bw⟩, ?_⟩)
        repeat ((first | with_reducible apply eag_move | with_reducible apply eag_assign | ((with_reducible refine eag_soft (v := ?_) (fun w' hw' => ?_) ?_); rotate_left 1; (focus (obtain ⟨hN, hBw⟩ := hw'; obtain ⟨hcN, hfN⟩ := hN.facts; go_simp; (try with_reducible rfl); done)))); simp only [Act.put, Act.eval, List.setIfInBounds_toArray, List.set_cons_zero, List.set_cons_succ, Array.getD_eq_getD_getElem?, List.getElem?_toArray, List.getElem?_cons_zero, List.getElem?_cons_succ, Option.getD_some])
        refine eag_hard ?_
        obtain ⟨hcD, hfD⟩ := HD.facts
        go_wp2_with fail
        have PR := HR
        have PG := HG
        have PP := HP
        have PN := HN
        have PD := HD
        have Pbw := bw
        replace HR : Hd ((((w10.setCell ⟨w9.heap.size, 0, none⟩ (.int .i64 z10.re.lo)).setCell ⟨w9.heap.size, 1, none⟩ (.int .i64 z10.re.hi)).setCell ⟨w9.heap.size, 2, none⟩ (.int .i64 z10.im.lo)).setCell ⟨w9.heap.size, 3, none⟩ (.int .i64 z10.im.hi)) w.heap.size 25 #[.int .i64 0, .int .i64 0, .int .i64 0, .int .i64 0] := by (with_reducible repeat' (first | assumption | (apply hdN; (try simp only [sA, sS, sD]); done) | apply hdA | apply hdD | apply hdS | (apply hdF; case hp => first | (simp; done) | (simp; omega)) | with_unfolding_all rfl))
        replace HG : Hd ((((w10.setCell ⟨w9.heap.size, 0, none⟩ (.int .i64 z10.re.lo)).setCell ⟨w9.heap.size, 1, none⟩ (.int .i64 z10.re.hi)).setCell ⟨w9.heap.size, 2, none⟩ (.int .i64 z10.im.lo)).setCell ⟨w9.heap.size, 3, none⟩ (.int .i64 z10.im.hi)) (w3.heap.size + 1) 83 #[.int .i64 e10] := by (with_reducible repeat' (first | assumption | (apply hdN; (try simp only [sA, sS, sD]); done) | apply hdA | apply hdD | apply hdS | (apply hdF; case hp => first | (simp; done) | (simp; omega)) | with_unfolding_all rfl))
        replace HP : Hd ((((w10.setCell ⟨w9.heap.size, 0, none⟩ (.int .i64 z10.re.lo)).setCell ⟨w9.heap.size, 1, none⟩ (.int .i64 z10.re.hi)).setCell ⟨w9.heap.size, 2, none⟩ (.int .i64 z10.im.lo)).setCell ⟨w9.heap.size, 3, none⟩ (.int .i64 z10.im.hi)) w5.heap.size 25 #[.int .i64 z5.re.lo, .int .i64 z5.re.hi, .int .i64 z5.im.lo, .int .i64 z5.im.hi] := by (with_reducible repeat' (first | assumption | (apply hdN; (try simp only [sA, sS, sD]); done) | apply hdA | apply hdD | apply hdS | (apply hdF; case hp => first | (simp; done) | (simp; omega)) | with_unfolding_all rfl))
        replace HN : Hd ((((w10.setCell ⟨w9.heap.size, 0, none⟩ (.int .i64 z10.re.lo)).setCell ⟨w9.heap.size, 1, none⟩ (.int .i64 z10.re.hi)).setCell ⟨w9.heap.size, 2, none⟩ (.int .i64 z10.im.lo)).setCell ⟨w9.heap.size, 3, none⟩ (.int .i64 z10.im.hi)) w6.heap.size 25 #[.int .i64 z6.re.lo, .int .i64 z6.re.hi, .int .i64 z6.im.lo, .int .i64 z6.im.hi] := by (with_reducible repeat' (first | assumption | (apply hdN; (try simp only [sA, sS, sD]); done) | apply hdA | apply hdD | apply hdS | (apply hdF; case hp => first | (simp; done) | (simp; omega)) | with_unfolding_all rfl))
        replace HD : Hd ((((w10.setCell ⟨w9.heap.size, 0, none⟩ (.int .i64 z10.re.lo)).setCell ⟨w9.heap.size, 1, none⟩ (.int .i64 z10.re.hi)).setCell ⟨w9.heap.size, 2, none⟩ (.int .i64 z10.im.lo)).setCell ⟨w9.heap.size, 3, none⟩ (.int .i64 z10.im.hi)) w9.heap.size 25 #[.int .i64 z10.re.lo, .int .i64 z10.re.hi, .int .i64 z10.im.lo, .int .i64 z10.im.hi] := by (with_reducible repeat' (first | assumption | (apply hdN; (try simp only [sA, sS, sD]); done) | apply hdA | apply hdD | apply hdS | (apply hdF; case hp => first | (simp; done) | (simp; omega)) | with_unfolding_all rfl))
        replace bw : Below w.heap.size w ((((w10.setCell ⟨w9.heap.size, 0, none⟩ (.int .i64 z10.re.lo)).setCell ⟨w9.heap.size, 1, none⟩ (.int .i64 z10.re.hi)).setCell ⟨w9.heap.size, 2, none⟩ (.int .i64 z10.im.lo)).setCell ⟨w9.heap.size, 3, none⟩ (.int .i64 z10.im.hi)) := by go_grown
        (try refine ⟨⟨HN, bw⟩, ?_⟩)
        repeat ((first | with_reducible apply eag_move | with_reducible apply eag_assign | ((with_reducible refine eag_soft (v := ?_) (fun w' hw' => ?_) ?_); rotate_left 1; (focus (obtain ⟨hN, hBw⟩ := hw'; obtain ⟨hcN, hfN⟩ := hN.facts; go_simp; (try with_reducible rfl); done)))); simp only [Act.put, Act.eval, List.setIfInBounds_toArray, List.set_cons_zero, List.set_cons_succ, Array.getD_eq_getD_getElem?, List.getElem?_toArray, List.getElem?_cons_zero, List.getElem?_cons_succ, Option.getD_some])
        refine eag_nil ?_
        generalize hW : (((w10.setCell ⟨w9.heap.size, 0, none⟩ (.int .i64 z10.re.lo)).setCell ⟨w9.heap.size, 1, none⟩ (.int .i64 z10.re.hi)).setCell ⟨w9.heap.size, 2, none⟩ (.int .i64 z10.im.lo)).setCell ⟨w9.heap.size, 3, none⟩ (.int .i64 z10.im.hi) = w11 at HR HG HP HN HD bw ⊢
        clear hW
        have lw11 : w.heap.size ≤ w11.heap.size := bw.size
        obtain ⟨hcR, hfR⟩ := HR.facts
        obtain ⟨hcG, hfG⟩ := HG.facts
        obtain ⟨hcP, hfP⟩ := HP.facts
        obtain ⟨hcN, hfN⟩ := HN.facts
        obtain ⟨hcD, hfD⟩ := HD.facts
        clear luR6 lvR6 luG6 lvG6 luT6 lvT6 luV6 lvV6 luP6 lvP6
        have ltR7 := HR.lt
        have luR7 := Nat.lt_succ_of_lt ltR7
        have lvR7 := Nat.lt_succ_of_lt luR7
        have ltG7 := HG.lt
        have luG7 := Nat.lt_succ_of_lt ltG7
        have lvG7 := Nat.lt_succ_of_lt luG7
        have ltP7 := HP.lt
        have luP7 := Nat.lt_succ_of_lt ltP7
        have lvP7 := Nat.lt_succ_of_lt luP7
        have ltN7 := HN.lt
        have luN7 := Nat.lt_succ_of_lt ltN7
        have lvN7 := Nat.lt_succ_of_lt luN7
        have ltD7 := HD.lt
        have luD7 := Nat.lt_succ_of_lt ltD7
        have lvD7 := Nat.lt_succ_of_lt luD7
        go_wp2_with fail
        refine (rdiv_any z5 z10 ok5 ok10 e10 (w3.heap.size + 1) _ HG).mono ?_
        rintro e w12 ⟨z12, e12, rfl, ok12, qq12, HG12, hb12⟩
        replace qq12 := Lib.hid qq12
        replace bw := But.far bw hb12 (by omega) (by (try simp only [World.size_alloc, World.size_setCell, World.size_drew]); omega)
        replace HR := HR.but hb12 (by omega)
        replace HP := HP.but hb12 (by omega)
        replace HN := HN.but hb12 (by omega)
        replace HD := HD.but hb12 (by omega)
        replace HG := HG12
        clear HG12
        have lw12 : w.heap.size ≤ w12.heap.size := bw.size
        clear hb12
        go_wp2_with fail
        refine (rdone_any z12 e12 _ _ HG).mono ?_
        rintro e w13 ⟨rfl, hb13⟩
        replace bw : Below w.heap.size w w13 := below_next bw hb13
        replace HR := HR.call hb13
        replace HG := HG.call hb13
        replace HP := HP.call hb13
        replace HN := HN.call hb13
        replace HD := HD.call hb13
        have lw13 : w.heap.size ≤ w13.heap.size := bw.size
        clear hb13
        obtain ⟨hcR, hfR⟩ := HR.facts
        have hs := Lib.hid (qq4.out.bind (f := fun v => En.minus ⟨pt, ⟨0, 0⟩⟩ v >>= fun up => En.times ⟨pt, ⟨0, 0⟩⟩ v >>= fun cv => En.minus ⟨⟨1073741824, 1073741824⟩, ⟨0, 0⟩⟩ cv >>= fun dn => En.quotient up dn) (qq5.out.bind (qq6.out.bind (qq10.out.bind qq12.out))))
        rcases hs.out.zero with ⟨hr, he⟩ | ⟨hr, hne⟩
        · rw [if_pos he]
          clear he
          have HR2 := Lib.hid hr
          clear hr
          go_wp2
          refine bodyPost_ret (run_results2 rfl rfl (by (show Hd _ (w.heap.size) 25 #[.int .i64 z12.re.lo, .int .i64 z12.re.hi, .int .i64 z12.im.lo, .int .i64 z12.im.hi]); (with_reducible repeat' (first | assumption | (apply hdN; (try simp only [sA, sS, sD]); done) | apply hdA | apply hdD | apply hdS | (apply hdF; case hp => first | (simp; done) | (simp; omega)) | with_unfolding_all rfl))) Try.underlying25 rfl (by kernel_rfl)) rfl ⟨by rw [show En.ringCore ⟨pt, ⟨0, 0⟩⟩ ⟨pa, ⟨0, 0⟩⟩ u = _ from HR2.out]; rfl, by go_grown⟩
        · rw [if_neg hne]
          have HR2 := Lib.hid hr
          clear hr hne
          go_wp2
          refine bodyPost_ret (run_results2 rfl rfl (by (show Hd _ (w.heap.size) 25 #[.int .i64 0, .int .i64 0, .int .i64 0, .int .i64 0]); (with_reducible repeat' (first | assumption | (apply hdN; (try simp only [sA, sS, sD]); done) | apply hdA | apply hdD | apply hdS | (apply hdF; case hp => first | (simp; done) | (simp; omega)) | with_unfolding_all rfl))) Try.underlying25 rfl (by kernel_rfl)) rfl ⟨by rw [show En.ringCore ⟨pt, ⟨0, 0⟩⟩ ⟨pa, ⟨0, 0⟩⟩ u = _ from HR2.out]; rfl, by go_grown⟩
    · go_wp2_with fail
      have PR := HR
      have PG := HG
      have PP := HP
      have PN := HN
      have Pbw := bw
      have ltRD : w.heap.size < w8.heap.size := by (have := HR.lt; (try simp only [World.size_alloc, World.size_setCell, World.size_drew] at this); omega)
      have ltGD : (w3.heap.size + 1) < w8.heap.size := by (have := HG.lt; (try simp only [World.size_alloc, World.size_setCell, World.size_drew] at this); omega)
      have ltPD : w5.heap.size < w8.heap.size := by (have := HP.lt; (try simp only [World.size_alloc, World.size_setCell, World.size_drew] at this); omega)
      have ltND : w6.heap.size < w8.heap.size := by (have := HN.lt; (try simp only [World.size_alloc, World.size_setCell, World.size_drew] at this); omega)
      replace HR : Hd (w8.alloc (.cells #[.int .i64 0, .int .i64 0, .int .i64 0, .int .i64 0] 25)) w.heap.size 25 #[.int .i64 0, .int .i64 0, .int .i64 0, .int .i64 0] := by (with_reducible repeat' (first | assumption | (apply hdN; (try simp only [sA, sS, sD]); done) | apply hdA | apply hdD | apply hdS | (apply hdF; case hp => first | (simp; done) | (simp; omega)) | with_unfolding_all rfl))
      replace HG : Hd (w8.alloc (.cells #[.int .i64 0, .int .i64 0, .int .i64 0, .int .i64 0] 25)) (w3.heap.size + 1) 83 #[.int .i64 e6] := by (with_reducible repeat' (first | assumption | (apply hdN; (try simp only [sA, sS, sD]); done) | apply hdA | apply hdD | apply hdS | (apply hdF; case hp => first | (simp; done) | (simp; omega)) | with_unfolding_all rfl))
      replace HP : Hd (w8.alloc (.cells #[.int .i64 0, .int .i64 0, .int .i64 0, .int .i64 0] 25)) w5.heap.size 25 #[.int .i64 z5.re.lo, .int .i64 z5.re.hi, .int .i64 z5.im.lo, .int .i64 z5.im.hi] := by (with_reducible repeat' (first | assumption | (apply hdN; (try simp only [sA, sS, sD]); done) | apply hdA | apply hdD | apply hdS | (apply hdF; case hp => first | (simp; done) | (simp; omega)) | with_unfolding_all rfl))
      replace HN : Hd (w8.alloc (.cells #[.int .i64 0, .int .i64 0, .int .i64 0, .int .i64 0] 25)) w6.heap.size 25 #[.int .i64 z6.re.lo, .int .i64 z6.re.hi, .int .i64 z6.im.lo, .int .i64 z6.im.hi] := by (with_reducible repeat' (first | assumption | (apply hdN; (try simp only [sA, sS, sD]); done) | apply hdA | apply hdD | apply hdS | (apply hdF; case hp => first | (simp; done) | (simp; omega)) | with_unfolding_all rfl))
      replace bw : Below w.heap.size w (w8.alloc (.cells #[.int .i64 0, .int .i64 0, .int .i64 0, .int .i64 0] 25)) := by go_grown
      have HD : Hd (w8.alloc (.cells #[.int .i64 0, .int .i64 0, .int .i64 0, .int .i64 0] 25)) w8.heap.size 25 #[.int .i64 0, .int .i64 0, .int .i64 0, .int .i64 0] := by (with_reducible repeat' (first | assumption | (apply hdN; (try simp only [sA, sS, sD]); done) | apply hdA | apply hdD | apply hdS | (apply hdF; case hp => first | (simp; done) | (simp; omega)) | with_unfolding_all rfl))
      (try refine ⟨⟨HN, bw⟩, ?_⟩)
      repeat ((first | with_reducible apply eag_move | with_reducible apply eag_assign | ((with_reducible refine eag_soft (v := ?_) (fun w' hw' => ?_) ?_); rotate_left 1; (focus (obtain ⟨hN, hBw⟩ := hw'; obtain ⟨hcN, hfN⟩ := hN.facts; go_simp; (try with_reducible rfl); done)))); simp only [Act.put, Act.eval, List.setIfInBounds_toArray, List.set_cons_zero, List.set_cons_succ, Array.getD_eq_getD_getElem?, List.getElem?_toArray, List.getElem?_cons_zero, List.getElem?_cons_succ, Option.getD_some])
      repeat ((first | with_reducible apply eag_move | with_reducible apply eag_assign | ((with_reducible refine eag_soft (v := ?_) (fun w' hw' => ?_) ?_); rotate_left 1; (focus (obtain ⟨hN, hBw⟩ := hw'; obtain ⟨hcN, hfN⟩ := hN.facts; go_simp; (try with_reducible rfl); done)))); simp only [Act.put, Act.eval, List.setIfInBounds_toArray, List.set_cons_zero, List.set_cons_succ, Array.getD_eq_getD_getElem?, List.getElem?_toArray, List.getElem?_cons_zero, List.getElem?_cons_succ, Option.getD_some])
      refine eag_hard ?_
      go_wp2_with fail
      refine (whole1 _).mono ?_
      rintro e w9 ⟨rfl, hb9⟩
      replace bw : Below w.heap.size w w9 := below_next bw hb9
      replace HR := HR.call hb9
      replace HG := HG.call hb9
      replace HP := HP.call hb9
      replace HN := HN.call hb9
      replace HD := HD.call hb9
      have lw9 : w.heap.size ≤ w9.heap.size := bw.size
      clear hb9
      go_wp2_with fail
      (try refine ⟨⟨HN, bw⟩, ?_⟩)
      repeat ((first | with_reducible apply eag_move | with_reducible apply eag_assign | ((with_reducible refine eag_soft (v := ?_) (fun w' hw' => ?_) ?_); rotate_left 1; (focus (obtain ⟨hN, hBw⟩ := hw'; obtain ⟨hcN, hfN⟩ := hN.facts; go_simp; (try with_reducible rfl); done)))); simp only [Act.put, Act.eval, List.setIfInBounds_toArray, List.set_cons_zero, List.set_cons_succ, Array.getD_eq_getD_getElem?, List.getElem?_toArray, List.getElem?_cons_zero, List.getElem?_cons_succ, Option.getD_some])
      refine eag_hard ?_
      go_wp2_with fail
      refine (rsub_any ⟨⟨1073741824, 1073741824⟩, ⟨0, 0⟩⟩ z6 (by decide) ok6 e6 (w3.heap.size + 1) _ HG).mono ?_
      rintro e w10 ⟨z10, e10, rfl, ok10, qq10, HG10, hb10⟩
      replace qq10 := Lib.hid qq10
      replace bw := But.far bw hb10 (by omega) (by (try simp only [World.size_alloc, World.size_setCell, World.size_drew]); omega)
      replace HR := HR.but hb10 (by omega)
      replace HP := HP.but hb10 (by omega)
      replace HN := HN.but hb10 (by omega)
      replace HD := HD.but hb10 (by omega)
      replace HG := HG10
      clear HG10
      have lw10 : w.heap.size ≤ w10.heap.size := bw.size
      clear hb10
      go_wp2_with fail
      (try refine ⟨⟨HN, bw⟩, ?_⟩)
      repeat ((first | with_reducible apply eag_move | with_reducible apply eag_assign | ((with_reducible refine eag_soft (v := ?_) (fun w' hw' => ?_) ?_); rotate_left 1; (focus (obtain ⟨hN, hBw⟩ := hw'; obtain ⟨hcN, hfN⟩ := hN.facts; go_simp; (try with_reducible rfl); done)))); simp only [Act.put, Act.eval, List.setIfInBounds_toArray, List.set_cons_zero, List.set_cons_succ, Array.getD_eq_getD_getElem?, List.getElem?_toArray, List.getElem?_cons_zero, List.getElem?_cons_succ, Option.getD_some])
      refine eag_hard ?_
      obtain ⟨hcD, hfD⟩ := HD.facts
      go_wp2_with fail
      have PR := HR
      have PG := HG
      have PP := HP
      have PN := HN
      have PD := HD
      have Pbw := bw
      replace HR : Hd ((((w10.setCell ⟨w8.heap.size, 0, none⟩ (.int .i64 z10.re.lo)).setCell ⟨w8.heap.size, 1, none⟩ (.int .i64 z10.re.hi)).setCell ⟨w8.heap.size, 2, none⟩ (.int .i64 z10.im.lo)).setCell ⟨w8.heap.size, 3, none⟩ (.int .i64 z10.im.hi)) w.heap.size 25 #[.int .i64 0, .int .i64 0, .int .i64 0, .int .i64 0] := by (with_reducible repeat' (first | assumption | (apply hdN; (try simp only [sA, sS, sD]); done) | apply hdA | apply hdD | apply hdS | (apply hdF; case hp => first | (simp; done) | (simp; omega)) | with_unfolding_all rfl))
      replace HG : Hd ((((w10.setCell ⟨w8.heap.size, 0, none⟩ (.int .i64 z10.re.lo)).setCell ⟨w8.heap.size, 1, none⟩ (.int .i64 z10.re.hi)).setCell ⟨w8.heap.size, 2, none⟩ (.int .i64 z10.im.lo)).setCell ⟨w8.heap.size, 3, none⟩ (.int .i64 z10.im.hi)) (w3.heap.size + 1) 83 #[.int .i64 e10] := by (with_reducible repeat' (first | assumption | (apply hdN; (try simp only [sA, sS, sD]); done) | apply hdA | apply hdD | apply hdS | (apply hdF; case hp => first | (simp; done) | (simp; omega)) | with_unfolding_all rfl))
      replace HP : Hd ((((w10.setCell ⟨w8.heap.size, 0, none⟩ (.int .i64 z10.re.lo)).setCell ⟨w8.heap.size, 1, none⟩ (.int .i64 z10.re.hi)).setCell ⟨w8.heap.size, 2, none⟩ (.int .i64 z10.im.lo)).setCell ⟨w8.heap.size, 3, none⟩ (.int .i64 z10.im.hi)) w5.heap.size 25 #[.int .i64 z5.re.lo, .int .i64 z5.re.hi, .int .i64 z5.im.lo, .int .i64 z5.im.hi] := by (with_reducible repeat' (first | assumption | (apply hdN; (try simp only [sA, sS, sD]); done) | apply hdA | apply hdD | apply hdS | (apply hdF; case hp => first | (simp; done) | (simp; omega)) | with_unfolding_all rfl))
      replace HN : Hd ((((w10.setCell ⟨w8.heap.size, 0, none⟩ (.int .i64 z10.re.lo)).setCell ⟨w8.heap.size, 1, none⟩ (.int .i64 z10.re.hi)).setCell ⟨w8.heap.size, 2, none⟩ (.int .i64 z10.im.lo)).setCell ⟨w8.heap.size, 3, none⟩ (.int .i64 z10.im.hi)) w6.heap.size 25 #[.int .i64 z6.re.lo, .int .i64 z6.re.hi, .int .i64 z6.im.lo, .int .i64 z6.im.hi] := by (with_reducible repeat' (first | assumption | (apply hdN; (try simp only [sA, sS, sD]); done) | apply hdA | apply hdD | apply hdS | (apply hdF; case hp => first | (simp; done) | (simp; omega)) | with_unfolding_all rfl))
      replace HD : Hd ((((w10.setCell ⟨w8.heap.size, 0, none⟩ (.int .i64 z10.re.lo)).setCell ⟨w8.heap.size, 1, none⟩ (.int .i64 z10.re.hi)).setCell ⟨w8.heap.size, 2, none⟩ (.int .i64 z10.im.lo)).setCell ⟨w8.heap.size, 3, none⟩ (.int .i64 z10.im.hi)) w8.heap.size 25 #[.int .i64 z10.re.lo, .int .i64 z10.re.hi, .int .i64 z10.im.lo, .int .i64 z10.im.hi] := by (with_reducible repeat' (first | assumption | (apply hdN; (try simp only [sA, sS, sD]); done) | apply hdA | apply hdD | apply hdS | (apply hdF; case hp => first | (simp; done) | (simp; omega)) | with_unfolding_all rfl))
      replace bw : Below w.heap.size w ((((w10.setCell ⟨w8.heap.size, 0, none⟩ (.int .i64 z10.re.lo)).setCell ⟨w8.heap.size, 1, none⟩ (.int .i64 z10.re.hi)).setCell ⟨w8.heap.size, 2, none⟩ (.int .i64 z10.im.lo)).setCell ⟨w8.heap.size, 3, none⟩ (.int .i64 z10.im.hi)) := by go_grown
      (try refine ⟨⟨HN, bw⟩, ?_⟩)
      repeat ((first | with_reducible apply eag_move | with_reducible apply eag_assign | ((with_reducible refine eag_soft (v := ?_) (fun w' hw' => ?_) ?_); rotate_left 1; (focus (obtain ⟨hN, hBw⟩ := hw'; obtain ⟨hcN, hfN⟩ := hN.facts; go_simp; (try with_reducible rfl); done)))); simp only [Act.put, Act.eval, List.setIfInBounds_toArray, List.set_cons_zero, List.set_cons_succ, Array.getD_eq_getD_getElem?, List.getElem?_toArray, List.getElem?_cons_zero, List.getElem?_cons_succ, Option.getD_some])
      refine eag_nil ?_
      generalize hW : (((w10.setCell ⟨w8.heap.size, 0, none⟩ (.int .i64 z10.re.lo)).setCell ⟨w8.heap.size, 1, none⟩ (.int .i64 z10.re.hi)).setCell ⟨w8.heap.size, 2, none⟩ (.int .i64 z10.im.lo)).setCell ⟨w8.heap.size, 3, none⟩ (.int .i64 z10.im.hi) = w11 at HR HG HP HN HD bw ⊢
      clear hW
      have lw11 : w.heap.size ≤ w11.heap.size := bw.size
      obtain ⟨hcR, hfR⟩ := HR.facts
      obtain ⟨hcG, hfG⟩ := HG.facts
      obtain ⟨hcP, hfP⟩ := HP.facts
      obtain ⟨hcN, hfN⟩ := HN.facts
      obtain ⟨hcD, hfD⟩ := HD.facts
      clear luR6 lvR6 luG6 lvG6 luT6 lvT6 luV6 lvV6 luP6 lvP6
      have ltR7 := HR.lt
      have luR7 := Nat.lt_succ_of_lt ltR7
      have lvR7 := Nat.lt_succ_of_lt luR7
      have ltG7 := HG.lt
      have luG7 := Nat.lt_succ_of_lt ltG7
      have lvG7 := Nat.lt_succ_of_lt luG7
      have ltP7 := HP.lt
      have luP7 := Nat.lt_succ_of_lt ltP7
      have lvP7 := Nat.lt_succ_of_lt luP7
      have ltN7 := HN.lt
      have luN7 := Nat.lt_succ_of_lt ltN7
      have lvN7 := Nat.lt_succ_of_lt luN7
      have ltD7 := HD.lt
      have luD7 := Nat.lt_succ_of_lt ltD7
      have lvD7 := Nat.lt_succ_of_lt luD7
      go_wp2_with fail
      refine (rdiv_any z5 z10 ok5 ok10 e10 (w3.heap.size + 1) _ HG).mono ?_
      rintro e w12 ⟨z12, e12, rfl, ok12, qq12, HG12, hb12⟩
      replace qq12 := Lib.hid qq12
      replace bw := But.far bw hb12 (by omega) (by (try simp only [World.size_alloc, World.size_setCell, World.size_drew]); omega)
      replace HR := HR.but hb12 (by omega)
      replace HP := HP.but hb12 (by omega)
      replace HN := HN.but hb12 (by omega)
      replace HD := HD.but hb12 (by omega)
      replace HG := HG12
      clear HG12
      have lw12 : w.heap.size ≤ w12.heap.size := bw.size
      clear hb12
      go_wp2_with fail
      refine (rdone_any z12 e12 _ _ HG).mono ?_
      rintro e w13 ⟨rfl, hb13⟩
      replace bw : Below w.heap.size w w13 := below_next bw hb13
      replace HR := HR.call hb13
      replace HG := HG.call hb13
      replace HP := HP.call hb13
      replace HN := HN.call hb13
      replace HD := HD.call hb13
      have lw13 : w.heap.size ≤ w13.heap.size := bw.size
      clear hb13
      obtain ⟨hcR, hfR⟩ := HR.facts
      have hs := Lib.hid (qq4.out.bind (f := fun v => En.minus ⟨pt, ⟨0, 0⟩⟩ v >>= fun up => En.times ⟨pt, ⟨0, 0⟩⟩ v >>= fun cv => En.minus ⟨⟨1073741824, 1073741824⟩, ⟨0, 0⟩⟩ cv >>= fun dn => En.quotient up dn) (qq5.out.bind (qq6.out.bind (qq10.out.bind qq12.out))))
      rcases hs.out.zero with ⟨hr, he⟩ | ⟨hr, hne⟩
      · rw [if_pos he]
        clear he
        have HR2 := Lib.hid hr
        clear hr
        go_wp2
        refine bodyPost_ret (run_results2 rfl rfl (by (show Hd _ (w.heap.size) 25 #[.int .i64 z12.re.lo, .int .i64 z12.re.hi, .int .i64 z12.im.lo, .int .i64 z12.im.hi]); (with_reducible repeat' (first | assumption | (apply hdN; (try simp only [sA, sS, sD]); done) | apply hdA | apply hdD | apply hdS | (apply hdF; case hp => first | (simp; done) | (simp; omega)) | with_unfolding_all rfl))) Try.underlying25 rfl (by kernel_rfl)) rfl ⟨by rw [show En.ringCore ⟨pt, ⟨0, 0⟩⟩ ⟨pa, ⟨0, 0⟩⟩ u = _ from HR2.out]; rfl, by go_grown⟩
      · rw [if_neg hne]
        have HR2 := Lib.hid hr
        clear hr hne
        go_wp2
        refine bodyPost_ret (run_results2 rfl rfl (by (show Hd _ (w.heap.size) 25 #[.int .i64 0, .int .i64 0, .int .i64 0, .int .i64 0]); (with_reducible repeat' (first | assumption | (apply hdN; (try simp only [sA, sS, sD]); done) | apply hdA | apply hdD | apply hdS | (apply hdF; case hp => first | (simp; done) | (simp; omega)) | with_unfolding_all rfl))) Try.underlying25 rfl (by kernel_rfl)) rfl ⟨by rw [show En.ringCore ⟨pt, ⟨0, 0⟩⟩ ⟨pa, ⟨0, 0⟩⟩ u = _ from HR2.out]; rfl, by go_grown⟩
  · have hr : ringR t a u = (⟨⟨0, 0⟩, ⟨0, 0⟩⟩, 2) := if_neg hin
    rw [hr]
    clear hr hu
    have hc : t < 0 ∨ (0 ≤ t ∧ 1000000 < t) ∨ (0 ≤ t ∧ t ≤ 1000000 ∧ a < 0) ∨ (0 ≤ t ∧ t ≤ 1000000 ∧ 0 ≤ a ∧ 1000000 < a) := by omega
    clear hin
    rcases hc with h1 | ⟨h1, h2⟩ | ⟨h1, h2, h3⟩ | ⟨h1, h2, h3, h4⟩
    all_goals
      go_enter Try.func28, Try.ntmps28
      go_wp2
      refine bodyPost_ret (run_results2 rfl rfl (by (show Hd _ (w.heap.size) 25 #[.int .i64 0, .int .i64 0, .int .i64 0, .int .i64 0]); (with_reducible repeat' (first | assumption | (apply hdN; (try simp only [sA, sS, sD]); done) | apply hdA | apply hdD | apply hdS | (apply hdF; case hp => first | (simp; done) | (simp; omega)) | with_unfolding_all rfl))) Try.underlying25 rfl (by kernel_rfl)) rfl ⟨rfl, by go_grown⟩
end Go.Proofs.Ytpbbbfglecbceaa
