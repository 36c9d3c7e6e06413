/- A ring that loses all lets its coupling through, and a ring that loses, or couples, a tenth has an answer: for all whole numbers. -/
import Derived.Test.YtpbbbfglecbceaaRows
import Derived.Test.YtpbbbfglecbceaaFlat
import Derived.Test.YtpbbbfglecbceaaEn17
import Derived.Test.YtpbbbfglecbceaaEn20
import Derived.Test.YtpbbbfglecbceaaLoPl
import Derived.WalkKit
import Derived.ProofKit
import Derived.OpenShut
namespace Go.Proofs.Ytpbbbfglecbceaa
set_option linter.all false
open Go.ChangeShapes Go.WideShapes Go.ChangeAt Go.RowKit
namespace LawLost

theorem wide_any (s : En.Sp) (w : World) : Calls Try.prog 42 #[spV s] w fun e w' => e = .returned (rcV ⟨s, ⟨0, 0⟩⟩) ∧ Below w.heap.size w w' := by
  go_enter Try.func42, Try.ntmps42
  go_wp2
  refine bodyPost_ret (run_results1 rfl rfl (by (show Hd _ (w.heap.size + 1) 25 #[.int .i64 s.lo, .int .i64 s.hi, .int .i64 0, .int .i64 0]); (with_reducible repeat' (first | assumption | (apply hdN; (try simp only [sA, sS, sD]); done) | apply hdA | apply hdD | apply hdS | (apply hdF; case hp => first | (simp; done) | (simp; omega)) | with_unfolding_all rfl))) Try.underlying25 rfl (by kernel_rfl)) rfl ⟨rfl, by go_grown⟩
theorem u32_wf {n : Int} (h : (Lit.int .u32 n).wf = true) : 0 ≤ n ∧ n ≤ 4294967295 := by
  simp [Lit.wf, IntKind.min, IntKind.max, IntKind.signed, IntKind.bits] at h
  omega
theorem ring0 {x : Int} {u : En.Rc} (h0 : 0 ≤ x) (h1 : x ≤ 1000000) (hu : u.ok = true) : ringR x 0 u = (⟨En.pmS x, ⟨0, 0⟩⟩, 0) := by
  unfold ringR
  rw [if_pos ⟨h0, h1, by omega, by omega⟩]
  show outR (En.ringCore ⟨En.pmS x, En.zS⟩ ⟨En.zS, En.zS⟩ u) = _
  rw [En.ring_zero (En.pmS_ok h0 h1) hu]
  rfl
theorem o4_out {r : En.R En.Rc} (h : En.o4 r) : (outR r).2 ≠ 51 ∧ (outR r).2 ≠ 2 := by
  cases r with
  | ok z => exact ⟨by show (0 : Int) ≠ 51; omega, by show (0 : Int) ≠ 2; omega⟩
  | error c =>
    have := h c rfl
    subst this
    exact ⟨by show (4 : Int) ≠ 51; omega, by show (4 : Int) ≠ 2; omega⟩
theorem pmS_bounds {n m : Int} (h0 : 0 ≤ n) (h1 : n ≤ m) : 0 ≤ (En.pmS n).lo ∧ (En.pmS n).hi ≤ m * 1073741824 / 1000000 + 1 := by
  unfold En.pmS
  dsimp only
  omega
theorem ring_codes {x y : Int} {u : En.Rc} (x0 : 0 ≤ x) (x1 : x ≤ 1000000) (y0 : 0 ≤ y) (y1 : y ≤ 900000) (hu : u.ok = true) (u1 : -1073742824 ≤ u.re.lo) (u2 : u.re.hi ≤ 1073742824) :
    ((ringR x y u).2 ≠ 51 ∧ (ringR x y u).2 ≠ 2) ∧ ((ringR y x u).2 ≠ 51 ∧ (ringR y x u).2 ≠ 2) := by
  obtain ⟨b1, b2⟩ := pmS_bounds x0 x1
  obtain ⟨b3, b4⟩ := pmS_bounds y0 y1
  have e1 : ringR x y u = outR (En.ringCore ⟨En.pmS x, ⟨0, 0⟩⟩ ⟨En.pmS y, ⟨0, 0⟩⟩ u) := if_pos ⟨x0, x1, y0, by omega⟩
  have e2 : ringR y x u = outR (En.ringCore ⟨En.pmS y, ⟨0, 0⟩⟩ ⟨En.pmS x, ⟨0, 0⟩⟩ u) := if_pos ⟨y0, by omega, x0, x1⟩
  rw [e1, e2]
  have okx := En.pmS_ok x0 x1
  have oky := En.pmS_ok y0 (by omega)
  exact ⟨o4_out (En.ring_o4 okx oky hu b1 b2 b3 b4 u1 u2 (by decide) (by decide) (by decide)), o4_out (En.ring_o4 oky okx hu b3 b4 b1 b2 u1 u2 (by decide) (by decide) (by decide))⟩
theorem part0 {x : Int} (h0 : 0 ≤ x) (h1 : x ≤ 1000000) : partR x 1000000 = (En.pmS x, 0) := by
  unfold partR
  rw [if_pos ⟨by omega, by omega, by omega, by omega⟩, En.part_pm h0 h1]
  rfl
theorem unit_bounds (n : Int) : ∃ u, En.unit n = .ok u ∧ u.ok = true ∧ -1073742824 ≤ u.re.lo ∧ u.re.hi ≤ 1073742824 := by
  obtain ⟨u, hu, hg⟩ := En.unit_good n
  refine ⟨u, hu, En.unit_okR hu, ?_⟩
  unfold En.goodUnit at hg
  simp only [Bool.and_eq_true, decide_eq_true_eq] at hg
  exact ⟨hg.1.1.1.1, hg.1.1.1.2⟩
set_option maxHeartbeats 2000000 in
theorem walk (t a n : Int) (wt : (Lit.int .u32 t).wf = true) (wa : (Lit.int .u32 a).wf = true) (w : World) : Calls Try.prog 10 #[.int .u32 t, .int .u32 a, .int .i64 n] w fun e w' => e = .returned (.bool true) ∧ Below w.heap.size w w' := by
  obtain ⟨t0, t1⟩ := u32_wf wt
  obtain ⟨a0, a1⟩ := u32_wf wa
  clear wt wa
  obtain ⟨u, hu, hok, hu1, hu2⟩ := unit_bounds n
  have ht : t.tmod 1000001 = t % 1000001 := Int.tmod_eq_emod_of_nonneg t0
  have ha : a.tmod 900001 = a % 900001 := Int.tmod_eq_emod_of_nonneg a0
  have x0 : 0 ≤ t % 1000001 := by omega
  have x1 : t % 1000001 ≤ 1000000 := by omega
  have y0 : 0 ≤ a % 900001 := by omega
  have y1 : a % 900001 ≤ 900000 := by omega
  obtain ⟨x, hx⟩ : ∃ x, t % 1000001 = x := ⟨_, rfl⟩
  obtain ⟨y, hy⟩ : ∃ y, a % 900001 = y := ⟨_, rfl⟩
  rw [hx] at ht x0 x1
  rw [hy] at ha y0 y1
  have C1 := ringE_any x 0 n u hu
  rw [ring0 x0 x1 hok] at C1
  have C2 := partE_any x 1000000
  rw [part0 x0 x1] at C2
  have C3 := ringE_any x y n u hu
  have C4 := ringE_any y x n u hu
  obtain ⟨⟨k1, k2⟩, k3, k4⟩ := ring_codes x0 x1 y0 y1 hok hu1 hu2
  obtain ⟨p, hp⟩ : ∃ p, En.pmS x = p := ⟨_, rfl⟩
  rw [hp] at C1 C2
  obtain ⟨q, hq⟩ : ∃ q, ringR x y u = q := ⟨_, rfl⟩
  obtain ⟨r, hr⟩ : ∃ r, ringR y x u = r := ⟨_, rfl⟩
  rw [hq] at C3 k1 k2
  rw [hr] at C4 k3 k4
  obtain ⟨q1, q2⟩ := q
  obtain ⟨r1, r2⟩ := r
  dsimp only at k1 k2 k3 k4
  clear hu hok hu1 hu2 hp hq hr
  have hfin := Lib.hid (show (q2 != 51 && r2 != 51 && q2 != 2 && r2 != 2) = true by simp [k1, k2, k3, k4])
  have W1 := wide_any p
  replace C1 := Lib.hid C1
  replace C2 := Lib.hid C2
  replace C3 := Lib.hid C3
  replace C4 := Lib.hid C4
  replace W1 := Lib.hid W1
  go_enter Try.func10, Try.ntmps10
  go_wp2_with fail
  have bw := Below.refl w.heap.size w
  refine (C1.out _).mono ?_
  rintro e w1 ⟨rfl, hb1⟩
  replace bw : Below w.heap.size w w1 := below_next bw hb1
  have lw1 : w.heap.size ≤ w1.heap.size := bw.size
  clear hb1
  go_wp2_with fail
  replace bw : Below w.heap.size w (w1.alloc (.cells #[.int .i64 p.lo, .int .i64 p.hi, .int .i64 0, .int .i64 0] 25)) := by go_grown
  have HX : Hd (w1.alloc (.cells #[.int .i64 p.lo, .int .i64 p.hi, .int .i64 0, .int .i64 0] 25)) w1.heap.size 25 #[.int .i64 p.lo, .int .i64 p.hi, .int .i64 0, .int .i64 0] := by (with_reducible repeat' (first | assumption | (apply hdN; (try simp only [sA, sS, sD]); done) | apply hdA | apply hdD | apply hdS | (apply hdF; case hp => first | (simp; done) | (simp; omega)) | with_unfolding_all rfl))
  refine (C2.out _).mono ?_
  rintro e w2 ⟨rfl, hb2⟩
  replace bw : Below w.heap.size w w2 := below_next bw hb2
  replace HX := HX.call hb2
  have lw2 : w.heap.size ≤ w2.heap.size := bw.size
  clear hb2
  obtain ⟨hcX, hfX⟩ := HX.facts
  have ltX := HX.lt
  go_upto_region 4 with fail
  replace HX : Hd (w2.alloc (.cells #[.int .i64 p.lo, .int .i64 p.hi] 23)) w1.heap.size 25 #[.int .i64 p.lo, .int .i64 p.hi, .int .i64 0, .int .i64 0] := by (with_reducible repeat' (first | assumption | (apply hdN; (try simp only [sA, sS, sD]); done) | apply hdA | apply hdD | apply hdS | (apply hdF; case hp => first | (simp; done) | (simp; omega)) | with_unfolding_all rfl))
  replace bw : Below w.heap.size w (w2.alloc (.cells #[.int .i64 p.lo, .int .i64 p.hi] 23)) := by go_grown
  have HY : Hd (w2.alloc (.cells #[.int .i64 p.lo, .int .i64 p.hi] 23)) w2.heap.size 23 #[.int .i64 p.lo, .int .i64 p.hi] := by (with_reducible repeat' (first | assumption | (apply hdN; (try simp only [sA, sS, sD]); done) | apply hdA | apply hdD | apply hdS | (apply hdF; case hp => first | (simp; done) | (simp; omega)) | with_unfolding_all rfl))
  replace HX : Hd ((w2.alloc (.cells #[.int .i64 p.lo, .int .i64 p.hi] 23)).drew) w1.heap.size 25 #[.int .i64 p.lo, .int .i64 p.hi, .int .i64 0, .int .i64 0] := by (with_reducible repeat' (first | assumption | (apply hdN; (try simp only [sA, sS, sD]); done) | apply hdA | apply hdD | apply hdS | (apply hdF; case hp => first | (simp; done) | (simp; omega)) | with_unfolding_all rfl))
  replace HY : Hd ((w2.alloc (.cells #[.int .i64 p.lo, .int .i64 p.hi] 23)).drew) w2.heap.size 23 #[.int .i64 p.lo, .int .i64 p.hi] := by (with_reducible repeat' (first | assumption | (apply hdN; (try simp only [sA, sS, sD]); done) | apply hdA | apply hdD | apply hdS | (apply hdF; case hp => first | (simp; done) | (simp; omega)) | with_unfolding_all rfl))
  replace bw : Below w.heap.size w ((w2.alloc (.cells #[.int .i64 p.lo, .int .i64 p.hi] 23)).drew) := by go_grown
  (refine wp_region_eag (fun w' => Hd w' w1.heap.size 25 #[.int .i64 p.lo, .int .i64 p.hi, .int .i64 0, .int .i64 0] ∧ Hd w' w2.heap.size 23 #[.int .i64 p.lo, .int .i64 p.hi] ∧ Below w.heap.size w w') [(0, true), (1, true), (2, true), (3, true), (4, true), (5, true), (6, true), (7, true), (8, true), (9, false), (10, true), (11, true)] (by kernel_rfl) (by kernel_rfl) (fun c d v a w h => by cases d <;> exact h) ⟨HX, HY, bw⟩ ?_; simp only [List.map_cons, List.map_nil, List.getD_cons_zero, List.getD_cons_succ, flMark, Nat.reduceEqDiff, ↓reduceIte])
  repeat ((first | with_reducible apply eag_move | with_reducible apply eag_assign | ((with_reducible refine eag_soft (v := ?_) (fun w' hw' => ?_) ?_); rotate_left 1; (focus (obtain ⟨hX, hY, hBw⟩ := hw'; obtain ⟨hcX, hfX⟩ := hX.facts; obtain ⟨hcY, hfY⟩ := hY.facts; go_simp; (try with_reducible rfl); done))) | ((refine eag_soft_g (v := ?_) (by rfl) (fun w' hw' => ?_) ?_); rotate_left 1; (focus (obtain ⟨hX, hY, hBw⟩ := hw'; obtain ⟨hcX, hfX⟩ := hX.facts; obtain ⟨hcY, hfY⟩ := hY.facts; go_simp; (try with_reducible rfl); done)))); simp only [Act.put, Act.eval, List.setIfInBounds_toArray, List.set_cons_zero, List.set_cons_succ, Array.getD_eq_getD_getElem?, List.getElem?_toArray, List.getElem?_cons_zero, List.getElem?_cons_succ, Option.getD_some])
  refine eag_hard ?_
  go_wp2_with fail
  refine (W1.out _).mono ?_
  rintro e w3 ⟨rfl, hb3⟩
  replace bw : Below w.heap.size w w3 := below_next bw hb3
  replace HX := HX.call hb3
  replace HY := HY.call hb3
  have lw3 : w.heap.size ≤ w3.heap.size := bw.size
  clear hb3
  go_wp2_with fail
  (try refine ⟨⟨HX, HY, bw⟩, ?_⟩)
  repeat ((first | with_reducible apply eag_move | with_reducible apply eag_assign | ((with_reducible refine eag_soft (v := ?_) (fun w' hw' => ?_) ?_); rotate_left 1; (focus (obtain ⟨hX, hY, hBw⟩ := hw'; obtain ⟨hcX, hfX⟩ := hX.facts; obtain ⟨hcY, hfY⟩ := hY.facts; go_simp; (try with_reducible rfl); done))) | ((refine eag_soft_g (v := ?_) (by rfl) (fun w' hw' => ?_) ?_); rotate_left 1; (focus (obtain ⟨hX, hY, hBw⟩ := hw'; obtain ⟨hcX, hfX⟩ := hX.facts; obtain ⟨hcY, hfY⟩ := hY.facts; go_simp; (try with_reducible rfl); done)))); simp only [Act.put, Act.eval, List.setIfInBounds_toArray, List.set_cons_zero, List.set_cons_succ, Array.getD_eq_getD_getElem?, List.getElem?_toArray, List.getElem?_cons_zero, List.getElem?_cons_succ, Option.getD_some])
  refine eag_nil ?_
  go_wp2_with fail
  refine (C3.out _).mono ?_
  rintro e w4 ⟨rfl, hb4⟩
  replace bw : Below w.heap.size w w4 := below_next bw hb4
  replace HX := HX.call hb4
  replace HY := HY.call hb4
  have lw4 : w.heap.size ≤ w4.heap.size := bw.size
  clear hb4
  go_wp2_with fail
  refine (C4.out _).mono ?_
  rintro e w5 ⟨rfl, hb5⟩
  replace bw : Below w.heap.size w w5 := below_next bw hb5
  replace HX := HX.call hb5
  replace HY := HY.call hb5
  have lw5 : w.heap.size ≤ w5.heap.size := bw.size
  clear hb5
  go_wp2_with fail
  refine (awake_any _).mono ?_
  rintro e w6 ⟨rfl, hb6⟩
  replace bw : Below w.heap.size w w6 := below_next bw hb6
  replace HX := HX.call hb6
  replace HY := HY.call hb6
  have lw6 : w.heap.size ≤ w6.heap.size := bw.size
  clear hb6
  go_wp2
  go_ret
  exact ⟨congrArg (fun b => Ending.returned (.bool b)) hfin.out, by go_grown⟩

theorem own : ownKnob Try.prog.godebug = none := by kernel_rfl

set_option maxRecDepth 100000 in
theorem lifted (os : Os) (started : os.Started) (H : Type) (enc : TypeId × Value → H) :
    ReturnsInHanded {} Try.checked os 10 .any (Rows.encloseLostSpec.pre6 enc Try.prog Try.f10 Rows.encloseLostRow.domain false) (Rows.encloseLostSpec.post enc Try.prog Try.f10 false true false false) := by
  refine returnsInHanded_of_change (C := Try.checked) own started (by kernel_rfl) Try.func10
    (ChangeSpec.witness6 (enc := enc) (C := Try.checked) false ⟨#[], #[.int .u32 0, .int .u32 0, .int .i64 0], []⟩ 8 (by kernel_rfl) (by kernel_rfl) (by kernel_rfl) (by kernel_rfl)) ?_
  intro W base args ds gs before hval0 hW hcnd _
  have hval : ∀ (j : Nat) t v, Try.f10.params[j]? = some t → args[j]? = some v → Value.okWide Try.prog W .any base t v := hval0
  have hW' := hW
  obtain ⟨p, q, hA0, hV, rfl, hfz, hnd⟩ := hW
  have hA : DataW.TrodAll enc Try.prog W 0 (fun _ => true) true Try.f10.params.toList args.toList ds p := hA0
  rw [Try.params10] at hA hval
  obtain ⟨rfl, hread⟩ := trodAll_flat (n := 8) (by kernel_rfl) hA
  obtain ⟨v0, vs0, d0, ds0, p0, q0, hargs, rfl, -, h0, r0⟩ := trodAll_cons hA
  obtain ⟨v1, vs1, d1, ds1, p1, q1, rfl, rfl, -, h1, r1⟩ := trodAll_cons r0
  obtain ⟨v2, vs2, d2, ds2, p2, q2, rfl, rfl, -, h2, r2⟩ := trodAll_cons r1
  obtain ⟨rfl, rfl, -⟩ := trodAll_nil r2
  obtain rfl : args = #[v0, v1, v2] := by cases args; simp_all
  obtain ⟨rfl, rfl⟩ := trodVars_none hV
  obtain ⟨x0, rfl, -, -, wf0⟩ := open_int Try.underlying58 (hval 0 58 v0 rfl rfl) h0
  obtain ⟨x1, rfl, -, -, wf1⟩ := open_int Try.underlying58 (hval 1 58 v1 rfl rfl) h1
  obtain ⟨x2, rfl⟩ := okWide_int Try.underlying3 (hval 2 3 v2 rfl rfl)
  clear hA0 hval0
  simp only [List.append_nil] at hW'
  refine (walk x0 x1 x2 wf0 wf1 W).mono fun e W' ⟨he, hg⟩ => ?_
  subst he
  exact ⟨_, rfl, post_flat hW' (fun _ _ _ => (trodAll_cons_mk (shut_bool Try.underlying4 _) trodAll_mk0)) (fun sp => hread _ _ _ _) (fun _ => rfl)
    hg (ok_one (by kernel_rfl) rfl (okWide_bool_mk Try.underlying4 _))⟩

theorem holds : Rows.EncloseLostSaid :=
  OpenClaim.holds_of_wide 10 Try.f10 rfl rfl rfl rfl rfl rfl rfl ⟨rfl, rfl, rfl, rfl, rfl⟩ rfl rfl rfl rfl rfl (by kernel_rfl) Try.func10 (by kernel_rfl)
    (of_decide_eq_true (by kernel_rfl)) (by unfold Func.isWrapper; rw [if_neg (of_decide_eq_false (by kernel_rfl))]; exact ⟨rfl, rfl⟩)
    (fun os started H enc _ => lifted os started H enc)
#print axioms holds
end LawLost
end Go.Proofs.Ytpbbbfglecbceaa
