/- The document's Unit. -/
import Derived.Test.YtpbbbfglecbceaaRe9
import Derived.Test.YtpbbbfglecbceaaUnPl
namespace Go.Proofs.Ytpbbbfglecbceaa
set_option linter.all false
open Go.RowKit

theorem mod_norm (n : Int) : (n.tmod 1024 + 1024).tmod 1024 = n % 1024 := by
  have h1 := Int.mul_tdiv_add_tmod n 1024
  have h2 := Int.tmod_lt_of_pos n (b := 1024) (by omega)
  have h3 := Int.tmod_lt_of_pos (-n) (b := 1024) (by omega)
  rw [Int.neg_tmod] at h3
  rw [Int.tmod_eq_emod_of_nonneg (by omega)]
  omega
theorem En.unitFrom_miss {m v : Nat} {x : En.Rc} (h : ¬ m / 2 ^ v % 2 = 1) : En.unitFrom m (v + 1) x = En.unitFrom m v x := if_neg h
theorem bitRc9 : En.bitRc 9 = ⟨⟨-1073741824, -1073741824⟩, ⟨0, 0⟩⟩ := rfl
theorem bitRc8 : En.bitRc 8 = ⟨⟨0, 0⟩, ⟨1073741824, 1073741824⟩⟩ := rfl
theorem bitRc_low {b : Nat} (h : b ≤ 7) : En.bitRc b = ⟨En.tabC (8 - b), En.tabS (8 - b)⟩ := if_neg (by omega)
set_option maxHeartbeats 4000000 in
theorem runit_any (n : Int) (w : World) : Calls Try.prog 19 #[.int .i64 n] w fun e w' => e = .returned (rcE (outR (En.unit n))) ∧ Below w.heap.size w w' := by
  obtain ⟨zu, hzu, -⟩ := En.unit_good n
  obtain ⟨m, hm⟩ : ∃ m, (n % 1024).toNat = m := ⟨_, rfl⟩
  have hun : En.unitFrom m 10 ⟨En.one, ⟨0, 0⟩⟩ = .ok zu := by rw [← hm]; exact hzu
  have hm1 : m < 1024 := by omega
  have hmn := mod_norm n
  rw [show n % 1024 = (m : Int) by omega] at hmn
  have t1 := Int.tmod_lt_of_pos n (b := 1024) (by omega)
  have t2 : -1024 < n.tmod 1024 := by
    have h3 := Int.tmod_lt_of_pos (-n) (b := 1024) (by omega)
    rw [Int.neg_tmod] at h3
    omega
  have hres : outR (En.unit n) = (zu, 0) := by rw [hzu]; rfl
  rw [hres]
  have HUN := Lib.hid hun
  clear hzu hun hres hm
  have hfd := field_re
  go_enter Try.func19, Try.ntmps19
  go_wp2_with fail
  have HR : Hd ((w.alloc (.cells #[.int .i64 0, .int .i64 0, .int .i64 0, .int .i64 0] 25)).alloc (.cells #[.int .i64 0] 83)) w.heap.size 25 #[.int .i64 0, .int .i64 0, .int .i64 0, .int .i64 0] := by (with_reducible repeat' (first | assumption | (apply hdN; (try simp only [sA, sS, sD]); done) | apply hdA | apply hdD | apply hdS | (apply hdF; case hp => first | (simp; done) | (simp; omega)) | with_unfolding_all rfl))
  have HG : Hd ((w.alloc (.cells #[.int .i64 0, .int .i64 0, .int .i64 0, .int .i64 0] 25)).alloc (.cells #[.int .i64 0] 83)) (w.heap.size + 1) 83 #[.int .i64 0] := by (with_reducible repeat' (first | assumption | (apply hdN; (try simp only [sA, sS, sD]); done) | apply hdA | apply hdD | apply hdS | (apply hdF; case hp => first | (simp; done) | (simp; omega)) | with_unfolding_all rfl))
  have bw : Below w.heap.size w ((w.alloc (.cells #[.int .i64 0, .int .i64 0, .int .i64 0, .int .i64 0] 25)).alloc (.cells #[.int .i64 0] 83)) := by go_grown
  refine (whole1 _).mono ?_
  rintro e w1 ⟨rfl, hb1⟩
  replace bw : Below w.heap.size w w1 := below_next bw hb1
  replace HR := HR.call hb1
  replace HG := HG.call hb1
  have lw1 : w.heap.size ≤ w1.heap.size := bw.size
  clear hb1
  have ltR := HR.lt
  have ltG := HG.lt
  go_wp2
  replace HR : Hd (w1.alloc (.cells #[.int .i64 1073741824, .int .i64 1073741824, .int .i64 0, .int .i64 0] 25)) w.heap.size 25 #[.int .i64 0, .int .i64 0, .int .i64 0, .int .i64 0] := by (with_reducible repeat' (first | assumption | (apply hdN; (try simp only [sA, sS, sD]); done) | apply hdA | apply hdD | apply hdS | (apply hdF; case hp => first | (simp; done) | (simp; omega)) | with_unfolding_all rfl))
  replace HG : Hd (w1.alloc (.cells #[.int .i64 1073741824, .int .i64 1073741824, .int .i64 0, .int .i64 0] 25)) (w.heap.size + 1) 83 #[.int .i64 0] := by (with_reducible repeat' (first | assumption | (apply hdN; (try simp only [sA, sS, sD]); done) | apply hdA | apply hdD | apply hdS | (apply hdF; case hp => first | (simp; done) | (simp; omega)) | with_unfolding_all rfl))
  replace bw : Below w.heap.size w (w1.alloc (.cells #[.int .i64 1073741824, .int .i64 1073741824, .int .i64 0, .int .i64 0] 25)) := by go_grown
  have HO : Hd (w1.alloc (.cells #[.int .i64 1073741824, .int .i64 1073741824, .int .i64 0, .int .i64 0] 25)) w1.heap.size 25 #[.int .i64 1073741824, .int .i64 1073741824, .int .i64 0, .int .i64 0] := by (with_reducible repeat' (first | assumption | (apply hdN; (try simp only [sA, sS, sD]); done) | apply hdA | apply hdD | apply hdS | (apply hdF; case hp => first | (simp; done) | (simp; omega)) | with_unfolding_all rfl))
  go_loopw [6] (fun b wx => ∃ (t : Nat) (k : Int) (x : En.Rc), t ≤ 10 ∧ k = (t : Int) - 1 ∧ b = .int .i64 k ∧ x.ok = true ∧ RowKit.Hid (En.unitFrom m t x = .ok zu) ∧ Hd wx w.heap.size 25 #[.int .i64 0, .int .i64 0, .int .i64 0, .int .i64 0] ∧ Hd wx (w.heap.size + 1) 83 #[.int .i64 0] ∧
      Hd wx w1.heap.size 25 #[.int .i64 x.re.lo, .int .i64 x.re.hi, .int .i64 x.im.lo, .int .i64 x.im.hi] ∧ Below w.heap.size w wx) (fun b _ => (intOf b + 1).toNat)
  case atStart => exact ⟨10, 9, ⟨En.one, ⟨0, 0⟩⟩, by omega, by omega, rfl, by decide, HUN, HR, HG, HO, bw⟩
  case round =>
    clear HR HG HO bw
    obtain ⟨t, k, x, ht, hk, rfl, hx, HUX, HR, HG, HO, bw⟩ := hrel
    have lwr : w.heap.size ≤ wr.heap.size := bw.size
    have ltGr := HG.lt
    cases t with
    | zero =>
      obtain rfl : k = -1 := by omega
      clear hk
      obtain ⟨hcO, hfO⟩ := HO.facts
      obtain ⟨hcR, hfR⟩ := HR.facts
      have hxz : x = zu := by have := HUX.out; injection this
      subst hxz
      go_wp2_with fail
      refine (rdone_any x 0 _ _ HG).mono ?_
      rintro e w61 ⟨rfl, hb61⟩
      replace bw : Below w.heap.size w w61 := below_next bw hb61
      replace HR := HR.call hb61
      replace HG := HG.call hb61
      replace HO := HO.call hb61
      have lw61 : w.heap.size ≤ w61.heap.size := bw.size
      clear hb61
      obtain ⟨hcR, hfR⟩ := HR.facts
      rw [if_pos rfl]
      go_wp2
      refine bodyPost_ret (run_results2 rfl rfl (by (show Hd _ (w.heap.size) 25 #[.int .i64 x.re.lo, .int .i64 x.re.hi, .int .i64 x.im.lo, .int .i64 x.im.hi]); (with_reducible repeat' (first | assumption | (apply hdN; (try simp only [sA, sS, sD]); done) | apply hdA | apply hdD | apply hdS | (apply hdF; case hp => first | (simp; done) | (simp; omega)) | with_unfolding_all rfl))) Try.underlying25 rfl (by kernel_rfl)) rfl ⟨rfl, by go_grown⟩
    | succ v =>
      obtain rfl : k = (v : Int) := by omega
      clear hk
      obtain ⟨hcO, hfO⟩ := HO.facts
      have hvb : (v : Int) < 10 := by omega
      by_cases hbit : m / 2 ^ v % 2 = 1
      · have hb := bit_and m v hm1
        rw [hbit] at hb
        have HB := Lib.hid hbit
        clear hbit
        by_cases h9 : v = 9
        · subst h9
          have hb9 : bits .and .i64 ((m : Int) / 512) 1 = 1 := hb
          have hux := HUX.out
          rw [En.unitFrom_hit HB.out] at hux
          obtain ⟨y, hy, hyz⟩ := En.bind_ok hux
          have HY := Lib.hid hy
          have HYZ := Lib.hid hyz
          clear hux hy hyz
          go_upto_region 11 with fail
          replace HR : Hd (wr.drew) w.heap.size 25 #[.int .i64 0, .int .i64 0, .int .i64 0, .int .i64 0] := by (with_reducible repeat' (first | assumption | (apply hdN; (try simp only [sA, sS, sD]); done) | apply hdA | apply hdD | apply hdS | (apply hdF; case hp => first | (simp; done) | (simp; omega)) | with_unfolding_all rfl))
          replace HG : Hd (wr.drew) (w.heap.size + 1) 83 #[.int .i64 0] := by (with_reducible repeat' (first | assumption | (apply hdN; (try simp only [sA, sS, sD]); done) | apply hdA | apply hdD | apply hdS | (apply hdF; case hp => first | (simp; done) | (simp; omega)) | with_unfolding_all rfl))
          replace HO : Hd (wr.drew) w1.heap.size 25 #[.int .i64 x.re.lo, .int .i64 x.re.hi, .int .i64 x.im.lo, .int .i64 x.im.hi] := by (with_reducible repeat' (first | assumption | (apply hdN; (try simp only [sA, sS, sD]); done) | apply hdA | apply hdD | apply hdS | (apply hdF; case hp => first | (simp; done) | (simp; omega)) | with_unfolding_all rfl))
          replace bw : Below w.heap.size w (wr.drew) := by go_grown
          (refine wp_region_fl (fun w' => Below w.heap.size w w') 1 [(0, 0), (2, 2), (1, 1), (3, 1), (4, 1)] (by kernel_rfl) (by kernel_rfl) (fun c d v a w h => by cases d <;> exact h) bw ?_; simp only [List.map_cons, List.map_nil, List.getD_cons_zero, List.getD_cons_succ, flMark, Nat.reduceEqDiff, ↓reduceIte])
          generalize hW : wr.drew = w11 at HR HG HO bw ⊢
          clear hW
          have lw11 : w.heap.size ≤ w11.heap.size := bw.size
          repeat ((first | with_reducible apply fl_move | with_reducible apply fl_assign | ((with_reducible refine fl_soft (v := ?_) (fun w' hw' => ?_) ?_); rotate_left 1; (focus (have hBw := hw'; go_simp; (try with_reducible rfl); done)))); simp only [Act.put, Act.eval, List.setIfInBounds_toArray, List.set_cons_zero, List.set_cons_succ, Array.getD_eq_getD_getElem?, List.getElem?_toArray, List.getElem?_cons_zero, List.getElem?_cons_succ, Option.getD_some])
          refine fl_both ?_ ?_
          · go_wp2_with fail
            refine (wholem _).mono ?_
            rintro e w12 ⟨rfl, hb12⟩
            replace bw : Below w.heap.size w w12 := below_next bw hb12
            replace HR := HR.call hb12
            replace HG := HG.call hb12
            replace HO := HO.call hb12
            have lw12 : w.heap.size ≤ w12.heap.size := bw.size
            clear hb12
            go_wp2_with fail
            (try refine ⟨bw, ?_⟩)
            repeat ((first | with_reducible apply fl_move | with_reducible apply fl_assign | ((with_reducible refine fl_soft (v := ?_) (fun w' hw' => ?_) ?_); rotate_left 1; (focus (have hBw := hw'; go_simp; (try with_reducible rfl); done)))); simp only [Act.put, Act.eval, List.setIfInBounds_toArray, List.set_cons_zero, List.set_cons_succ, Array.getD_eq_getD_getElem?, List.getElem?_toArray, List.getElem?_cons_zero, List.getElem?_cons_succ, Option.getD_some])
            refine fl_must ?_
            obtain ⟨hcO, hfO⟩ := HO.facts
            go_wp2_with fail
            (try refine ⟨bw, ?_⟩)
            repeat ((first | with_reducible apply fl_move | with_reducible apply fl_assign | ((with_reducible refine fl_soft (v := ?_) (fun w' hw' => ?_) ?_); rotate_left 1; (focus (have hBw := hw'; go_simp; (try with_reducible rfl); done)))); simp only [Act.put, Act.eval, List.setIfInBounds_toArray, List.set_cons_zero, List.set_cons_succ, Array.getD_eq_getD_getElem?, List.getElem?_toArray, List.getElem?_cons_zero, List.getElem?_cons_succ, Option.getD_some])
            repeat ((first | with_reducible apply fl_move | with_reducible apply fl_assign | ((with_reducible refine fl_soft (v := ?_) (fun w' hw' => ?_) ?_); rotate_left 1; (focus (have hBw := hw'; go_simp; (try with_reducible rfl); done)))); simp only [Act.put, Act.eval, List.setIfInBounds_toArray, List.set_cons_zero, List.set_cons_succ, Array.getD_eq_getD_getElem?, List.getElem?_toArray, List.getElem?_cons_zero, List.getElem?_cons_succ, Option.getD_some])
            refine fl_hard ?_
            go_wp2_with fail
            refine (rmul_any x ⟨⟨-1073741824, -1073741824⟩, ⟨0, 0⟩⟩ hx (by decide) 0 (w.heap.size + 1) _ HG).mono ?_
            rintro e w13 ⟨z13, e13, rfl, ok13, qq13, HG13, hb13⟩
            obtain ⟨rfl, rfl⟩ := qq13.sure (bitRc9 ▸ HY.out)
            clear ok13 qq13
            replace bw := But.far bw hb13 (by omega) (by (try simp only [World.size_alloc, World.size_setCell, World.size_drew]); omega)
            replace HR := HR.but hb13 (by omega)
            replace HO := HO.but hb13 (by omega)
            replace HG := HG13
            clear HG13
            have lw13 : w.heap.size ≤ w13.heap.size := bw.size
            clear hb13
            go_wp2_with fail
            (try refine ⟨bw, ?_⟩)
            repeat ((first | with_reducible apply fl_move | with_reducible apply fl_assign | ((with_reducible refine fl_soft (v := ?_) (fun w' hw' => ?_) ?_); rotate_left 1; (focus (have hBw := hw'; go_simp; (try with_reducible rfl); done)))); simp only [Act.put, Act.eval, List.setIfInBounds_toArray, List.set_cons_zero, List.set_cons_succ, Array.getD_eq_getD_getElem?, List.getElem?_toArray, List.getElem?_cons_zero, List.getElem?_cons_succ, Option.getD_some])
            refine fl_hard ?_
            obtain ⟨hcO, hfO⟩ := HO.facts
            go_wp2_with fail
            have PR := HR
            have PG := HG
            have PO := HO
            have Pbw := bw
            replace HR : Hd ((((w13.setCell ⟨w1.heap.size, 0, none⟩ (.int .i64 y.re.lo)).setCell ⟨w1.heap.size, 1, none⟩ (.int .i64 y.re.hi)).setCell ⟨w1.heap.size, 2, none⟩ (.int .i64 y.im.lo)).setCell ⟨w1.heap.size, 3, none⟩ (.int .i64 y.im.hi)) w.heap.size 25 #[.int .i64 0, .int .i64 0, .int .i64 0, .int .i64 0] := by (with_reducible repeat' (first | assumption | (apply hdN; (try simp only [sA, sS, sD]); done) | apply hdA | apply hdD | apply hdS | (apply hdF; case hp => first | (simp; done) | (simp; omega)) | with_unfolding_all rfl))
            replace HG : Hd ((((w13.setCell ⟨w1.heap.size, 0, none⟩ (.int .i64 y.re.lo)).setCell ⟨w1.heap.size, 1, none⟩ (.int .i64 y.re.hi)).setCell ⟨w1.heap.size, 2, none⟩ (.int .i64 y.im.lo)).setCell ⟨w1.heap.size, 3, none⟩ (.int .i64 y.im.hi)) (w.heap.size + 1) 83 #[.int .i64 0] := by (with_reducible repeat' (first | assumption | (apply hdN; (try simp only [sA, sS, sD]); done) | apply hdA | apply hdD | apply hdS | (apply hdF; case hp => first | (simp; done) | (simp; omega)) | with_unfolding_all rfl))
            replace HO : Hd ((((w13.setCell ⟨w1.heap.size, 0, none⟩ (.int .i64 y.re.lo)).setCell ⟨w1.heap.size, 1, none⟩ (.int .i64 y.re.hi)).setCell ⟨w1.heap.size, 2, none⟩ (.int .i64 y.im.lo)).setCell ⟨w1.heap.size, 3, none⟩ (.int .i64 y.im.hi)) w1.heap.size 25 #[.int .i64 y.re.lo, .int .i64 y.re.hi, .int .i64 y.im.lo, .int .i64 y.im.hi] := by (with_reducible repeat' (first | assumption | (apply hdN; (try simp only [sA, sS, sD]); done) | apply hdA | apply hdD | apply hdS | (apply hdF; case hp => first | (simp; done) | (simp; omega)) | with_unfolding_all rfl))
            replace bw : Below w.heap.size w ((((w13.setCell ⟨w1.heap.size, 0, none⟩ (.int .i64 y.re.lo)).setCell ⟨w1.heap.size, 1, none⟩ (.int .i64 y.re.hi)).setCell ⟨w1.heap.size, 2, none⟩ (.int .i64 y.im.lo)).setCell ⟨w1.heap.size, 3, none⟩ (.int .i64 y.im.hi)) := by go_grown
            (try refine ⟨bw, ?_⟩)
            repeat ((first | with_reducible apply fl_move | with_reducible apply fl_assign | ((with_reducible refine fl_soft (v := ?_) (fun w' hw' => ?_) ?_); rotate_left 1; (focus (have hBw := hw'; go_simp; (try with_reducible rfl); done)))); simp only [Act.put, Act.eval, List.setIfInBounds_toArray, List.set_cons_zero, List.set_cons_succ, Array.getD_eq_getD_getElem?, List.getElem?_toArray, List.getElem?_cons_zero, List.getElem?_cons_succ, Option.getD_some])
            refine fl_nil ?_
            go_wp2_with fail
            exact ⟨⟨9, 8, y, by omega, by omega, rfl, En.times_ok HY.out, HYZ, HR, HG, HO, bw⟩, by simp [intOf]⟩
          · obtain ⟨hcO, hfO⟩ := HO.facts
            go_wp2_with fail
            (try refine ⟨bw, ?_⟩)
            repeat ((first | with_reducible apply eag_move | with_reducible apply eag_assign | ((with_reducible refine eag_soft (v := ?_) (fun w' hw' => ?_) ?_); rotate_left 1; (focus (have hBw := hw'; go_simp; (try with_reducible rfl); done)))); simp only [Act.put, Act.eval, List.setIfInBounds_toArray, List.set_cons_zero, List.set_cons_succ, Array.getD_eq_getD_getElem?, List.getElem?_toArray, List.getElem?_cons_zero, List.getElem?_cons_succ, Option.getD_some])
            repeat ((first | with_reducible apply eag_move | with_reducible apply eag_assign | ((with_reducible refine eag_soft (v := ?_) (fun w' hw' => ?_) ?_); rotate_left 1; (focus (have hBw := hw'; go_simp; (try with_reducible rfl); done)))); simp only [Act.put, Act.eval, List.setIfInBounds_toArray, List.set_cons_zero, List.set_cons_succ, Array.getD_eq_getD_getElem?, List.getElem?_toArray, List.getElem?_cons_zero, List.getElem?_cons_succ, Option.getD_some])
            refine eag_hard ?_
            go_wp2_with fail
            refine (wholem _).mono ?_
            rintro e w12 ⟨rfl, hb12⟩
            replace bw : Below w.heap.size w w12 := below_next bw hb12
            replace HR := HR.call hb12
            replace HG := HG.call hb12
            replace HO := HO.call hb12
            have lw12 : w.heap.size ≤ w12.heap.size := bw.size
            clear hb12
            go_wp2_with fail
            (try refine ⟨bw, ?_⟩)
            repeat ((first | with_reducible apply eag_move | with_reducible apply eag_assign | ((with_reducible refine eag_soft (v := ?_) (fun w' hw' => ?_) ?_); rotate_left 1; (focus (have hBw := hw'; go_simp; (try with_reducible rfl); done)))); simp only [Act.put, Act.eval, List.setIfInBounds_toArray, List.set_cons_zero, List.set_cons_succ, Array.getD_eq_getD_getElem?, List.getElem?_toArray, List.getElem?_cons_zero, List.getElem?_cons_succ, Option.getD_some])
            refine eag_hard ?_
            go_wp2_with fail
            refine (rmul_any x ⟨⟨-1073741824, -1073741824⟩, ⟨0, 0⟩⟩ hx (by decide) 0 (w.heap.size + 1) _ HG).mono ?_
            rintro e w13 ⟨z13, e13, rfl, ok13, qq13, HG13, hb13⟩
            obtain ⟨rfl, rfl⟩ := qq13.sure (bitRc9 ▸ HY.out)
            clear ok13 qq13
            replace bw := But.far bw hb13 (by omega) (by (try simp only [World.size_alloc, World.size_setCell, World.size_drew]); omega)
            replace HR := HR.but hb13 (by omega)
            replace HO := HO.but hb13 (by omega)
            replace HG := HG13
            clear HG13
            have lw13 : w.heap.size ≤ w13.heap.size := bw.size
            clear hb13
            go_wp2_with fail
            (try refine ⟨bw, ?_⟩)
            repeat ((first | with_reducible apply eag_move | with_reducible apply eag_assign | ((with_reducible refine eag_soft (v := ?_) (fun w' hw' => ?_) ?_); rotate_left 1; (focus (have hBw := hw'; go_simp; (try with_reducible rfl); done)))); simp only [Act.put, Act.eval, List.setIfInBounds_toArray, List.set_cons_zero, List.set_cons_succ, Array.getD_eq_getD_getElem?, List.getElem?_toArray, List.getElem?_cons_zero, List.getElem?_cons_succ, Option.getD_some])
            refine eag_hard ?_
            obtain ⟨hcO, hfO⟩ := HO.facts
            go_wp2_with fail
            have PR := HR
            have PG := HG
            have PO := HO
            have Pbw := bw
            replace HR : Hd ((((w13.setCell ⟨w1.heap.size, 0, none⟩ (.int .i64 y.re.lo)).setCell ⟨w1.heap.size, 1, none⟩ (.int .i64 y.re.hi)).setCell ⟨w1.heap.size, 2, none⟩ (.int .i64 y.im.lo)).setCell ⟨w1.heap.size, 3, none⟩ (.int .i64 y.im.hi)) w.heap.size 25 #[.int .i64 0, .int .i64 0, .int .i64 0, .int .i64 0] := by (with_reducible repeat' (first | assumption | (apply hdN; (try simp only [sA, sS, sD]); done) | apply hdA | apply hdD | apply hdS | (apply hdF; case hp => first | (simp; done) | (simp; omega)) | with_unfolding_all rfl))
            replace HG : Hd ((((w13.setCell ⟨w1.heap.size, 0, none⟩ (.int .i64 y.re.lo)).setCell ⟨w1.heap.size, 1, none⟩ (.int .i64 y.re.hi)).setCell ⟨w1.heap.size, 2, none⟩ (.int .i64 y.im.lo)).setCell ⟨w1.heap.size, 3, none⟩ (.int .i64 y.im.hi)) (w.heap.size + 1) 83 #[.int .i64 0] := by (with_reducible repeat' (first | assumption | (apply hdN; (try simp only [sA, sS, sD]); done) | apply hdA | apply hdD | apply hdS | (apply hdF; case hp => first | (simp; done) | (simp; omega)) | with_unfolding_all rfl))
            replace HO : Hd ((((w13.setCell ⟨w1.heap.size, 0, none⟩ (.int .i64 y.re.lo)).setCell ⟨w1.heap.size, 1, none⟩ (.int .i64 y.re.hi)).setCell ⟨w1.heap.size, 2, none⟩ (.int .i64 y.im.lo)).setCell ⟨w1.heap.size, 3, none⟩ (.int .i64 y.im.hi)) w1.heap.size 25 #[.int .i64 y.re.lo, .int .i64 y.re.hi, .int .i64 y.im.lo, .int .i64 y.im.hi] := by (with_reducible repeat' (first | assumption | (apply hdN; (try simp only [sA, sS, sD]); done) | apply hdA | apply hdD | apply hdS | (apply hdF; case hp => first | (simp; done) | (simp; omega)) | with_unfolding_all rfl))
            replace bw : Below w.heap.size w ((((w13.setCell ⟨w1.heap.size, 0, none⟩ (.int .i64 y.re.lo)).setCell ⟨w1.heap.size, 1, none⟩ (.int .i64 y.re.hi)).setCell ⟨w1.heap.size, 2, none⟩ (.int .i64 y.im.lo)).setCell ⟨w1.heap.size, 3, none⟩ (.int .i64 y.im.hi)) := by go_grown
            (try refine ⟨bw, ?_⟩)
            repeat ((first | with_reducible apply eag_move | with_reducible apply eag_assign | ((with_reducible refine eag_soft (v := ?_) (fun w' hw' => ?_) ?_); rotate_left 1; (focus (have hBw := hw'; go_simp; (try with_reducible rfl); done)))); simp only [Act.put, Act.eval, List.setIfInBounds_toArray, List.set_cons_zero, List.set_cons_succ, Array.getD_eq_getD_getElem?, List.getElem?_toArray, List.getElem?_cons_zero, List.getElem?_cons_succ, Option.getD_some])
            refine eag_nil ?_
            go_wp2_with fail
            exact ⟨⟨9, 8, y, by omega, by omega, rfl, En.times_ok HY.out, HYZ, HR, HG, HO, bw⟩, by simp [intOf]⟩
        · by_cases h8 : v = 8
          · subst h8
            have hb8 : bits .and .i64 ((m : Int) / 256) 1 = 1 := hb
            have hux := HUX.out
            rw [En.unitFrom_hit HB.out] at hux
            obtain ⟨y, hy, hyz⟩ := En.bind_ok hux
            have HY := Lib.hid hy
            have HYZ := Lib.hid hyz
            clear hux hy hyz
            go_upto_region 13 with fail
            replace HR : Hd (wr.drew) w.heap.size 25 #[.int .i64 0, .int .i64 0, .int .i64 0, .int .i64 0] := by (with_reducible repeat' (first | assumption | (apply hdN; (try simp only [sA, sS, sD]); done) | apply hdA | apply hdD | apply hdS | (apply hdF; case hp => first | (simp; done) | (simp; omega)) | with_unfolding_all rfl))
            replace HG : Hd (wr.drew) (w.heap.size + 1) 83 #[.int .i64 0] := by (with_reducible repeat' (first | assumption | (apply hdN; (try simp only [sA, sS, sD]); done) | apply hdA | apply hdD | apply hdS | (apply hdF; case hp => first | (simp; done) | (simp; omega)) | with_unfolding_all rfl))
            replace HO : Hd (wr.drew) w1.heap.size 25 #[.int .i64 x.re.lo, .int .i64 x.re.hi, .int .i64 x.im.lo, .int .i64 x.im.hi] := by (with_reducible repeat' (first | assumption | (apply hdN; (try simp only [sA, sS, sD]); done) | apply hdA | apply hdD | apply hdS | (apply hdF; case hp => first | (simp; done) | (simp; omega)) | with_unfolding_all rfl))
            replace bw : Below w.heap.size w (wr.drew) := by go_grown
            (refine wp_region_fl (fun w' => Below w.heap.size w w') 1 [(0, 0), (2, 2), (3, 2), (4, 2), (1, 1), (5, 1), (6, 1)] (by kernel_rfl) (by kernel_rfl) (fun c d v a w h => by cases d <;> exact h) bw ?_; simp only [List.map_cons, List.map_nil, List.getD_cons_zero, List.getD_cons_succ, flMark, Nat.reduceEqDiff, ↓reduceIte])
            generalize hW : wr.drew = w11 at HR HG HO bw ⊢
            clear hW
            have lw11 : w.heap.size ≤ w11.heap.size := bw.size
            repeat ((first | with_reducible apply fl_move | with_reducible apply fl_assign | ((with_reducible refine fl_soft (v := ?_) (fun w' hw' => ?_) ?_); rotate_left 1; (focus (have hBw := hw'; go_simp; (try with_reducible rfl); done)))); simp only [Act.put, Act.eval, List.setIfInBounds_toArray, List.set_cons_zero, List.set_cons_succ, Array.getD_eq_getD_getElem?, List.getElem?_toArray, List.getElem?_cons_zero, List.getElem?_cons_succ, Option.getD_some])
            refine fl_both ?_ ?_
            · go_wp2_with fail
              refine (whole1 _).mono ?_
              rintro e w12 ⟨rfl, hb12⟩
              replace bw : Below w.heap.size w w12 := below_next bw hb12
              replace HR := HR.call hb12
              replace HG := HG.call hb12
              replace HO := HO.call hb12
              have lw12 : w.heap.size ≤ w12.heap.size := bw.size
              clear hb12
              go_wp2_with fail
              (try refine ⟨bw, ?_⟩)
              repeat ((first | with_reducible apply fl_move | with_reducible apply fl_assign | ((with_reducible refine fl_soft (v := ?_) (fun w' hw' => ?_) ?_); rotate_left 1; (focus (have hBw := hw'; go_simp; (try with_reducible rfl); done)))); simp only [Act.put, Act.eval, List.setIfInBounds_toArray, List.set_cons_zero, List.set_cons_succ, Array.getD_eq_getD_getElem?, List.getElem?_toArray, List.getElem?_cons_zero, List.getElem?_cons_succ, Option.getD_some])
              refine fl_both ?_ ?_
              · go_wp2_with fail
                (try refine ⟨bw, ?_⟩)
                repeat ((first | with_reducible apply fl_move | with_reducible apply fl_assign | ((with_reducible refine fl_soft (v := ?_) (fun w' hw' => ?_) ?_); rotate_left 1; (focus (have hBw := hw'; go_simp; (try with_reducible rfl); done)))); simp only [Act.put, Act.eval, List.setIfInBounds_toArray, List.set_cons_zero, List.set_cons_succ, Array.getD_eq_getD_getElem?, List.getElem?_toArray, List.getElem?_cons_zero, List.getElem?_cons_succ, Option.getD_some])
                refine fl_both ?_ ?_
                · go_wp2_with fail
                  (try refine ⟨bw, ?_⟩)
                  repeat ((first | with_reducible apply fl_move | with_reducible apply fl_assign | ((with_reducible refine fl_soft (v := ?_) (fun w' hw' => ?_) ?_); rotate_left 1; (focus (have hBw := hw'; go_simp; (try with_reducible rfl); done)))); simp only [Act.put, Act.eval, List.setIfInBounds_toArray, List.set_cons_zero, List.set_cons_succ, Array.getD_eq_getD_getElem?, List.getElem?_toArray, List.getElem?_cons_zero, List.getElem?_cons_succ, Option.getD_some])
                  refine fl_must ?_
                  obtain ⟨hcO, hfO⟩ := HO.facts
                  go_wp2_with fail
                  (try refine ⟨bw, ?_⟩)
                  repeat ((first | with_reducible apply fl_move | with_reducible apply fl_assign | ((with_reducible refine fl_soft (v := ?_) (fun w' hw' => ?_) ?_); rotate_left 1; (focus (have hBw := hw'; go_simp; (try with_reducible rfl); done)))); simp only [Act.put, Act.eval, List.setIfInBounds_toArray, List.set_cons_zero, List.set_cons_succ, Array.getD_eq_getD_getElem?, List.getElem?_toArray, List.getElem?_cons_zero, List.getElem?_cons_succ, Option.getD_some])
                  repeat ((first | with_reducible apply fl_move | with_reducible apply fl_assign | ((with_reducible refine fl_soft (v := ?_) (fun w' hw' => ?_) ?_); rotate_left 1; (focus (have hBw := hw'; go_simp; (try with_reducible rfl); done)))); simp only [Act.put, Act.eval, List.setIfInBounds_toArray, List.set_cons_zero, List.set_cons_succ, Array.getD_eq_getD_getElem?, List.getElem?_toArray, List.getElem?_cons_zero, List.getElem?_cons_succ, Option.getD_some])
                  refine fl_hard ?_
                  go_wp2_with fail
                  refine (rmul_any x ⟨⟨0, 0⟩, ⟨1073741824, 1073741824⟩⟩ hx (by decide) 0 (w.heap.size + 1) _ HG).mono ?_
                  rintro e w13 ⟨z13, e13, rfl, ok13, qq13, HG13, hb13⟩
                  obtain ⟨rfl, rfl⟩ := qq13.sure (bitRc8 ▸ HY.out)
                  clear ok13 qq13
                  replace bw := But.far bw hb13 (by omega) (by (try simp only [World.size_alloc, World.size_setCell, World.size_drew]); omega)
                  replace HR := HR.but hb13 (by omega)
                  replace HO := HO.but hb13 (by omega)
                  replace HG := HG13
                  clear HG13
                  have lw13 : w.heap.size ≤ w13.heap.size := bw.size
                  clear hb13
                  go_wp2_with fail
                  (try refine ⟨bw, ?_⟩)
                  repeat ((first | with_reducible apply fl_move | with_reducible apply fl_assign | ((with_reducible refine fl_soft (v := ?_) (fun w' hw' => ?_) ?_); rotate_left 1; (focus (have hBw := hw'; go_simp; (try with_reducible rfl); done)))); simp only [Act.put, Act.eval, List.setIfInBounds_toArray, List.set_cons_zero, List.set_cons_succ, Array.getD_eq_getD_getElem?, List.getElem?_toArray, List.getElem?_cons_zero, List.getElem?_cons_succ, Option.getD_some])
                  refine fl_hard ?_
                  obtain ⟨hcO, hfO⟩ := HO.facts
                  go_wp2_with fail
                  have PR := HR
                  have PG := HG
                  have PO := HO
                  have Pbw := bw
                  replace HR : Hd ((((w13.setCell ⟨w1.heap.size, 0, none⟩ (.int .i64 y.re.lo)).setCell ⟨w1.heap.size, 1, none⟩ (.int .i64 y.re.hi)).setCell ⟨w1.heap.size, 2, none⟩ (.int .i64 y.im.lo)).setCell ⟨w1.heap.size, 3, none⟩ (.int .i64 y.im.hi)) w.heap.size 25 #[.int .i64 0, .int .i64 0, .int .i64 0, .int .i64 0] := by (with_reducible repeat' (first | assumption | (apply hdN; (try simp only [sA, sS, sD]); done) | apply hdA | apply hdD | apply hdS | (apply hdF; case hp => first | (simp; done) | (simp; omega)) | with_unfolding_all rfl))
                  replace HG : Hd ((((w13.setCell ⟨w1.heap.size, 0, none⟩ (.int .i64 y.re.lo)).setCell ⟨w1.heap.size, 1, none⟩ (.int .i64 y.re.hi)).setCell ⟨w1.heap.size, 2, none⟩ (.int .i64 y.im.lo)).setCell ⟨w1.heap.size, 3, none⟩ (.int .i64 y.im.hi)) (w.heap.size + 1) 83 #[.int .i64 0] := by (with_reducible repeat' (first | assumption | (apply hdN; (try simp only [sA, sS, sD]); done) | apply hdA | apply hdD | apply hdS | (apply hdF; case hp => first | (simp; done) | (simp; omega)) | with_unfolding_all rfl))
                  replace HO : Hd ((((w13.setCell ⟨w1.heap.size, 0, none⟩ (.int .i64 y.re.lo)).setCell ⟨w1.heap.size, 1, none⟩ (.int .i64 y.re.hi)).setCell ⟨w1.heap.size, 2, none⟩ (.int .i64 y.im.lo)).setCell ⟨w1.heap.size, 3, none⟩ (.int .i64 y.im.hi)) w1.heap.size 25 #[.int .i64 y.re.lo, .int .i64 y.re.hi, .int .i64 y.im.lo, .int .i64 y.im.hi] := by (with_reducible repeat' (first | assumption | (apply hdN; (try simp only [sA, sS, sD]); done) | apply hdA | apply hdD | apply hdS | (apply hdF; case hp => first | (simp; done) | (simp; omega)) | with_unfolding_all rfl))
                  replace bw : Below w.heap.size w ((((w13.setCell ⟨w1.heap.size, 0, none⟩ (.int .i64 y.re.lo)).setCell ⟨w1.heap.size, 1, none⟩ (.int .i64 y.re.hi)).setCell ⟨w1.heap.size, 2, none⟩ (.int .i64 y.im.lo)).setCell ⟨w1.heap.size, 3, none⟩ (.int .i64 y.im.hi)) := by go_grown
                  (try refine ⟨bw, ?_⟩)
                  repeat ((first | with_reducible apply fl_move | with_reducible apply fl_assign | ((with_reducible refine fl_soft (v := ?_) (fun w' hw' => ?_) ?_); rotate_left 1; (focus (have hBw := hw'; go_simp; (try with_reducible rfl); done)))); simp only [Act.put, Act.eval, List.setIfInBounds_toArray, List.set_cons_zero, List.set_cons_succ, Array.getD_eq_getD_getElem?, List.getElem?_toArray, List.getElem?_cons_zero, List.getElem?_cons_succ, Option.getD_some])
                  refine fl_nil ?_
                  go_wp2_with fail
                  exact ⟨⟨8, 7, y, by omega, by omega, rfl, En.times_ok HY.out, HYZ, HR, HG, HO, bw⟩, by simp [intOf]⟩
                · obtain ⟨hcO, hfO⟩ := HO.facts
                  go_wp2_with fail
                  (try refine ⟨bw, ?_⟩)
                  repeat ((first | with_reducible apply eag_move | with_reducible apply eag_assign | ((with_reducible refine eag_soft (v := ?_) (fun w' hw' => ?_) ?_); rotate_left 1; (focus (have hBw := hw'; go_simp; (try with_reducible rfl); done)))); simp only [Act.put, Act.eval, List.setIfInBounds_toArray, List.set_cons_zero, List.set_cons_succ, Array.getD_eq_getD_getElem?, List.getElem?_toArray, List.getElem?_cons_zero, List.getElem?_cons_succ, Option.getD_some])
                  repeat ((first | with_reducible apply eag_move | with_reducible apply eag_assign | ((with_reducible refine eag_soft (v := ?_) (fun w' hw' => ?_) ?_); rotate_left 1; (focus (have hBw := hw'; go_simp; (try with_reducible rfl); done)))); simp only [Act.put, Act.eval, List.setIfInBounds_toArray, List.set_cons_zero, List.set_cons_succ, Array.getD_eq_getD_getElem?, List.getElem?_toArray, List.getElem?_cons_zero, List.getElem?_cons_succ, Option.getD_some])
                  refine eag_hard ?_
                  go_wp2_with fail
                  (try refine ⟨bw, ?_⟩)
                  repeat ((first | with_reducible apply eag_move | with_reducible apply eag_assign | ((with_reducible refine eag_soft (v := ?_) (fun w' hw' => ?_) ?_); rotate_left 1; (focus (have hBw := hw'; go_simp; (try with_reducible rfl); done)))); simp only [Act.put, Act.eval, List.setIfInBounds_toArray, List.set_cons_zero, List.set_cons_succ, Array.getD_eq_getD_getElem?, List.getElem?_toArray, List.getElem?_cons_zero, List.getElem?_cons_succ, Option.getD_some])
                  refine eag_hard ?_
                  go_wp2_with fail
                  refine (rmul_any x ⟨⟨0, 0⟩, ⟨1073741824, 1073741824⟩⟩ hx (by decide) 0 (w.heap.size + 1) _ HG).mono ?_
                  rintro e w13 ⟨z13, e13, rfl, ok13, qq13, HG13, hb13⟩
                  obtain ⟨rfl, rfl⟩ := qq13.sure (bitRc8 ▸ HY.out)
                  clear ok13 qq13
                  replace bw := But.far bw hb13 (by omega) (by (try simp only [World.size_alloc, World.size_setCell, World.size_drew]); omega)
                  replace HR := HR.but hb13 (by omega)
                  replace HO := HO.but hb13 (by omega)
                  replace HG := HG13
                  clear HG13
                  have lw13 : w.heap.size ≤ w13.heap.size := bw.size
                  clear hb13
                  go_wp2_with fail
                  (try refine ⟨bw, ?_⟩)
                  repeat ((first | with_reducible apply eag_move | with_reducible apply eag_assign | ((with_reducible refine eag_soft (v := ?_) (fun w' hw' => ?_) ?_); rotate_left 1; (focus (have hBw := hw'; go_simp; (try with_reducible rfl); done)))); simp only [Act.put, Act.eval, List.setIfInBounds_toArray, List.set_cons_zero, List.set_cons_succ, Array.getD_eq_getD_getElem?, List.getElem?_toArray, List.getElem?_cons_zero, List.getElem?_cons_succ, Option.getD_some])
                  refine eag_hard ?_
                  obtain ⟨hcO, hfO⟩ := HO.facts
                  go_wp2_with fail
                  have PR := HR
                  have PG := HG
                  have PO := HO
                  have Pbw := bw
                  replace HR : Hd ((((w13.setCell ⟨w1.heap.size, 0, none⟩ (.int .i64 y.re.lo)).setCell ⟨w1.heap.size, 1, none⟩ (.int .i64 y.re.hi)).setCell ⟨w1.heap.size, 2, none⟩ (.int .i64 y.im.lo)).setCell ⟨w1.heap.size, 3, none⟩ (.int .i64 y.im.hi)) w.heap.size 25 #[.int .i64 0, .int .i64 0, .int .i64 0, .int .i64 0] := by (with_reducible repeat' (first | assumption | (apply hdN; (try simp only [sA, sS, sD]); done) | apply hdA | apply hdD | apply hdS | (apply hdF; case hp => first | (simp; done) | (simp; omega)) | with_unfolding_all rfl))
                  replace HG : Hd ((((w13.setCell ⟨w1.heap.size, 0, none⟩ (.int .i64 y.re.lo)).setCell ⟨w1.heap.size, 1, none⟩ (.int .i64 y.re.hi)).setCell ⟨w1.heap.size, 2, none⟩ (.int .i64 y.im.lo)).setCell ⟨w1.heap.size, 3, none⟩ (.int .i64 y.im.hi)) (w.heap.size + 1) 83 #[.int .i64 0] := by (with_reducible repeat' (first | assumption | (apply hdN; (try simp only [sA, sS, sD]); done) | apply hdA | apply hdD | apply hdS | (apply hdF; case hp => first | (simp; done) | (simp; omega)) | with_unfolding_all rfl))
                  replace HO : Hd ((((w13.setCell ⟨w1.heap.size, 0, none⟩ (.int .i64 y.re.lo)).setCell ⟨w1.heap.size, 1, none⟩ (.int .i64 y.re.hi)).setCell ⟨w1.heap.size, 2, none⟩ (.int .i64 y.im.lo)).setCell ⟨w1.heap.size, 3, none⟩ (.int .i64 y.im.hi)) w1.heap.size 25 #[.int .i64 y.re.lo, .int .i64 y.re.hi, .int .i64 y.im.lo, .int .i64 y.im.hi] := by (with_reducible repeat' (first | assumption | (apply hdN; (try simp only [sA, sS, sD]); done) | apply hdA | apply hdD | apply hdS | (apply hdF; case hp => first | (simp; done) | (simp; omega)) | with_unfolding_all rfl))
                  replace bw : Below w.heap.size w ((((w13.setCell ⟨w1.heap.size, 0, none⟩ (.int .i64 y.re.lo)).setCell ⟨w1.heap.size, 1, none⟩ (.int .i64 y.re.hi)).setCell ⟨w1.heap.size, 2, none⟩ (.int .i64 y.im.lo)).setCell ⟨w1.heap.size, 3, none⟩ (.int .i64 y.im.hi)) := by go_grown
                  (try refine ⟨bw, ?_⟩)
                  repeat ((first | with_reducible apply eag_move | with_reducible apply eag_assign | ((with_reducible refine eag_soft (v := ?_) (fun w' hw' => ?_) ?_); rotate_left 1; (focus (have hBw := hw'; go_simp; (try with_reducible rfl); done)))); simp only [Act.put, Act.eval, List.setIfInBounds_toArray, List.set_cons_zero, List.set_cons_succ, Array.getD_eq_getD_getElem?, List.getElem?_toArray, List.getElem?_cons_zero, List.getElem?_cons_succ, Option.getD_some])
                  refine eag_nil ?_
                  go_wp2_with fail
                  exact ⟨⟨8, 7, y, by omega, by omega, rfl, En.times_ok HY.out, HYZ, HR, HG, HO, bw⟩, by simp [intOf]⟩
              · obtain ⟨hcO, hfO⟩ := HO.facts
                go_wp2_with fail
                (try refine ⟨bw, ?_⟩)
                repeat ((first | with_reducible apply eag_move | with_reducible apply eag_assign | ((with_reducible refine eag_soft (v := ?_) (fun w' hw' => ?_) ?_); rotate_left 1; (focus (have hBw := hw'; go_simp; (try with_reducible rfl); done)))); simp only [Act.put, Act.eval, List.setIfInBounds_toArray, List.set_cons_zero, List.set_cons_succ, Array.getD_eq_getD_getElem?, List.getElem?_toArray, List.getElem?_cons_zero, List.getElem?_cons_succ, Option.getD_some])
                repeat ((first | with_reducible apply eag_move | with_reducible apply eag_assign | ((with_reducible refine eag_soft (v := ?_) (fun w' hw' => ?_) ?_); rotate_left 1; (focus (have hBw := hw'; go_simp; (try with_reducible rfl); done)))); simp only [Act.put, Act.eval, List.setIfInBounds_toArray, List.set_cons_zero, List.set_cons_succ, Array.getD_eq_getD_getElem?, List.getElem?_toArray, List.getElem?_cons_zero, List.getElem?_cons_succ, Option.getD_some])
                refine eag_hard ?_
                go_wp2_with fail
                (try refine ⟨bw, ?_⟩)
                repeat ((first | with_reducible apply eag_move | with_reducible apply eag_assign | ((with_reducible refine eag_soft (v := ?_) (fun w' hw' => ?_) ?_); rotate_left 1; (focus (have hBw := hw'; go_simp; (try with_reducible rfl); done)))); simp only [Act.put, Act.eval, List.setIfInBounds_toArray, List.set_cons_zero, List.set_cons_succ, Array.getD_eq_getD_getElem?, List.getElem?_toArray, List.getElem?_cons_zero, List.getElem?_cons_succ, Option.getD_some])
                refine eag_hard ?_
                go_wp2_with fail
                (try refine ⟨bw, ?_⟩)
                repeat ((first | with_reducible apply eag_move | with_reducible apply eag_assign | ((with_reducible refine eag_soft (v := ?_) (fun w' hw' => ?_) ?_); rotate_left 1; (focus (have hBw := hw'; go_simp; (try with_reducible rfl); done)))); simp only [Act.put, Act.eval, List.setIfInBounds_toArray, List.set_cons_zero, List.set_cons_succ, Array.getD_eq_getD_getElem?, List.getElem?_toArray, List.getElem?_cons_zero, List.getElem?_cons_succ, Option.getD_some])
                refine eag_hard ?_
                go_wp2_with fail
                refine (rmul_any x ⟨⟨0, 0⟩, ⟨1073741824, 1073741824⟩⟩ hx (by decide) 0 (w.heap.size + 1) _ HG).mono ?_
                rintro e w13 ⟨z13, e13, rfl, ok13, qq13, HG13, hb13⟩
                obtain ⟨rfl, rfl⟩ := qq13.sure (bitRc8 ▸ HY.out)
                clear ok13 qq13
                replace bw := But.far bw hb13 (by omega) (by (try simp only [World.size_alloc, World.size_setCell, World.size_drew]); omega)
                replace HR := HR.but hb13 (by omega)
                replace HO := HO.but hb13 (by omega)
                replace HG := HG13
                clear HG13
                have lw13 : w.heap.size ≤ w13.heap.size := bw.size
                clear hb13
                go_wp2_with fail
                (try refine ⟨bw, ?_⟩)
                repeat ((first | with_reducible apply eag_move | with_reducible apply eag_assign | ((with_reducible refine eag_soft (v := ?_) (fun w' hw' => ?_) ?_); rotate_left 1; (focus (have hBw := hw'; go_simp; (try with_reducible rfl); done)))); simp only [Act.put, Act.eval, List.setIfInBounds_toArray, List.set_cons_zero, List.set_cons_succ, Array.getD_eq_getD_getElem?, List.getElem?_toArray, List.getElem?_cons_zero, List.getElem?_cons_succ, Option.getD_some])
                refine eag_hard ?_
                obtain ⟨hcO, hfO⟩ := HO.facts
                go_wp2_with fail
                have PR := HR
                have PG := HG
                have PO := HO
                have Pbw := bw
                replace HR : Hd ((((w13.setCell ⟨w1.heap.size, 0, none⟩ (.int .i64 y.re.lo)).setCell ⟨w1.heap.size, 1, none⟩ (.int .i64 y.re.hi)).setCell ⟨w1.heap.size, 2, none⟩ (.int .i64 y.im.lo)).setCell ⟨w1.heap.size, 3, none⟩ (.int .i64 y.im.hi)) w.heap.size 25 #[.int .i64 0, .int .i64 0, .int .i64 0, .int .i64 0] := by (with_reducible repeat' (first | assumption | (apply hdN; (try simp only [sA, sS, sD]); done) | apply hdA | apply hdD | apply hdS | (apply hdF; case hp => first | (simp; done) | (simp; omega)) | with_unfolding_all rfl))
                replace HG : Hd ((((w13.setCell ⟨w1.heap.size, 0, none⟩ (.int .i64 y.re.lo)).setCell ⟨w1.heap.size, 1, none⟩ (.int .i64 y.re.hi)).setCell ⟨w1.heap.size, 2, none⟩ (.int .i64 y.im.lo)).setCell ⟨w1.heap.size, 3, none⟩ (.int .i64 y.im.hi)) (w.heap.size + 1) 83 #[.int .i64 0] := by (with_reducible repeat' (first | assumption | (apply hdN; (try simp only [sA, sS, sD]); done) | apply hdA | apply hdD | apply hdS | (apply hdF; case hp => first | (simp; done) | (simp; omega)) | with_unfolding_all rfl))
                replace HO : Hd ((((w13.setCell ⟨w1.heap.size, 0, none⟩ (.int .i64 y.re.lo)).setCell ⟨w1.heap.size, 1, none⟩ (.int .i64 y.re.hi)).setCell ⟨w1.heap.size, 2, none⟩ (.int .i64 y.im.lo)).setCell ⟨w1.heap.size, 3, none⟩ (.int .i64 y.im.hi)) w1.heap.size 25 #[.int .i64 y.re.lo, .int .i64 y.re.hi, .int .i64 y.im.lo, .int .i64 y.im.hi] := by (with_reducible repeat' (first | assumption | (apply hdN; (try simp only [sA, sS, sD]); done) | apply hdA | apply hdD | apply hdS | (apply hdF; case hp => first | (simp; done) | (simp; omega)) | with_unfolding_all rfl))
                replace bw : Below w.heap.size w ((((w13.setCell ⟨w1.heap.size, 0, none⟩ (.int .i64 y.re.lo)).setCell ⟨w1.heap.size, 1, none⟩ (.int .i64 y.re.hi)).setCell ⟨w1.heap.size, 2, none⟩ (.int .i64 y.im.lo)).setCell ⟨w1.heap.size, 3, none⟩ (.int .i64 y.im.hi)) := by go_grown
                (try refine ⟨bw, ?_⟩)
                repeat ((first | with_reducible apply eag_move | with_reducible apply eag_assign | ((with_reducible refine eag_soft (v := ?_) (fun w' hw' => ?_) ?_); rotate_left 1; (focus (have hBw := hw'; go_simp; (try with_reducible rfl); done)))); simp only [Act.put, Act.eval, List.setIfInBounds_toArray, List.set_cons_zero, List.set_cons_succ, Array.getD_eq_getD_getElem?, List.getElem?_toArray, List.getElem?_cons_zero, List.getElem?_cons_succ, Option.getD_some])
                refine eag_nil ?_
                go_wp2_with fail
                exact ⟨⟨8, 7, y, by omega, by omega, rfl, En.times_ok HY.out, HYZ, HR, HG, HO, bw⟩, by simp [intOf]⟩
            · obtain ⟨hcO, hfO⟩ := HO.facts
              go_wp2_with fail
              (try refine ⟨bw, ?_⟩)
              repeat ((first | with_reducible apply eag_move | with_reducible apply eag_assign | ((with_reducible refine eag_soft (v := ?_) (fun w' hw' => ?_) ?_); rotate_left 1; (focus (have hBw := hw'; go_simp; (try with_reducible rfl); done)))); simp only [Act.put, Act.eval, List.setIfInBounds_toArray, List.set_cons_zero, List.set_cons_succ, Array.getD_eq_getD_getElem?, List.getElem?_toArray, List.getElem?_cons_zero, List.getElem?_cons_succ, Option.getD_some])
              repeat ((first | with_reducible apply eag_move | with_reducible apply eag_assign | ((with_reducible refine eag_soft (v := ?_) (fun w' hw' => ?_) ?_); rotate_left 1; (focus (have hBw := hw'; go_simp; (try with_reducible rfl); done)))); simp only [Act.put, Act.eval, List.setIfInBounds_toArray, List.set_cons_zero, List.set_cons_succ, Array.getD_eq_getD_getElem?, List.getElem?_toArray, List.getElem?_cons_zero, List.getElem?_cons_succ, Option.getD_some])
              refine eag_hard ?_
              go_wp2_with fail
              refine (whole1 _).mono ?_
              rintro e w12 ⟨rfl, hb12⟩
              replace bw : Below w.heap.size w w12 := below_next bw hb12
              replace HR := HR.call hb12
              replace HG := HG.call hb12
              replace HO := HO.call hb12
              have lw12 : w.heap.size ≤ w12.heap.size := bw.size
              clear hb12
              go_wp2_with fail
              (try refine ⟨bw, ?_⟩)
              repeat ((first | with_reducible apply eag_move | with_reducible apply eag_assign | ((with_reducible refine eag_soft (v := ?_) (fun w' hw' => ?_) ?_); rotate_left 1; (focus (have hBw := hw'; go_simp; (try with_reducible rfl); done)))); simp only [Act.put, Act.eval, List.setIfInBounds_toArray, List.set_cons_zero, List.set_cons_succ, Array.getD_eq_getD_getElem?, List.getElem?_toArray, List.getElem?_cons_zero, List.getElem?_cons_succ, Option.getD_some])
              refine eag_hard ?_
              go_wp2_with fail
              (try refine ⟨bw, ?_⟩)
              repeat ((first | with_reducible apply eag_move | with_reducible apply eag_assign | ((with_reducible refine eag_soft (v := ?_) (fun w' hw' => ?_) ?_); rotate_left 1; (focus (have hBw := hw'; go_simp; (try with_reducible rfl); done)))); simp only [Act.put, Act.eval, List.setIfInBounds_toArray, List.set_cons_zero, List.set_cons_succ, Array.getD_eq_getD_getElem?, List.getElem?_toArray, List.getElem?_cons_zero, List.getElem?_cons_succ, Option.getD_some])
              refine eag_hard ?_
              go_wp2_with fail
              (try refine ⟨bw, ?_⟩)
              repeat ((first | with_reducible apply eag_move | with_reducible apply eag_assign | ((with_reducible refine eag_soft (v := ?_) (fun w' hw' => ?_) ?_); rotate_left 1; (focus (have hBw := hw'; go_simp; (try with_reducible rfl); done)))); simp only [Act.put, Act.eval, List.setIfInBounds_toArray, List.set_cons_zero, List.set_cons_succ, Array.getD_eq_getD_getElem?, List.getElem?_toArray, List.getElem?_cons_zero, List.getElem?_cons_succ, Option.getD_some])
              refine eag_hard ?_
              go_wp2_with fail
              refine (rmul_any x ⟨⟨0, 0⟩, ⟨1073741824, 1073741824⟩⟩ hx (by decide) 0 (w.heap.size + 1) _ HG).mono ?_
              rintro e w13 ⟨z13, e13, rfl, ok13, qq13, HG13, hb13⟩
              obtain ⟨rfl, rfl⟩ := qq13.sure (bitRc8 ▸ HY.out)
              clear ok13 qq13
              replace bw := But.far bw hb13 (by omega) (by (try simp only [World.size_alloc, World.size_setCell, World.size_drew]); omega)
              replace HR := HR.but hb13 (by omega)
              replace HO := HO.but hb13 (by omega)
              replace HG := HG13
              clear HG13
              have lw13 : w.heap.size ≤ w13.heap.size := bw.size
              clear hb13
              go_wp2_with fail
              (try refine ⟨bw, ?_⟩)
              repeat ((first | with_reducible apply eag_move | with_reducible apply eag_assign | ((with_reducible refine eag_soft (v := ?_) (fun w' hw' => ?_) ?_); rotate_left 1; (focus (have hBw := hw'; go_simp; (try with_reducible rfl); done)))); simp only [Act.put, Act.eval, List.setIfInBounds_toArray, List.set_cons_zero, List.set_cons_succ, Array.getD_eq_getD_getElem?, List.getElem?_toArray, List.getElem?_cons_zero, List.getElem?_cons_succ, Option.getD_some])
              refine eag_hard ?_
              obtain ⟨hcO, hfO⟩ := HO.facts
              go_wp2_with fail
              have PR := HR
              have PG := HG
              have PO := HO
              have Pbw := bw
              replace HR : Hd ((((w13.setCell ⟨w1.heap.size, 0, none⟩ (.int .i64 y.re.lo)).setCell ⟨w1.heap.size, 1, none⟩ (.int .i64 y.re.hi)).setCell ⟨w1.heap.size, 2, none⟩ (.int .i64 y.im.lo)).setCell ⟨w1.heap.size, 3, none⟩ (.int .i64 y.im.hi)) w.heap.size 25 #[.int .i64 0, .int .i64 0, .int .i64 0, .int .i64 0] := by (with_reducible repeat' (first | assumption | (apply hdN; (try simp only [sA, sS, sD]); done) | apply hdA | apply hdD | apply hdS | (apply hdF; case hp => first | (simp; done) | (simp; omega)) | with_unfolding_all rfl))
              replace HG : Hd ((((w13.setCell ⟨w1.heap.size, 0, none⟩ (.int .i64 y.re.lo)).setCell ⟨w1.heap.size, 1, none⟩ (.int .i64 y.re.hi)).setCell ⟨w1.heap.size, 2, none⟩ (.int .i64 y.im.lo)).setCell ⟨w1.heap.size, 3, none⟩ (.int .i64 y.im.hi)) (w.heap.size + 1) 83 #[.int .i64 0] := by (with_reducible repeat' (first | assumption | (apply hdN; (try simp only [sA, sS, sD]); done) | apply hdA | apply hdD | apply hdS | (apply hdF; case hp => first | (simp; done) | (simp; omega)) | with_unfolding_all rfl))
              replace HO : Hd ((((w13.setCell ⟨w1.heap.size, 0, none⟩ (.int .i64 y.re.lo)).setCell ⟨w1.heap.size, 1, none⟩ (.int .i64 y.re.hi)).setCell ⟨w1.heap.size, 2, none⟩ (.int .i64 y.im.lo)).setCell ⟨w1.heap.size, 3, none⟩ (.int .i64 y.im.hi)) w1.heap.size 25 #[.int .i64 y.re.lo, .int .i64 y.re.hi, .int .i64 y.im.lo, .int .i64 y.im.hi] := by (with_reducible repeat' (first | assumption | (apply hdN; (try simp only [sA, sS, sD]); done) | apply hdA | apply hdD | apply hdS | (apply hdF; case hp => first | (simp; done) | (simp; omega)) | with_unfolding_all rfl))
              replace bw : Below w.heap.size w ((((w13.setCell ⟨w1.heap.size, 0, none⟩ (.int .i64 y.re.lo)).setCell ⟨w1.heap.size, 1, none⟩ (.int .i64 y.re.hi)).setCell ⟨w1.heap.size, 2, none⟩ (.int .i64 y.im.lo)).setCell ⟨w1.heap.size, 3, none⟩ (.int .i64 y.im.hi)) := by go_grown
              (try refine ⟨bw, ?_⟩)
              repeat ((first | with_reducible apply eag_move | with_reducible apply eag_assign | ((with_reducible refine eag_soft (v := ?_) (fun w' hw' => ?_) ?_); rotate_left 1; (focus (have hBw := hw'; go_simp; (try with_reducible rfl); done)))); simp only [Act.put, Act.eval, List.setIfInBounds_toArray, List.set_cons_zero, List.set_cons_succ, Array.getD_eq_getD_getElem?, List.getElem?_toArray, List.getElem?_cons_zero, List.getElem?_cons_succ, Option.getD_some])
              refine eag_nil ?_
              go_wp2_with fail
              exact ⟨⟨8, 7, y, by omega, by omega, rfl, En.times_ok HY.out, HYZ, HR, HG, HO, bw⟩, by simp [intOf]⟩
          · have hn9 : (v : Int) ≠ 9 := by omega
            have hn8 : (v : Int) ≠ 8 := by omega
            have hux := HUX.out
            rw [En.unitFrom_hit HB.out] at hux
            obtain ⟨y, hy, hyz⟩ := En.bind_ok hux
            have HY := Lib.hid hy
            have HYZ := Lib.hid hyz
            clear hux hy hyz
            go_upto_region 9 with fail
            replace HR : Hd (wr.drew) w.heap.size 25 #[.int .i64 0, .int .i64 0, .int .i64 0, .int .i64 0] := by (with_reducible repeat' (first | assumption | (apply hdN; (try simp only [sA, sS, sD]); done) | apply hdA | apply hdD | apply hdS | (apply hdF; case hp => first | (simp; done) | (simp; omega)) | with_unfolding_all rfl))
            replace HG : Hd (wr.drew) (w.heap.size + 1) 83 #[.int .i64 0] := by (with_reducible repeat' (first | assumption | (apply hdN; (try simp only [sA, sS, sD]); done) | apply hdA | apply hdD | apply hdS | (apply hdF; case hp => first | (simp; done) | (simp; omega)) | with_unfolding_all rfl))
            replace HO : Hd (wr.drew) w1.heap.size 25 #[.int .i64 x.re.lo, .int .i64 x.re.hi, .int .i64 x.im.lo, .int .i64 x.im.hi] := by (with_reducible repeat' (first | assumption | (apply hdN; (try simp only [sA, sS, sD]); done) | apply hdA | apply hdD | apply hdS | (apply hdF; case hp => first | (simp; done) | (simp; omega)) | with_unfolding_all rfl))
            replace bw : Below w.heap.size w (wr.drew) := by go_grown
            (refine wp_region_fl (fun w' => Below w.heap.size w w') 1 [(0, 0), (2, 0), (3, 0), (4, 0), (5, 2), (1, 1), (6, 1), (7, 1)] (by kernel_rfl) (by kernel_rfl) (fun c d v a w h => by cases d <;> exact h) bw ?_; simp only [List.map_cons, List.map_nil, List.getD_cons_zero, List.getD_cons_succ, flMark, Nat.reduceEqDiff, ↓reduceIte])
            generalize hW : wr.drew = w11 at HR HG HO bw ⊢
            clear hW
            have lw11 : w.heap.size ≤ w11.heap.size := bw.size
            repeat ((first | with_reducible apply fl_move | with_reducible apply fl_assign | ((with_reducible refine fl_soft (v := ?_) (fun w' hw' => ?_) ?_); rotate_left 1; (focus (have hBw := hw'; go_simp; (try with_reducible rfl); done)))); simp only [Act.put, Act.eval, List.setIfInBounds_toArray, List.set_cons_zero, List.set_cons_succ, Array.getD_eq_getD_getElem?, List.getElem?_toArray, List.getElem?_cons_zero, List.getElem?_cons_succ, Option.getD_some])
            refine fl_both ?_ ?_
            · go_wp2_with fail
              refine (wpoint_any (8 - v) (by omega) (by omega) _ (by omega) (w.heap.size + 1) _ HG).mono ?_
              rintro e w12 ⟨rfl, HG12, hb12⟩
              replace bw := But.far bw hb12 (by omega) (by (try simp only [World.size_alloc, World.size_setCell, World.size_drew]); omega)
              replace HR := HR.but hb12 (by omega)
              replace HO := HO.but hb12 (by omega)
              replace HG := HG12
              clear HG12
              have lw12 : w.heap.size ≤ w12.heap.size := bw.size
              clear hb12
              go_wp2_with fail
              (try refine ⟨bw, ?_⟩)
              repeat ((first | with_reducible apply fl_move | with_reducible apply fl_assign | ((with_reducible refine fl_soft (v := ?_) (fun w' hw' => ?_) ?_); rotate_left 1; (focus (have hBw := hw'; go_simp; (try with_reducible rfl); done)))); simp only [Act.put, Act.eval, List.setIfInBounds_toArray, List.set_cons_zero, List.set_cons_succ, Array.getD_eq_getD_getElem?, List.getElem?_toArray, List.getElem?_cons_zero, List.getElem?_cons_succ, Option.getD_some])
              refine fl_must ?_
              obtain ⟨hcO, hfO⟩ := HO.facts
              go_wp2_with fail
              (try refine ⟨bw, ?_⟩)
              repeat ((first | with_reducible apply fl_move | with_reducible apply fl_assign | ((with_reducible refine fl_soft (v := ?_) (fun w' hw' => ?_) ?_); rotate_left 1; (focus (have hBw := hw'; go_simp; (try with_reducible rfl); done)))); simp only [Act.put, Act.eval, List.setIfInBounds_toArray, List.set_cons_zero, List.set_cons_succ, Array.getD_eq_getD_getElem?, List.getElem?_toArray, List.getElem?_cons_zero, List.getElem?_cons_succ, Option.getD_some])
              repeat ((first | with_reducible apply fl_move | with_reducible apply fl_assign | ((with_reducible refine fl_soft (v := ?_) (fun w' hw' => ?_) ?_); rotate_left 1; (focus (have hBw := hw'; go_simp; (try with_reducible rfl); done)))); simp only [Act.put, Act.eval, List.setIfInBounds_toArray, List.set_cons_zero, List.set_cons_succ, Array.getD_eq_getD_getElem?, List.getElem?_toArray, List.getElem?_cons_zero, List.getElem?_cons_succ, Option.getD_some])
              refine fl_hard ?_
              go_wp2_with fail
              refine (rmul_any x ⟨En.tabC (8 - v), En.tabS (8 - v)⟩ hx (En.Rc.ok_mk (En.tab_ok _).1 (En.tab_ok _).2) 0 (w.heap.size + 1) _ HG).mono ?_
              rintro e w13 ⟨z13, e13, rfl, ok13, qq13, HG13, hb13⟩
              obtain ⟨rfl, rfl⟩ := qq13.sure (by rw [← bitRc_low (by omega)]; exact HY.out)
              clear ok13 qq13
              replace bw := But.far bw hb13 (by omega) (by (try simp only [World.size_alloc, World.size_setCell, World.size_drew]); omega)
              replace HR := HR.but hb13 (by omega)
              replace HO := HO.but hb13 (by omega)
              replace HG := HG13
              clear HG13
              have lw13 : w.heap.size ≤ w13.heap.size := bw.size
              clear hb13
              go_wp2_with fail
              (try refine ⟨bw, ?_⟩)
              repeat ((first | with_reducible apply fl_move | with_reducible apply fl_assign | ((with_reducible refine fl_soft (v := ?_) (fun w' hw' => ?_) ?_); rotate_left 1; (focus (have hBw := hw'; go_simp; (try with_reducible rfl); done)))); simp only [Act.put, Act.eval, List.setIfInBounds_toArray, List.set_cons_zero, List.set_cons_succ, Array.getD_eq_getD_getElem?, List.getElem?_toArray, List.getElem?_cons_zero, List.getElem?_cons_succ, Option.getD_some])
              refine fl_hard ?_
              obtain ⟨hcO, hfO⟩ := HO.facts
              go_wp2_with fail
              have PR := HR
              have PG := HG
              have PO := HO
              have Pbw := bw
              replace HR : Hd ((((w13.setCell ⟨w1.heap.size, 0, none⟩ (.int .i64 y.re.lo)).setCell ⟨w1.heap.size, 1, none⟩ (.int .i64 y.re.hi)).setCell ⟨w1.heap.size, 2, none⟩ (.int .i64 y.im.lo)).setCell ⟨w1.heap.size, 3, none⟩ (.int .i64 y.im.hi)) w.heap.size 25 #[.int .i64 0, .int .i64 0, .int .i64 0, .int .i64 0] := by (with_reducible repeat' (first | assumption | (apply hdN; (try simp only [sA, sS, sD]); done) | apply hdA | apply hdD | apply hdS | (apply hdF; case hp => first | (simp; done) | (simp; omega)) | with_unfolding_all rfl))
              replace HG : Hd ((((w13.setCell ⟨w1.heap.size, 0, none⟩ (.int .i64 y.re.lo)).setCell ⟨w1.heap.size, 1, none⟩ (.int .i64 y.re.hi)).setCell ⟨w1.heap.size, 2, none⟩ (.int .i64 y.im.lo)).setCell ⟨w1.heap.size, 3, none⟩ (.int .i64 y.im.hi)) (w.heap.size + 1) 83 #[.int .i64 0] := by (with_reducible repeat' (first | assumption | (apply hdN; (try simp only [sA, sS, sD]); done) | apply hdA | apply hdD | apply hdS | (apply hdF; case hp => first | (simp; done) | (simp; omega)) | with_unfolding_all rfl))
              replace HO : Hd ((((w13.setCell ⟨w1.heap.size, 0, none⟩ (.int .i64 y.re.lo)).setCell ⟨w1.heap.size, 1, none⟩ (.int .i64 y.re.hi)).setCell ⟨w1.heap.size, 2, none⟩ (.int .i64 y.im.lo)).setCell ⟨w1.heap.size, 3, none⟩ (.int .i64 y.im.hi)) w1.heap.size 25 #[.int .i64 y.re.lo, .int .i64 y.re.hi, .int .i64 y.im.lo, .int .i64 y.im.hi] := by (with_reducible repeat' (first | assumption | (apply hdN; (try simp only [sA, sS, sD]); done) | apply hdA | apply hdD | apply hdS | (apply hdF; case hp => first | (simp; done) | (simp; omega)) | with_unfolding_all rfl))
              replace bw : Below w.heap.size w ((((w13.setCell ⟨w1.heap.size, 0, none⟩ (.int .i64 y.re.lo)).setCell ⟨w1.heap.size, 1, none⟩ (.int .i64 y.re.hi)).setCell ⟨w1.heap.size, 2, none⟩ (.int .i64 y.im.lo)).setCell ⟨w1.heap.size, 3, none⟩ (.int .i64 y.im.hi)) := by go_grown
              (try refine ⟨bw, ?_⟩)
              repeat ((first | with_reducible apply fl_move | with_reducible apply fl_assign | ((with_reducible refine fl_soft (v := ?_) (fun w' hw' => ?_) ?_); rotate_left 1; (focus (have hBw := hw'; go_simp; (try with_reducible rfl); done)))); simp only [Act.put, Act.eval, List.setIfInBounds_toArray, List.set_cons_zero, List.set_cons_succ, Array.getD_eq_getD_getElem?, List.getElem?_toArray, List.getElem?_cons_zero, List.getElem?_cons_succ, Option.getD_some])
              refine fl_nil ?_
              go_wp2_with fail
              exact ⟨⟨v, (v : Int) - 1, y, by omega, by omega, rfl, En.times_ok HY.out, HYZ, HR, HG, HO, bw⟩, by simp [intOf]⟩
            · obtain ⟨hcO, hfO⟩ := HO.facts
              go_wp2_with fail
              (try refine ⟨bw, ?_⟩)
              repeat ((first | with_reducible apply eag_move | with_reducible apply eag_assign | ((with_reducible refine eag_soft (v := ?_) (fun w' hw' => ?_) ?_); rotate_left 1; (focus (have hBw := hw'; go_simp; (try with_reducible rfl); done)))); simp only [Act.put, Act.eval, List.setIfInBounds_toArray, List.set_cons_zero, List.set_cons_succ, Array.getD_eq_getD_getElem?, List.getElem?_toArray, List.getElem?_cons_zero, List.getElem?_cons_succ, Option.getD_some])
              repeat ((first | with_reducible apply eag_move | with_reducible apply eag_assign | ((with_reducible refine eag_soft (v := ?_) (fun w' hw' => ?_) ?_); rotate_left 1; (focus (have hBw := hw'; go_simp; (try with_reducible rfl); done)))); simp only [Act.put, Act.eval, List.setIfInBounds_toArray, List.set_cons_zero, List.set_cons_succ, Array.getD_eq_getD_getElem?, List.getElem?_toArray, List.getElem?_cons_zero, List.getElem?_cons_succ, Option.getD_some])
              refine eag_hard ?_
              go_wp2_with fail
              refine (wpoint_any (8 - v) (by omega) (by omega) _ (by omega) (w.heap.size + 1) _ HG).mono ?_
              rintro e w12 ⟨rfl, HG12, hb12⟩
              replace bw := But.far bw hb12 (by omega) (by (try simp only [World.size_alloc, World.size_setCell, World.size_drew]); omega)
              replace HR := HR.but hb12 (by omega)
              replace HO := HO.but hb12 (by omega)
              replace HG := HG12
              clear HG12
              have lw12 : w.heap.size ≤ w12.heap.size := bw.size
              clear hb12
              go_wp2_with fail
              (try refine ⟨bw, ?_⟩)
              repeat ((first | with_reducible apply eag_move | with_reducible apply eag_assign | ((with_reducible refine eag_soft (v := ?_) (fun w' hw' => ?_) ?_); rotate_left 1; (focus (have hBw := hw'; go_simp; (try with_reducible rfl); done)))); simp only [Act.put, Act.eval, List.setIfInBounds_toArray, List.set_cons_zero, List.set_cons_succ, Array.getD_eq_getD_getElem?, List.getElem?_toArray, List.getElem?_cons_zero, List.getElem?_cons_succ, Option.getD_some])
              refine eag_hard ?_
              go_wp2_with fail
              refine (rmul_any x ⟨En.tabC (8 - v), En.tabS (8 - v)⟩ hx (En.Rc.ok_mk (En.tab_ok _).1 (En.tab_ok _).2) 0 (w.heap.size + 1) _ HG).mono ?_
              rintro e w13 ⟨z13, e13, rfl, ok13, qq13, HG13, hb13⟩
              obtain ⟨rfl, rfl⟩ := qq13.sure (by rw [← bitRc_low (by omega)]; exact HY.out)
              clear ok13 qq13
              replace bw := But.far bw hb13 (by omega) (by (try simp only [World.size_alloc, World.size_setCell, World.size_drew]); omega)
              replace HR := HR.but hb13 (by omega)
              replace HO := HO.but hb13 (by omega)
              replace HG := HG13
              clear HG13
              have lw13 : w.heap.size ≤ w13.heap.size := bw.size
              clear hb13
              go_wp2_with fail
              (try refine ⟨bw, ?_⟩)
              repeat ((first | with_reducible apply eag_move | with_reducible apply eag_assign | ((with_reducible refine eag_soft (v := ?_) (fun w' hw' => ?_) ?_); rotate_left 1; (focus (have hBw := hw'; go_simp; (try with_reducible rfl); done)))); simp only [Act.put, Act.eval, List.setIfInBounds_toArray, List.set_cons_zero, List.set_cons_succ, Array.getD_eq_getD_getElem?, List.getElem?_toArray, List.getElem?_cons_zero, List.getElem?_cons_succ, Option.getD_some])
              refine eag_hard ?_
              obtain ⟨hcO, hfO⟩ := HO.facts
              go_wp2_with fail
              have PR := HR
              have PG := HG
              have PO := HO
              have Pbw := bw
              replace HR : Hd ((((w13.setCell ⟨w1.heap.size, 0, none⟩ (.int .i64 y.re.lo)).setCell ⟨w1.heap.size, 1, none⟩ (.int .i64 y.re.hi)).setCell ⟨w1.heap.size, 2, none⟩ (.int .i64 y.im.lo)).setCell ⟨w1.heap.size, 3, none⟩ (.int .i64 y.im.hi)) w.heap.size 25 #[.int .i64 0, .int .i64 0, .int .i64 0, .int .i64 0] := by (with_reducible repeat' (first | assumption | (apply hdN; (try simp only [sA, sS, sD]); done) | apply hdA | apply hdD | apply hdS | (apply hdF; case hp => first | (simp; done) | (simp; omega)) | with_unfolding_all rfl))
              replace HG : Hd ((((w13.setCell ⟨w1.heap.size, 0, none⟩ (.int .i64 y.re.lo)).setCell ⟨w1.heap.size, 1, none⟩ (.int .i64 y.re.hi)).setCell ⟨w1.heap.size, 2, none⟩ (.int .i64 y.im.lo)).setCell ⟨w1.heap.size, 3, none⟩ (.int .i64 y.im.hi)) (w.heap.size + 1) 83 #[.int .i64 0] := by (with_reducible repeat' (first | assumption | (apply hdN; (try simp only [sA, sS, sD]); done) | apply hdA | apply hdD | apply hdS | (apply hdF; case hp => first | (simp; done) | (simp; omega)) | with_unfolding_all rfl))
              replace HO : Hd ((((w13.setCell ⟨w1.heap.size, 0, none⟩ (.int .i64 y.re.lo)).setCell ⟨w1.heap.size, 1, none⟩ (.int .i64 y.re.hi)).setCell ⟨w1.heap.size, 2, none⟩ (.int .i64 y.im.lo)).setCell ⟨w1.heap.size, 3, none⟩ (.int .i64 y.im.hi)) w1.heap.size 25 #[.int .i64 y.re.lo, .int .i64 y.re.hi, .int .i64 y.im.lo, .int .i64 y.im.hi] := by (with_reducible repeat' (first | assumption | (apply hdN; (try simp only [sA, sS, sD]); done) | apply hdA | apply hdD | apply hdS | (apply hdF; case hp => first | (simp; done) | (simp; omega)) | with_unfolding_all rfl))
              replace bw : Below w.heap.size w ((((w13.setCell ⟨w1.heap.size, 0, none⟩ (.int .i64 y.re.lo)).setCell ⟨w1.heap.size, 1, none⟩ (.int .i64 y.re.hi)).setCell ⟨w1.heap.size, 2, none⟩ (.int .i64 y.im.lo)).setCell ⟨w1.heap.size, 3, none⟩ (.int .i64 y.im.hi)) := by go_grown
              (try refine ⟨bw, ?_⟩)
              repeat ((first | with_reducible apply eag_move | with_reducible apply eag_assign | ((with_reducible refine eag_soft (v := ?_) (fun w' hw' => ?_) ?_); rotate_left 1; (focus (have hBw := hw'; go_simp; (try with_reducible rfl); done)))); simp only [Act.put, Act.eval, List.setIfInBounds_toArray, List.set_cons_zero, List.set_cons_succ, Array.getD_eq_getD_getElem?, List.getElem?_toArray, List.getElem?_cons_zero, List.getElem?_cons_succ, Option.getD_some])
              refine eag_nil ?_
              go_wp2_with fail
              exact ⟨⟨v, (v : Int) - 1, y, by omega, by omega, rfl, En.times_ok HY.out, HYZ, HR, HG, HO, bw⟩, by simp [intOf]⟩
      · have hb := bit_and m v hm1
        rw [show m / 2 ^ v % 2 = 0 by omega] at hb
        have HB := Lib.hid hbit
        clear hbit
        go_wp2_with fail
        exact ⟨⟨v, (v : Int) - 1, x, by omega, by omega, rfl, hx, Lib.hid (by have := HUX.out; rw [En.unitFrom_miss (by have := HB.out; omega)] at this; exact this), HR, HG, HO, bw⟩, by simp [intOf]⟩
end Go.Proofs.Ytpbbbfglecbceaa
