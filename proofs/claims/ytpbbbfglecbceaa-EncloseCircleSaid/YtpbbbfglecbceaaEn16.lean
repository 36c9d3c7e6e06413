/- Package enclose: points of the unit circle. -/
import Derived.Test.YtpbbbfglecbceaaEn8
import Derived.Test.YtpbbbfglecbceaaTr
import Derived.Test.YtpbbbfglecbceaaPl4
import Derived.Deep.Cut
import Derived.Deep.CutRange
namespace Go.Proofs.Ytpbbbfglecbceaa
set_option linter.all false
open Go.RowKit

theorem field_re (a b c d : Int) (w : World) : (Instr.field 25 (.agg #[.int .i64 a, .int .i64 b, .int .i64 c, .int .i64 d]) 0).run Try.prog w = .ok (.agg #[.int .i64 a, .int .i64 b]) w := by kernel_rfl
theorem Post.sure {α : Type} {f : α → Value} {r : En.R α} {w w' : World} {e : Ending} {v : α} (h : Post f r w e w') (hr : r = .ok v) : e = .returned (f v) ∧ Below w.heap.size w w' := by
  obtain ⟨hb, hc⟩ := h.cases
  rcases hc with ⟨s, hs, rfl⟩ | ⟨c, hs, rfl⟩
  · rw [hr] at hs; cases hs; exact ⟨rfl, hb⟩
  · rw [hr] at hs; cases hs
theorem and1023 (n : Int) : bits .and .i64 n 1023 = n % 1024 := by
  simp only [bits, BitVec.toNat_and, BitVec.toNat_ofInt]
  rw [show ((1023 : Int) % ((2 ^ IntKind.i64.bits : Nat) : Int)).toNat = 2 ^ 10 - 1 from rfl, Nat.and_two_pow_sub_one_eq_mod, IntKind.wrap_i64]
  simp only [IntKind.bits]
  omega
theorem point10 (w : World) : Calls Try.prog 78 #[.int .i64 1, .int .i64 0] w fun e w' => e = .returned (.agg #[.int .i64 1073741824, .int .i64 1073741824, .int .i64 0, .int .i64 0]) ∧ Below w.heap.size w w' :=
  (point_any 1 0 (by omega) (by omega) (by omega) (by omega) w).mono fun _ _ h => h.sure (v := ⟨⟨1073741824, 1073741824⟩, ⟨0, 0⟩⟩) (by kernel_rfl)
theorem point00 (w : World) : Calls Try.prog 78 #[.int .i64 0, .int .i64 0] w fun e w' => e = .returned (.agg #[.int .i64 0, .int .i64 0, .int .i64 0, .int .i64 0]) ∧ Below w.heap.size w w' :=
  (point_any 0 0 (by omega) (by omega) (by omega) (by omega) w).mono fun _ _ h => h.sure (v := ⟨⟨0, 0⟩, ⟨0, 0⟩⟩) (by kernel_rfl)
theorem pointm (w : World) : Calls Try.prog 78 #[.int .i64 (-1), .int .i64 0] w fun e w' => e = .returned (.agg #[.int .i64 (-1073741824), .int .i64 (-1073741824), .int .i64 0, .int .i64 0]) ∧ Below w.heap.size w w' :=
  (point_any (-1) 0 (by omega) (by omega) (by omega) (by omega) w).mono fun _ _ h => h.sure (v := ⟨⟨-1073741824, -1073741824⟩, ⟨0, 0⟩⟩) (by kernel_rfl)

/-- The cells of the array of bits of which those below t are still to come. -/
def byCell (t i : Nat) : Int := if i / 4 < t then 0 else (match i % 4 with
  | 0 => (En.bitRc (i / 4)).re.lo
  | 1 => (En.bitRc (i / 4)).re.hi
  | 2 => (En.bitRc (i / 4)).im.lo
  | _ => (En.bitRc (i / 4)).im.hi)
def byArr (t : Nat) : Array Value := ((List.range 40).map fun i => Value.int .i64 (byCell t i)).toArray
theorem byArr_get (t i : Nat) (h : i < 40) : (byArr t)[i]? = some (.int .i64 (byCell t i)) := by
  simp [byArr, List.getElem?_range h, h]
theorem byArr_zero : (#[.int .i64 0, .int .i64 0, .int .i64 0, .int .i64 0, .int .i64 0, .int .i64 0, .int .i64 0, .int .i64 0, .int .i64 0, .int .i64 0, .int .i64 0, .int .i64 0, .int .i64 0, .int .i64 0, .int .i64 0, .int .i64 0, .int .i64 0, .int .i64 0, .int .i64 0, .int .i64 0, .int .i64 0, .int .i64 0, .int .i64 0, .int .i64 0, .int .i64 0, .int .i64 0, .int .i64 0, .int .i64 0, .int .i64 0, .int .i64 0, .int .i64 0, .int .i64 0, .int .i64 0, .int .i64 0, .int .i64 0, .int .i64 0, .int .i64 0, .int .i64 0, .int .i64 0, .int .i64 0] : Array Value) = byArr 10 := by kernel_rfl
theorem byArr_zero_get0 (v : Nat) (h : v < 10) : (byArr 0)[v * 4]? = some (.int .i64 (En.bitRc v).re.lo) := by
  rw [byArr_get 0 _ (by omega)]
  unfold byCell
  rw [if_neg (by omega), show v * 4 / 4 = v by omega, show v * 4 % 4 = 0 by omega]
  rfl
theorem byArr_zero_get1 (v : Nat) (h : v < 10) : (byArr 0)[v * 4 + 1]? = some (.int .i64 (En.bitRc v).re.hi) := by
  rw [byArr_get 0 _ (by omega)]
  unfold byCell
  rw [if_neg (by omega), show (v * 4 + 1) / 4 = v by omega, show (v * 4 + 1) % 4 = 1 by omega]
  rfl
theorem byArr_zero_get2 (v : Nat) (h : v < 10) : (byArr 0)[v * 4 + 2]? = some (.int .i64 (En.bitRc v).im.lo) := by
  rw [byArr_get 0 _ (by omega)]
  unfold byCell
  rw [if_neg (by omega), show (v * 4 + 2) / 4 = v by omega, show (v * 4 + 2) % 4 = 2 by omega]
  rfl
theorem byArr_zero_get3 (v : Nat) (h : v < 10) : (byArr 0)[v * 4 + 3]? = some (.int .i64 (En.bitRc v).im.hi) := by
  rw [byArr_get 0 _ (by omega)]
  unfold byCell
  rw [if_neg (by omega), show (v * 4 + 3) / 4 = v by omega, show (v * 4 + 3) % 4 = 3 by omega]
  rfl
theorem En.unitFrom_hit {m v : Nat} {x : En.Rc} (h : m / 2 ^ v % 2 = 1) : En.unitFrom m (v + 1) x = (En.times x (En.bitRc v) >>= En.unitFrom m v) := if_pos h
theorem bit_and (m v : Nat) (h : m < 1024) : bits .and .i64 ((m : Int) / 2 ^ v) 1 = ((m / 2 ^ v % 2 : Nat) : Int) := by
  have h1 : m / 2 ^ v ≤ m := Nat.div_le_self m (2 ^ v)
  have e : (m : Int) / 2 ^ v = ((m / 2 ^ v : Nat) : Int) := by simp
  rw [e]
  have := bits_mask .i64 63 (by decide) (fun n h0 h1 => by rw [IntKind.wrap_i64]; omega) 1 (by decide) ((m / 2 ^ v : Nat) : Int) (Int.natCast_nonneg _) (by have : ((m / 2 ^ v : Nat) : Int) ≤ (m : Int) := Int.ofNat_le.2 h1; omega)
  rw [show (2 : Int) ^ 1 - 1 = 1 from rfl] at this
  rw [this]
  simp
theorem byArr_put (t : Nat) (h : t < 10) : ((((byArr (t + 1)).setIfInBounds (4 * t) (.int .i64 (En.bitRc t).re.lo)).setIfInBounds (4 * t + 1) (.int .i64 (En.bitRc t).re.hi)).setIfInBounds (4 * t + 2) (.int .i64 (En.bitRc t).im.lo)).setIfInBounds (4 * t + 3) (.int .i64 (En.bitRc t).im.hi) = byArr t := by
  have h' : t = 0 ∨ t = 1 ∨ t = 2 ∨ t = 3 ∨ t = 4 ∨ t = 5 ∨ t = 6 ∨ t = 7 ∨ t = 8 ∨ t = 9 := by omega
  rcases h' with rfl | rfl | rfl | rfl | rfl | rfl | rfl | rfl | rfl | rfl <;> (clear h; refine Eq.trans ?_ (Eq.refl _); kernel_rfl)

set_option maxRecDepth 20000 in
set_option maxHeartbeats 1000000 in
theorem unit_go (n : Int) (m : Nat) (hm : bits .and .i64 n 1023 = (m : Int)) (hm1 : m < 1024) (w : World) : Calls Try.prog 63 #[.int .i64 n] w (Post rcV (En.unitFrom m 10 ⟨En.one, ⟨0, 0⟩⟩) w) := by
  go_enter Try.func63, Try.ntmps63
  go_wp2_with fail
  have HC : Hd ((w.alloc (.cells #[.int .i64 0, .int .i64 0, .int .i64 0, .int .i64 0] 25)).alloc (.cells #[.int .i64 0, .int .i64 0, .int .i64 0, .int .i64 0, .int .i64 0, .int .i64 0, .int .i64 0, .int .i64 0, .int .i64 0, .int .i64 0, .int .i64 0, .int .i64 0, .int .i64 0, .int .i64 0, .int .i64 0, .int .i64 0, .int .i64 0, .int .i64 0, .int .i64 0, .int .i64 0, .int .i64 0, .int .i64 0, .int .i64 0, .int .i64 0, .int .i64 0, .int .i64 0, .int .i64 0, .int .i64 0, .int .i64 0, .int .i64 0, .int .i64 0, .int .i64 0, .int .i64 0, .int .i64 0, .int .i64 0, .int .i64 0, .int .i64 0, .int .i64 0, .int .i64 0, .int .i64 0] 107)) w.heap.size 25 #[.int .i64 0, .int .i64 0, .int .i64 0, .int .i64 0] := hdx
  have HY : Hd ((w.alloc (.cells #[.int .i64 0, .int .i64 0, .int .i64 0, .int .i64 0] 25)).alloc (.cells #[.int .i64 0, .int .i64 0, .int .i64 0, .int .i64 0, .int .i64 0, .int .i64 0, .int .i64 0, .int .i64 0, .int .i64 0, .int .i64 0, .int .i64 0, .int .i64 0, .int .i64 0, .int .i64 0, .int .i64 0, .int .i64 0, .int .i64 0, .int .i64 0, .int .i64 0, .int .i64 0, .int .i64 0, .int .i64 0, .int .i64 0, .int .i64 0, .int .i64 0, .int .i64 0, .int .i64 0, .int .i64 0, .int .i64 0, .int .i64 0, .int .i64 0, .int .i64 0, .int .i64 0, .int .i64 0, .int .i64 0, .int .i64 0, .int .i64 0, .int .i64 0, .int .i64 0, .int .i64 0] 107)) (w.heap.size + 1) 107 #[.int .i64 0, .int .i64 0, .int .i64 0, .int .i64 0, .int .i64 0, .int .i64 0, .int .i64 0, .int .i64 0, .int .i64 0, .int .i64 0, .int .i64 0, .int .i64 0, .int .i64 0, .int .i64 0, .int .i64 0, .int .i64 0, .int .i64 0, .int .i64 0, .int .i64 0, .int .i64 0, .int .i64 0, .int .i64 0, .int .i64 0, .int .i64 0, .int .i64 0, .int .i64 0, .int .i64 0, .int .i64 0, .int .i64 0, .int .i64 0, .int .i64 0, .int .i64 0, .int .i64 0, .int .i64 0, .int .i64 0, .int .i64 0, .int .i64 0, .int .i64 0, .int .i64 0, .int .i64 0] := hdx
  have bw : Below w.heap.size w ((w.alloc (.cells #[.int .i64 0, .int .i64 0, .int .i64 0, .int .i64 0] 25)).alloc (.cells #[.int .i64 0, .int .i64 0, .int .i64 0, .int .i64 0, .int .i64 0, .int .i64 0, .int .i64 0, .int .i64 0, .int .i64 0, .int .i64 0, .int .i64 0, .int .i64 0, .int .i64 0, .int .i64 0, .int .i64 0, .int .i64 0, .int .i64 0, .int .i64 0, .int .i64 0, .int .i64 0, .int .i64 0, .int .i64 0, .int .i64 0, .int .i64 0, .int .i64 0, .int .i64 0, .int .i64 0, .int .i64 0, .int .i64 0, .int .i64 0, .int .i64 0, .int .i64 0, .int .i64 0, .int .i64 0, .int .i64 0, .int .i64 0, .int .i64 0, .int .i64 0, .int .i64 0, .int .i64 0] 107)) := by go_grown
  rw [byArr_zero] at HY
  refine (point10 _).mono ?_
  rintro e w1 ⟨rfl, hb1⟩
  replace bw : Below w.heap.size w w1 := below_next bw hb1
  replace HC := HC.call hb1
  replace HY := HY.call hb1
  have lw1 : w.heap.size ≤ w1.heap.size := bw.size
  clear hb1
  have hfd := field_re
  have ltYw : w.heap.size + 1 < w1.heap.size := HY.lt
  go_upto_region 4 with fail
  go_cut [5, 6] from 14 to 16 (fun c s wx => ∃ gc gs : Nat, c = .pointer (some ⟨gc, 0, none⟩) ∧ s = .pointer (some ⟨gs, 0, none⟩) ∧ w.heap.size + 1 < gc ∧ w.heap.size + 1 < gs ∧ w1.heap.size < gc ∧ w1.heap.size < gs ∧ gc ≠ gs ∧
      Hd wx w.heap.size 25 #[.int .i64 0, .int .i64 0, .int .i64 0, .int .i64 0] ∧ Hd wx (w.heap.size + 1) 107 (byArr 10) ∧ Hd wx w1.heap.size 23 #[.int .i64 1073741824, .int .i64 1073741824] ∧ Hd wx gc 23 #[.int .i64 0, .int .i64 0] ∧ Hd wx gs 23 #[.int .i64 1073741824, .int .i64 1073741824] ∧ Below w.heap.size w wx)
  case rest =>
    clear HC HY bw
    obtain ⟨gc, gs, rfl, rfl, lc, ls, lpc, lps, hne, HC, HY, HP, Hc, Hs, bw⟩ := hcut
    have lwc : w.heap.size ≤ wc.heap.size := bw.size
    go_wp2_with fail
    replace HC : Hd (wc.drew) w.heap.size 25 #[.int .i64 0, .int .i64 0, .int .i64 0, .int .i64 0] := hdx
    replace HY : Hd (wc.drew) (w.heap.size + 1) 107 (byArr 10) := hdx
    replace HP : Hd (wc.drew) w1.heap.size 23 #[.int .i64 1073741824, .int .i64 1073741824] := hdx
    replace Hc : Hd (wc.drew) gc 23 #[.int .i64 0, .int .i64 0] := hdx
    replace Hs : Hd (wc.drew) gs 23 #[.int .i64 1073741824, .int .i64 1073741824] := hdx
    replace bw : Below w.heap.size w (wc.drew) := by go_grown
    (refine wp_region_eag (fun w' => Hd w' w.heap.size 25 #[.int .i64 0, .int .i64 0, .int .i64 0, .int .i64 0] ∧ Hd w' w1.heap.size 23 #[.int .i64 1073741824, .int .i64 1073741824] ∧ Hd w' gc 23 #[.int .i64 0, .int .i64 0] ∧ Hd w' gs 23 #[.int .i64 1073741824, .int .i64 1073741824] ∧ Below w.heap.size w w') [(1, true), (2, true), (3, true), (0, false), (4, true), (5, false), (6, true), (7, false)] (by kernel_rfl) (by kernel_rfl) (fun c d v a w h => by cases d <;> exact h) ⟨HC, HP, Hc, Hs, bw⟩ ?_; simp only [List.map_cons, List.map_nil, List.getD_cons_zero, List.getD_cons_succ, flMark, Nat.reduceEqDiff, ↓reduceIte])
    repeat ((first | with_reducible apply eag_move | with_reducible apply eag_assign | ((with_reducible refine eag_soft (v := ?_) (fun w' hw' => ?_) ?_); rotate_left 1; (focus (obtain ⟨_, _, hc, hs, hBw⟩ := hw'; obtain ⟨hcc, hfc⟩ := hc.facts; obtain ⟨hcs, hfs⟩ := hs.facts; go_simp; (try with_reducible rfl); done)))); simp only [Act.put, Act.eval, qs])
    refine eag_hard ?_
    go_wp2_with fail
    refine (pointm _).mono ?_
    rintro e w2 ⟨rfl, hb2⟩
    replace bw : Below w.heap.size w w2 := below_next bw hb2
    replace HC := HC.call hb2
    replace HY := HY.call hb2
    replace HP := HP.call hb2
    replace Hc := Hc.call hb2
    replace Hs := Hs.call hb2
    have lw2 : w.heap.size ≤ w2.heap.size := bw.size
    clear hb2
    go_wp2_with fail
    (try refine ⟨⟨HC, HP, Hc, Hs, bw⟩, ?_⟩)
    repeat ((first | with_reducible apply eag_move | with_reducible apply eag_assign | ((with_reducible refine eag_soft (v := ?_) (fun w' hw' => ?_) ?_); rotate_left 1; (focus (obtain ⟨_, _, hc, hs, hBw⟩ := hw'; obtain ⟨hcc, hfc⟩ := hc.facts; obtain ⟨hcs, hfs⟩ := hs.facts; go_simp; (try with_reducible rfl); done)))); simp only [Act.put, Act.eval, qs])
    have y36 := HY.cell 36
    have y37 := HY.cell 37
    have y38 := HY.cell 38
    have y39 := HY.cell 39
    rw [byArr_get _ _ (by omega)] at y36 y37 y38 y39
    have hfY := HY.free
    refine eag_hard ?_
    go_wp2_with fail
    have PC := HC
    have PY := HY
    have PP := HP
    have Pc := Hc
    have Ps := Hs
    have Pbw := bw
    replace HC : Hd ((((w2.setCell ⟨(w.heap.size + 1), 36, none⟩ (.int .i64 (-1073741824))).setCell ⟨(w.heap.size + 1), 37, none⟩ (.int .i64 (-1073741824))).setCell ⟨(w.heap.size + 1), 38, none⟩ (.int .i64 0)).setCell ⟨(w.heap.size + 1), 39, none⟩ (.int .i64 0)) w.heap.size 25 #[.int .i64 0, .int .i64 0, .int .i64 0, .int .i64 0] := hdx
    replace HP : Hd ((((w2.setCell ⟨(w.heap.size + 1), 36, none⟩ (.int .i64 (-1073741824))).setCell ⟨(w.heap.size + 1), 37, none⟩ (.int .i64 (-1073741824))).setCell ⟨(w.heap.size + 1), 38, none⟩ (.int .i64 0)).setCell ⟨(w.heap.size + 1), 39, none⟩ (.int .i64 0)) w1.heap.size 23 #[.int .i64 1073741824, .int .i64 1073741824] := hdx
    replace Hc : Hd ((((w2.setCell ⟨(w.heap.size + 1), 36, none⟩ (.int .i64 (-1073741824))).setCell ⟨(w.heap.size + 1), 37, none⟩ (.int .i64 (-1073741824))).setCell ⟨(w.heap.size + 1), 38, none⟩ (.int .i64 0)).setCell ⟨(w.heap.size + 1), 39, none⟩ (.int .i64 0)) gc 23 #[.int .i64 0, .int .i64 0] := hdx
    replace Hs : Hd ((((w2.setCell ⟨(w.heap.size + 1), 36, none⟩ (.int .i64 (-1073741824))).setCell ⟨(w.heap.size + 1), 37, none⟩ (.int .i64 (-1073741824))).setCell ⟨(w.heap.size + 1), 38, none⟩ (.int .i64 0)).setCell ⟨(w.heap.size + 1), 39, none⟩ (.int .i64 0)) gs 23 #[.int .i64 1073741824, .int .i64 1073741824] := hdx
    replace HY : Hd ((((w2.setCell ⟨(w.heap.size + 1), 36, none⟩ (.int .i64 (-1073741824))).setCell ⟨(w.heap.size + 1), 37, none⟩ (.int .i64 (-1073741824))).setCell ⟨(w.heap.size + 1), 38, none⟩ (.int .i64 0)).setCell ⟨(w.heap.size + 1), 39, none⟩ (.int .i64 0)) (w.heap.size + 1) 107 (byArr 9) := by
      rw [← byArr_put 9 (by omega)]
      exact (((PY.set _ _).set _ _).set _ _).set _ _
    replace bw : Below w.heap.size w ((((w2.setCell ⟨(w.heap.size + 1), 36, none⟩ (.int .i64 (-1073741824))).setCell ⟨(w.heap.size + 1), 37, none⟩ (.int .i64 (-1073741824))).setCell ⟨(w.heap.size + 1), 38, none⟩ (.int .i64 0)).setCell ⟨(w.heap.size + 1), 39, none⟩ (.int .i64 0)) := by go_grown
    (try refine ⟨⟨HC, HP, Hc, Hs, bw⟩, ?_⟩)
    generalize hW : (((w2.setCell ⟨(w.heap.size + 1), 36, none⟩ (.int .i64 (-1073741824))).setCell ⟨(w.heap.size + 1), 37, none⟩ (.int .i64 (-1073741824))).setCell ⟨(w.heap.size + 1), 38, none⟩ (.int .i64 0)).setCell ⟨(w.heap.size + 1), 39, none⟩ (.int .i64 0) = w3 at HC HY HP Hc Hs bw ⊢
    clear hW
    have lw3 : w.heap.size ≤ w3.heap.size := bw.size
    repeat ((first | with_reducible apply eag_move | with_reducible apply eag_assign | ((with_reducible refine eag_soft (v := ?_) (fun w' hw' => ?_) ?_); rotate_left 1; (focus (obtain ⟨_, _, hc, hs, hBw⟩ := hw'; obtain ⟨hcc, hfc⟩ := hc.facts; obtain ⟨hcs, hfs⟩ := hs.facts; go_simp; (try with_reducible rfl); done)))); simp only [Act.put, Act.eval, qs])
    have y32 := HY.cell 32
    have y33 := HY.cell 33
    have y34 := HY.cell 34
    have y35 := HY.cell 35
    rw [byArr_get _ _ (by omega)] at y32 y33 y34 y35
    have hfY2 := HY.free
    refine eag_hard ?_
    go_wp2_with fail
    have PC := HC
    have PY := HY
    have PP := HP
    have Pc := Hc
    have Ps := Hs
    have Pbw := bw
    replace HC : Hd ((((w3.setCell ⟨(w.heap.size + 1), 32, none⟩ (.int .i64 0)).setCell ⟨(w.heap.size + 1), 33, none⟩ (.int .i64 0)).setCell ⟨(w.heap.size + 1), 34, none⟩ (.int .i64 1073741824)).setCell ⟨(w.heap.size + 1), 35, none⟩ (.int .i64 1073741824)) w.heap.size 25 #[.int .i64 0, .int .i64 0, .int .i64 0, .int .i64 0] := hdx
    replace HP : Hd ((((w3.setCell ⟨(w.heap.size + 1), 32, none⟩ (.int .i64 0)).setCell ⟨(w.heap.size + 1), 33, none⟩ (.int .i64 0)).setCell ⟨(w.heap.size + 1), 34, none⟩ (.int .i64 1073741824)).setCell ⟨(w.heap.size + 1), 35, none⟩ (.int .i64 1073741824)) w1.heap.size 23 #[.int .i64 1073741824, .int .i64 1073741824] := hdx
    replace Hc : Hd ((((w3.setCell ⟨(w.heap.size + 1), 32, none⟩ (.int .i64 0)).setCell ⟨(w.heap.size + 1), 33, none⟩ (.int .i64 0)).setCell ⟨(w.heap.size + 1), 34, none⟩ (.int .i64 1073741824)).setCell ⟨(w.heap.size + 1), 35, none⟩ (.int .i64 1073741824)) gc 23 #[.int .i64 0, .int .i64 0] := hdx
    replace Hs : Hd ((((w3.setCell ⟨(w.heap.size + 1), 32, none⟩ (.int .i64 0)).setCell ⟨(w.heap.size + 1), 33, none⟩ (.int .i64 0)).setCell ⟨(w.heap.size + 1), 34, none⟩ (.int .i64 1073741824)).setCell ⟨(w.heap.size + 1), 35, none⟩ (.int .i64 1073741824)) gs 23 #[.int .i64 1073741824, .int .i64 1073741824] := hdx
    replace HY : Hd ((((w3.setCell ⟨(w.heap.size + 1), 32, none⟩ (.int .i64 0)).setCell ⟨(w.heap.size + 1), 33, none⟩ (.int .i64 0)).setCell ⟨(w.heap.size + 1), 34, none⟩ (.int .i64 1073741824)).setCell ⟨(w.heap.size + 1), 35, none⟩ (.int .i64 1073741824)) (w.heap.size + 1) 107 (byArr 8) := by
      rw [← byArr_put 8 (by omega)]
      exact (((PY.set _ _).set _ _).set _ _).set _ _
    replace bw : Below w.heap.size w ((((w3.setCell ⟨(w.heap.size + 1), 32, none⟩ (.int .i64 0)).setCell ⟨(w.heap.size + 1), 33, none⟩ (.int .i64 0)).setCell ⟨(w.heap.size + 1), 34, none⟩ (.int .i64 1073741824)).setCell ⟨(w.heap.size + 1), 35, none⟩ (.int .i64 1073741824)) := by go_grown
    (try refine ⟨⟨HC, HP, Hc, Hs, bw⟩, ?_⟩)
    generalize hW : (((w3.setCell ⟨(w.heap.size + 1), 32, none⟩ (.int .i64 0)).setCell ⟨(w.heap.size + 1), 33, none⟩ (.int .i64 0)).setCell ⟨(w.heap.size + 1), 34, none⟩ (.int .i64 1073741824)).setCell ⟨(w.heap.size + 1), 35, none⟩ (.int .i64 1073741824) = w4 at HC HY HP Hc Hs bw ⊢
    clear hW
    have lw4 : w.heap.size ≤ w4.heap.size := bw.size
    refine eag_nil ?_
    clear y36 y37 y38 y39 hfY y32 y33 y34 y35 hfY2 PC PY PP Pc Ps Pbw
    go_wp2
    go_loopw [7] (fun b wr => ∃ (t j : Nat) (k : Int), t + j = 8 ∧ k = (t : Int) - 1 ∧ b = .int .i64 k ∧ Hd wr w.heap.size 25 #[.int .i64 0, .int .i64 0, .int .i64 0, .int .i64 0] ∧ Hd wr (w.heap.size + 1) 107 (byArr t) ∧ Hd wr w1.heap.size 23 #[.int .i64 1073741824, .int .i64 1073741824] ∧
        Hd wr gc 23 #[.int .i64 (En.tabC j).lo, .int .i64 (En.tabC j).hi] ∧ Hd wr gs 23 #[.int .i64 (En.tabS j).lo, .int .i64 (En.tabS j).hi] ∧ Below w.heap.size w wr) (fun b _ => (intOf b + 1).toNat)
    case atStart => exact ⟨8, 0, 7, by omega, by omega, rfl, HC, HY, HP, Hc, Hs, bw⟩
    case round =>
      clear HC HY HP Hc Hs bw
      obtain ⟨t, j, k, htj, hk, rfl, HC, HY, HP, Hc, Hs, bw⟩ := hrel
      cases t with
      | zero =>
        obtain rfl : k = -1 := by omega
        obtain rfl : j = 8 := by omega
        clear htj hk
        have lwr : w.heap.size ≤ wr.heap.size := bw.size
        go_wp2_with fail
        refine (point10 _).mono ?_
        rintro e w31 ⟨rfl, hb31⟩
        replace bw : Below w.heap.size w w31 := below_next bw hb31
        replace HC := HC.call hb31
        replace HY := HY.call hb31
        replace HP := HP.call hb31
        replace Hc := Hc.call hb31
        replace Hs := Hs.call hb31
        have lw31 : w.heap.size ≤ w31.heap.size := bw.size
        clear hb31
        clear HP Hc Hs
        have ltY : w.heap.size + 1 < w31.heap.size := HY.lt
        replace HC : Hd (w31.alloc (.cells #[.int .i64 1073741824, .int .i64 1073741824, .int .i64 0, .int .i64 0] 25)) w.heap.size 25 #[.int .i64 0, .int .i64 0, .int .i64 0, .int .i64 0] := hdx
        replace HY : Hd (w31.alloc (.cells #[.int .i64 1073741824, .int .i64 1073741824, .int .i64 0, .int .i64 0] 25)) (w.heap.size + 1) 107 (byArr 0) := hdx
        replace bw : Below w.heap.size w (w31.alloc (.cells #[.int .i64 1073741824, .int .i64 1073741824, .int .i64 0, .int .i64 0] 25)) := by go_grown
        have HO : Hd (w31.alloc (.cells #[.int .i64 1073741824, .int .i64 1073741824, .int .i64 0, .int .i64 0] 25)) w31.heap.size 25 #[.int .i64 1073741824, .int .i64 1073741824, .int .i64 0, .int .i64 0] := hdx
        go_wp2
        go_loopw [9] (fun b wx => ∃ (t : Nat) (k : Int) (x : En.Rc), t ≤ 10 ∧ k = (t : Int) - 1 ∧ b = .int .i64 k ∧ x.ok = true ∧ En.unitFrom m 10 ⟨En.one, ⟨0, 0⟩⟩ = En.unitFrom m t x ∧ Hd wx w.heap.size 25 #[.int .i64 0, .int .i64 0, .int .i64 0, .int .i64 0] ∧ Hd wx (w.heap.size + 1) 107 (byArr 0) ∧
            Hd wx w31.heap.size 25 #[.int .i64 x.re.lo, .int .i64 x.re.hi, .int .i64 x.im.lo, .int .i64 x.im.hi] ∧ Below w.heap.size w wx) (fun b _ => (intOf b + 1).toNat)
        case atStart => exact ⟨10, 9, ⟨En.one, ⟨0, 0⟩⟩, by omega, by omega, rfl, by decide, rfl, HC, HY, HO, bw⟩
        case round =>
          clear HC HY HO bw
          obtain ⟨t, k, x, ht, hk, rfl, hx, hux, HC, HY, HO, bw⟩ := hrel
          cases t with
          | zero =>
            obtain rfl : k = -1 := by omega
            clear hk
            obtain ⟨hcO, hfO⟩ := HO.facts
            obtain ⟨hcC, hfC⟩ := HC.facts
            have HX := Lib.hid hux
            clear hux
            go_wp2
            refine bodyPost_ret (run_results1 rfl rfl (by (show Hd _ (w.heap.size) 25 #[.int .i64 x.re.lo, .int .i64 x.re.hi, .int .i64 x.im.lo, .int .i64 x.im.hi]); exact hdx) Try.underlying25 rfl (by kernel_rfl)) rfl (post_ok (HX.out.trans rfl) (by go_grown))
          | succ v =>
            obtain rfl : k = (v : Int) := by omega
            clear hk
            have HX := Lib.hid hux
            clear hux
            obtain ⟨hcO, hfO⟩ := HO.facts
            have hvb : (v : Int) < 10 := by omega
            have z0 := byArr_zero_get0 v (by omega)
            have z1 := byArr_zero_get1 v (by omega)
            have z2 := byArr_zero_get2 v (by omega)
            have z3 := byArr_zero_get3 v (by omega)
            go_wp2_with fail
            case roundEnd h =>
              have hb := bit_and m v hm1
              refine ⟨⟨v, (v : Int) - 1, x, by omega, by omega, rfl, hx, ?_, HC, HY, HO, bw⟩, by simp [intOf]⟩
              rw [HX.out]
              refine if_neg ?_
              intro hq
              rw [hb, hq] at h
              exact absurd h (by decide)
            rename_i h
            have hbit : m / 2 ^ v % 2 = 1 := by
              have hb := bit_and m v hm1
              rw [hb] at h
              have h2 := of_decide_eq_true h
              exact Int.ofNat_inj.1 h2
            have HB := Lib.hid hbit
            clear h hbit
            have lwr2 : w.heap.size ≤ wr.heap.size := bw.size
            replace HC : Hd (wr.drew) w.heap.size 25 #[.int .i64 0, .int .i64 0, .int .i64 0, .int .i64 0] := hdx
            replace HY : Hd (wr.drew) (w.heap.size + 1) 107 (byArr 0) := hdx
            replace HO : Hd (wr.drew) w31.heap.size 25 #[.int .i64 x.re.lo, .int .i64 x.re.hi, .int .i64 x.im.lo, .int .i64 x.im.hi] := hdx
            replace bw : Below w.heap.size w (wr.drew) := by go_grown
            (refine wp_region_eag (fun w' => Hd w' w.heap.size 25 #[.int .i64 0, .int .i64 0, .int .i64 0, .int .i64 0] ∧ Hd w' (w.heap.size + 1) 107 (byArr 0) ∧ Below w.heap.size w w') [(1, true), (2, true), (3, true), (0, false), (4, false), (5, false)] (by kernel_rfl) (by kernel_rfl) (fun c d v a w h => by cases d <;> exact h) ⟨HC, HY, bw⟩ ?_; simp only [List.map_cons, List.map_nil, List.getD_cons_zero, List.getD_cons_succ, flMark, Nat.reduceEqDiff, ↓reduceIte])
            repeat ((first | with_reducible apply eag_move | with_reducible apply eag_assign | ((with_reducible refine eag_soft (v := ?_) (fun w' hw' => ?_) ?_); rotate_left 1; (focus (obtain ⟨_, hY, hBw⟩ := hw'; obtain ⟨hcY, hfY⟩ := hY.facts; go_simp; (try with_reducible rfl); done)))); simp only [Act.put, Act.eval, qs])
            obtain ⟨hcO, hfO⟩ := HO.facts
            refine eag_hard ?_
            go_wp2_with fail
            (try refine ⟨⟨HC, HY, bw⟩, ?_⟩)
            refine eag_hard ?_
            go_wp2_with fail
            refine (times_any x (En.bitRc v) (En.Rc.fit_of_ok hx) (En.Rc.fit_of_ok (En.bitRc_ok v)) _).mono ?_
            intro e w41 hp
            obtain ⟨hb41, hcase⟩ := hp.cases
            clear hp
            replace bw : Below w.heap.size w w41 := below_next bw hb41
            replace HC := HC.call hb41
            replace HY := HY.call hb41
            replace HO := HO.call hb41
            have lw41 : w.heap.size ≤ w41.heap.size := bw.size
            clear hb41
            rcases hcase with ⟨s41, hs41, rfl⟩ | ⟨c41, hs41, rfl⟩
            rotate_left
            · exact ⟨rfl, post_err (by rw [HX.out, En.unitFrom_hit HB.out, hs41]; rfl) bw⟩
            go_wp2_with fail
            (try refine ⟨⟨HC, HY, bw⟩, ?_⟩)
            repeat ((first | with_reducible apply eag_move | with_reducible apply eag_assign | ((with_reducible refine eag_soft (v := ?_) (fun w' hw' => ?_) ?_); rotate_left 1; (focus (obtain ⟨_, hY, hBw⟩ := hw'; obtain ⟨hcY, hfY⟩ := hY.facts; go_simp; (try with_reducible rfl); done)))); simp only [Act.put, Act.eval, qs])
            obtain ⟨hcO, hfO⟩ := HO.facts
            refine eag_hard ?_
            go_wp2_with fail
            have PC := HC
            have PY := HY
            have PO := HO
            have Pbw := bw
            replace HC : Hd ((((w41.setCell ⟨w31.heap.size, 0, none⟩ (Value.int .i64 s41.re.lo)).setCell ⟨w31.heap.size, 1, none⟩ (Value.int .i64 s41.re.hi)).setCell ⟨w31.heap.size, 2, none⟩ (Value.int .i64 s41.im.lo)).setCell ⟨w31.heap.size, 3, none⟩ (Value.int .i64 s41.im.hi)) w.heap.size 25 #[.int .i64 0, .int .i64 0, .int .i64 0, .int .i64 0] := hdx
            replace HY : Hd ((((w41.setCell ⟨w31.heap.size, 0, none⟩ (Value.int .i64 s41.re.lo)).setCell ⟨w31.heap.size, 1, none⟩ (Value.int .i64 s41.re.hi)).setCell ⟨w31.heap.size, 2, none⟩ (Value.int .i64 s41.im.lo)).setCell ⟨w31.heap.size, 3, none⟩ (Value.int .i64 s41.im.hi)) (w.heap.size + 1) 107 (byArr 0) := hdx
            replace HO : Hd ((((w41.setCell ⟨w31.heap.size, 0, none⟩ (Value.int .i64 s41.re.lo)).setCell ⟨w31.heap.size, 1, none⟩ (Value.int .i64 s41.re.hi)).setCell ⟨w31.heap.size, 2, none⟩ (Value.int .i64 s41.im.lo)).setCell ⟨w31.heap.size, 3, none⟩ (Value.int .i64 s41.im.hi)) w31.heap.size 25 #[.int .i64 s41.re.lo, .int .i64 s41.re.hi, .int .i64 s41.im.lo, .int .i64 s41.im.hi] := hdx
            replace bw : Below w.heap.size w ((((w41.setCell ⟨w31.heap.size, 0, none⟩ (Value.int .i64 s41.re.lo)).setCell ⟨w31.heap.size, 1, none⟩ (Value.int .i64 s41.re.hi)).setCell ⟨w31.heap.size, 2, none⟩ (Value.int .i64 s41.im.lo)).setCell ⟨w31.heap.size, 3, none⟩ (Value.int .i64 s41.im.hi)) := by go_grown
            (try refine ⟨⟨HC, HY, bw⟩, ?_⟩)
            refine eag_nil ?_
            go_wp2_with fail
            refine ⟨⟨v, (v : Int) - 1, s41, by omega, by omega, rfl, En.times_ok hs41, ?_, HC, HY, HO, bw⟩, by simp [intOf]⟩
            rw [HX.out, En.unitFrom_hit HB.out, hs41]
            rfl
      | succ u =>
        obtain rfl : k = (u : Int) := by omega
        have hub : (u : Int) ≤ 7 := by omega
        obtain ⟨d, h, e, g, hd, hh, h0, ho, hr, he, hg, g0, go, hq⟩ := En.tab_step j (by omega)
        have HT := Lib.hid htj
        clear hk htj
        have HD := Lib.hid hd
        have HH := Lib.hid hh
        have H0 := Lib.hid h0
        have HO := Lib.hid ho
        have HR := Lib.hid hr
        have HE := Lib.hid he
        have HG := Lib.hid hg
        have HG0 := Lib.hid g0
        have HGO := Lib.hid go
        have HQ := Lib.hid hq
        clear hd hh h0 ho hr he hg g0 go hq
        have lwr : w.heap.size ≤ wr.heap.size := bw.size
        obtain ⟨hcP, hfP⟩ := HP.facts
        obtain ⟨hcc, hfc⟩ := Hc.facts
        go_wp2_with fail
        refine (sub_any En.one (En.tabC j) (En.Sp.fit_of_ok (s := En.one) (by decide)) (En.Sp.fit_of_ok (En.tab_ok j).1) _).mono ?_
        intro ee w11 hp
        obtain ⟨rfl, hb11⟩ := hp.sure HD.out
        replace bw : Below w.heap.size w w11 := below_next bw hb11
        replace HC := HC.call hb11
        replace HY := HY.call hb11
        replace HP := HP.call hb11
        replace Hc := Hc.call hb11
        replace Hs := Hs.call hb11
        have lw11 : w.heap.size ≤ w11.heap.size := bw.size
        clear hb11
        go_wp2_with fail
        refine (half_any d (En.Sp.fit_of_ok (En.sub_ok HD.out)) _).mono ?_
        intro ee w12 hp
        obtain ⟨rfl, hb12⟩ := hp.sure HH.out
        replace bw : Below w.heap.size w w12 := below_next bw hb12
        replace HC := HC.call hb12
        replace HY := HY.call hb12
        replace HP := HP.call hb12
        replace Hc := Hc.call hb12
        replace Hs := Hs.call hb12
        have lw12 : w.heap.size ≤ w12.heap.size := bw.size
        clear hb12
        go_wp2_with fail
        refine (roots_any h H0.out HO.out _).mono ?_
        intro ee w13 hp
        obtain ⟨rfl, hb13⟩ := hp.sure HR.out
        replace bw : Below w.heap.size w w13 := below_next bw hb13
        replace HC := HC.call hb13
        replace HY := HY.call hb13
        replace HP := HP.call hb13
        replace Hc := Hc.call hb13
        replace Hs := Hs.call hb13
        have lw13 : w.heap.size ≤ w13.heap.size := bw.size
        clear hb13
        obtain ⟨hcs, hfs⟩ := Hs.facts
        obtain ⟨hcP, hfP⟩ := HP.facts
        obtain ⟨hcc, hfc⟩ := Hc.facts
        go_wp2_with fail
        have PC := HC
        have PY := HY
        have PP := HP
        have Pc := Hc
        have Ps := Hs
        have Pbw := bw
        replace HC : Hd ((w13.setCell ⟨gs, 0, none⟩ (.int .i64 (En.tabS (j + 1)).lo)).setCell ⟨gs, 1, none⟩ (.int .i64 (En.tabS (j + 1)).hi)) w.heap.size 25 #[.int .i64 0, .int .i64 0, .int .i64 0, .int .i64 0] := hdx
        replace HY : Hd ((w13.setCell ⟨gs, 0, none⟩ (.int .i64 (En.tabS (j + 1)).lo)).setCell ⟨gs, 1, none⟩ (.int .i64 (En.tabS (j + 1)).hi)) (w.heap.size + 1) 107 (byArr (u + 1)) := hdx
        replace HP : Hd ((w13.setCell ⟨gs, 0, none⟩ (.int .i64 (En.tabS (j + 1)).lo)).setCell ⟨gs, 1, none⟩ (.int .i64 (En.tabS (j + 1)).hi)) w1.heap.size 23 #[.int .i64 1073741824, .int .i64 1073741824] := hdx
        replace Hc : Hd ((w13.setCell ⟨gs, 0, none⟩ (.int .i64 (En.tabS (j + 1)).lo)).setCell ⟨gs, 1, none⟩ (.int .i64 (En.tabS (j + 1)).hi)) gc 23 #[.int .i64 (En.tabC j).lo, .int .i64 (En.tabC j).hi] := hdx
        replace Hs : Hd ((w13.setCell ⟨gs, 0, none⟩ (.int .i64 (En.tabS (j + 1)).lo)).setCell ⟨gs, 1, none⟩ (.int .i64 (En.tabS (j + 1)).hi)) gs 23 #[.int .i64 (En.tabS (j + 1)).lo, .int .i64 (En.tabS (j + 1)).hi] := hdx
        replace bw : Below w.heap.size w ((w13.setCell ⟨gs, 0, none⟩ (.int .i64 (En.tabS (j + 1)).lo)).setCell ⟨gs, 1, none⟩ (.int .i64 (En.tabS (j + 1)).hi)) := by go_grown
        generalize hW : (w13.setCell ⟨gs, 0, none⟩ (.int .i64 (En.tabS (j + 1)).lo)).setCell ⟨gs, 1, none⟩ (.int .i64 (En.tabS (j + 1)).hi) = w14 at HC HY HP Hc Hs bw ⊢
        clear hW
        have lw14 : w.heap.size ≤ w14.heap.size := bw.size
        refine (add_any En.one (En.tabC j) (En.Sp.fit_of_ok (s := En.one) (by decide)) (En.Sp.fit_of_ok (En.tab_ok j).1) _).mono ?_
        intro ee w15 hp
        obtain ⟨rfl, hb15⟩ := hp.sure HE.out
        replace bw : Below w.heap.size w w15 := below_next bw hb15
        replace HC := HC.call hb15
        replace HY := HY.call hb15
        replace HP := HP.call hb15
        replace Hc := Hc.call hb15
        replace Hs := Hs.call hb15
        have lw15 : w.heap.size ≤ w15.heap.size := bw.size
        clear hb15
        go_wp2_with fail
        refine (half_any e (En.Sp.fit_of_ok (En.add_ok HE.out)) _).mono ?_
        intro ee w16 hp
        obtain ⟨rfl, hb16⟩ := hp.sure HG.out
        replace bw : Below w.heap.size w w16 := below_next bw hb16
        replace HC := HC.call hb16
        replace HY := HY.call hb16
        replace HP := HP.call hb16
        replace Hc := Hc.call hb16
        replace Hs := Hs.call hb16
        have lw16 : w.heap.size ≤ w16.heap.size := bw.size
        clear hb16
        go_wp2_with fail
        refine (roots_any g HG0.out HGO.out _).mono ?_
        intro ee w17 hp
        obtain ⟨rfl, hb17⟩ := hp.sure HQ.out
        replace bw : Below w.heap.size w w17 := below_next bw hb17
        replace HC := HC.call hb17
        replace HY := HY.call hb17
        replace HP := HP.call hb17
        replace Hc := Hc.call hb17
        replace Hs := Hs.call hb17
        have lw17 : w.heap.size ≤ w17.heap.size := bw.size
        clear hb17
        have y0 := HY.cell (u * 4)
        have y1 := HY.cell (u * 4 + 1)
        have y2 := HY.cell (u * 4 + 2)
        have y3 := HY.cell (u * 4 + 3)
        rw [byArr_get _ _ (by omega)] at y0 y1 y2 y3
        have hfY := HY.free
        obtain ⟨hcs, hfs⟩ := Hs.facts
        obtain ⟨hcP, hfP⟩ := HP.facts
        obtain ⟨hcc, hfc⟩ := Hc.facts
        go_wp2_with fail
        have PC := HC
        have PY := HY
        have PP := HP
        have Pc := Hc
        have Ps := Hs
        have Pbw := bw
        replace HC : Hd ((w17.setCell ⟨gc, 0, none⟩ (.int .i64 (En.tabC (j + 1)).lo)).setCell ⟨gc, 1, none⟩ (.int .i64 (En.tabC (j + 1)).hi)) w.heap.size 25 #[.int .i64 0, .int .i64 0, .int .i64 0, .int .i64 0] := hdx
        replace HY : Hd ((w17.setCell ⟨gc, 0, none⟩ (.int .i64 (En.tabC (j + 1)).lo)).setCell ⟨gc, 1, none⟩ (.int .i64 (En.tabC (j + 1)).hi)) (w.heap.size + 1) 107 (byArr (u + 1)) := hdx
        replace HP : Hd ((w17.setCell ⟨gc, 0, none⟩ (.int .i64 (En.tabC (j + 1)).lo)).setCell ⟨gc, 1, none⟩ (.int .i64 (En.tabC (j + 1)).hi)) w1.heap.size 23 #[.int .i64 1073741824, .int .i64 1073741824] := hdx
        replace Hc : Hd ((w17.setCell ⟨gc, 0, none⟩ (.int .i64 (En.tabC (j + 1)).lo)).setCell ⟨gc, 1, none⟩ (.int .i64 (En.tabC (j + 1)).hi)) gc 23 #[.int .i64 (En.tabC (j + 1)).lo, .int .i64 (En.tabC (j + 1)).hi] := hdx
        replace Hs : Hd ((w17.setCell ⟨gc, 0, none⟩ (.int .i64 (En.tabC (j + 1)).lo)).setCell ⟨gc, 1, none⟩ (.int .i64 (En.tabC (j + 1)).hi)) gs 23 #[.int .i64 (En.tabS (j + 1)).lo, .int .i64 (En.tabS (j + 1)).hi] := hdx
        replace bw : Below w.heap.size w ((w17.setCell ⟨gc, 0, none⟩ (.int .i64 (En.tabC (j + 1)).lo)).setCell ⟨gc, 1, none⟩ (.int .i64 (En.tabC (j + 1)).hi)) := by go_grown
        generalize hW : (w17.setCell ⟨gc, 0, none⟩ (.int .i64 (En.tabC (j + 1)).lo)).setCell ⟨gc, 1, none⟩ (.int .i64 (En.tabC (j + 1)).hi) = w18 at HC HY HP Hc Hs bw ⊢
        clear hW
        have lw18 : w.heap.size ≤ w18.heap.size := bw.size
        have PC := HC
        have PY := HY
        have PP := HP
        have Pc := Hc
        have Ps := Hs
        have Pbw := bw
        replace HC : Hd ((((w18.setCell ⟨(w.heap.size + 1), u * 4, none⟩ (.int .i64 (En.tabC (j + 1)).lo)).setCell ⟨(w.heap.size + 1), u * 4 + 1, none⟩ (.int .i64 (En.tabC (j + 1)).hi)).setCell ⟨(w.heap.size + 1), u * 4 + 2, none⟩ (.int .i64 (En.tabS (j + 1)).lo)).setCell ⟨(w.heap.size + 1), u * 4 + 3, none⟩ (.int .i64 (En.tabS (j + 1)).hi)) w.heap.size 25 #[.int .i64 0, .int .i64 0, .int .i64 0, .int .i64 0] := hdx
        replace HP : Hd ((((w18.setCell ⟨(w.heap.size + 1), u * 4, none⟩ (.int .i64 (En.tabC (j + 1)).lo)).setCell ⟨(w.heap.size + 1), u * 4 + 1, none⟩ (.int .i64 (En.tabC (j + 1)).hi)).setCell ⟨(w.heap.size + 1), u * 4 + 2, none⟩ (.int .i64 (En.tabS (j + 1)).lo)).setCell ⟨(w.heap.size + 1), u * 4 + 3, none⟩ (.int .i64 (En.tabS (j + 1)).hi)) w1.heap.size 23 #[.int .i64 1073741824, .int .i64 1073741824] := hdx
        replace Hc : Hd ((((w18.setCell ⟨(w.heap.size + 1), u * 4, none⟩ (.int .i64 (En.tabC (j + 1)).lo)).setCell ⟨(w.heap.size + 1), u * 4 + 1, none⟩ (.int .i64 (En.tabC (j + 1)).hi)).setCell ⟨(w.heap.size + 1), u * 4 + 2, none⟩ (.int .i64 (En.tabS (j + 1)).lo)).setCell ⟨(w.heap.size + 1), u * 4 + 3, none⟩ (.int .i64 (En.tabS (j + 1)).hi)) gc 23 #[.int .i64 (En.tabC (j + 1)).lo, .int .i64 (En.tabC (j + 1)).hi] := hdx
        replace Hs : Hd ((((w18.setCell ⟨(w.heap.size + 1), u * 4, none⟩ (.int .i64 (En.tabC (j + 1)).lo)).setCell ⟨(w.heap.size + 1), u * 4 + 1, none⟩ (.int .i64 (En.tabC (j + 1)).hi)).setCell ⟨(w.heap.size + 1), u * 4 + 2, none⟩ (.int .i64 (En.tabS (j + 1)).lo)).setCell ⟨(w.heap.size + 1), u * 4 + 3, none⟩ (.int .i64 (En.tabS (j + 1)).hi)) gs 23 #[.int .i64 (En.tabS (j + 1)).lo, .int .i64 (En.tabS (j + 1)).hi] := hdx
        have htj := HT.out
        have hbr : En.bitRc u = ⟨En.tabC (j + 1), En.tabS (j + 1)⟩ := by unfold En.bitRc; rw [if_neg (by omega), show 8 - u = j + 1 by omega]
        clear htj
        have hput := byArr_put u (by omega)
        rw [hbr, Nat.mul_comm 4 u] at hput
        replace HY : Hd ((((w18.setCell ⟨(w.heap.size + 1), u * 4, none⟩ (.int .i64 (En.tabC (j + 1)).lo)).setCell ⟨(w.heap.size + 1), u * 4 + 1, none⟩ (.int .i64 (En.tabC (j + 1)).hi)).setCell ⟨(w.heap.size + 1), u * 4 + 2, none⟩ (.int .i64 (En.tabS (j + 1)).lo)).setCell ⟨(w.heap.size + 1), u * 4 + 3, none⟩ (.int .i64 (En.tabS (j + 1)).hi)) (w.heap.size + 1) 107 (byArr u) := by
          rw [← hput]
          exact (((PY.set _ _).set _ _).set _ _).set _ _
        replace bw : Below w.heap.size w ((((w18.setCell ⟨(w.heap.size + 1), u * 4, none⟩ (.int .i64 (En.tabC (j + 1)).lo)).setCell ⟨(w.heap.size + 1), u * 4 + 1, none⟩ (.int .i64 (En.tabC (j + 1)).hi)).setCell ⟨(w.heap.size + 1), u * 4 + 2, none⟩ (.int .i64 (En.tabS (j + 1)).lo)).setCell ⟨(w.heap.size + 1), u * 4 + 3, none⟩ (.int .i64 (En.tabS (j + 1)).hi)) := by go_grown
        refine ⟨⟨u, j + 1, (u : Int) - 1, (by have := HT.out; omega), by omega, rfl, HC, HY, HP, Hc, Hs, bw⟩, ?_⟩
        simp [intOf]
  case first =>
    have ltCP : w.heap.size < w1.heap.size := HC.lt
    have ltYP : (w.heap.size + 1) < w1.heap.size := HY.lt
    replace HC : Hd ((w1.alloc (.cells #[.int .i64 1073741824, .int .i64 1073741824] 23)).drew) w.heap.size 25 #[.int .i64 0, .int .i64 0, .int .i64 0, .int .i64 0] := hdx
    replace HY : Hd ((w1.alloc (.cells #[.int .i64 1073741824, .int .i64 1073741824] 23)).drew) (w.heap.size + 1) 107 (byArr 10) := hdx
    replace bw : Below w.heap.size w ((w1.alloc (.cells #[.int .i64 1073741824, .int .i64 1073741824] 23)).drew) := by go_grown
    have HP : Hd ((w1.alloc (.cells #[.int .i64 1073741824, .int .i64 1073741824] 23)).drew) w1.heap.size 23 #[.int .i64 1073741824, .int .i64 1073741824] := hdx
    refine wp_region_tr (fun w' => Hd w' w1.heap.size 23 #[.int .i64 1073741824, .int .i64 1073741824] ∧ Below w.heap.size w w') (by kernel_rfl) ?_
    generalize hW : (w1.alloc (.cells #[.int .i64 1073741824, .int .i64 1073741824] 23)).drew = w2 at HC HY HP bw ⊢
    clear hW
    have lw2 : w.heap.size ≤ w2.heap.size := bw.size
    (refine tr_soft (i := 2) (v := ?_) rfl rfl (by kernel_rfl) (fun c d v a w h => by cases d <;> exact h) (fun w' hw' => ?_) ⟨HP, bw⟩ ?_; rotate_left 1; (focus (obtain ⟨hP, hBw⟩ := hw'; obtain ⟨hcP, hfP⟩ := hP.facts; go_simp; (try with_reducible rfl); done)); simp only [Act.put, Act.eval, qs])
    refine tr_hard3 (i := 0) (j := 3) (l := 4) (by kernel_rfl) rfl rfl rfl ?_ ?_ ?_
    · go_wp2_with fail
      refine (point00 _).mono ?_
      rintro e w3 ⟨rfl, hb3⟩
      replace bw : Below w.heap.size w w3 := below_next bw hb3
      replace HC := HC.call hb3
      replace HY := HY.call hb3
      replace HP := HP.call hb3
      have lw3 : w.heap.size ≤ w3.heap.size := bw.size
      clear hb3
      go_wp2_with fail
      (try refine ⟨⟨HP, bw⟩, ?_⟩)
      skip
      (refine tr_soft (i := 1) (v := ?_) rfl rfl (by kernel_rfl) (fun c d v a w h => by cases d <;> exact h) (fun w' hw' => ?_) ⟨HP, bw⟩ ?_; rotate_left 1; (focus (obtain ⟨hP, hBw⟩ := hw'; obtain ⟨hcP, hfP⟩ := hP.facts; go_simp; (try with_reducible rfl); done)); simp only [Act.put, Act.eval, qs])
      refine tr_hard2 (i := 3) (j := 4) (by kernel_rfl) rfl rfl ?_ ?_
      · go_wp2_with fail
        have PC := HC
        have PY := HY
        have PP := HP
        have Pbw := bw
        have ltCc : w.heap.size < w3.heap.size := by (have := HC.lt; (try simp only [World.size_alloc, World.size_setCell, World.size_drew] at this); omega)
        have ltYc : (w.heap.size + 1) < w3.heap.size := by (have := HY.lt; (try simp only [World.size_alloc, World.size_setCell, World.size_drew] at this); omega)
        have ltPc : w1.heap.size < w3.heap.size := by (have := HP.lt; (try simp only [World.size_alloc, World.size_setCell, World.size_drew] at this); omega)
        replace HC : Hd (w3.alloc (.cells #[.int .i64 0, .int .i64 0] 23)) w.heap.size 25 #[.int .i64 0, .int .i64 0, .int .i64 0, .int .i64 0] := hdx
        replace HY : Hd (w3.alloc (.cells #[.int .i64 0, .int .i64 0] 23)) (w.heap.size + 1) 107 (byArr 10) := hdx
        replace HP : Hd (w3.alloc (.cells #[.int .i64 0, .int .i64 0] 23)) w1.heap.size 23 #[.int .i64 1073741824, .int .i64 1073741824] := hdx
        replace bw : Below w.heap.size w (w3.alloc (.cells #[.int .i64 0, .int .i64 0] 23)) := by go_grown
        have Hc : Hd (w3.alloc (.cells #[.int .i64 0, .int .i64 0] 23)) w3.heap.size 23 #[.int .i64 0, .int .i64 0] := hdx
        (try refine ⟨⟨HP, bw⟩, ?_⟩)
        skip
        refine tr_hard1 (i := 4) (by kernel_rfl) rfl ?_
        go_wp2_with fail
        have ltCs : w.heap.size < (w3.heap.size + 1) := by (have := HC.lt; (try simp only [World.size_alloc, World.size_setCell, World.size_drew] at this); omega)
        have ltYs : (w.heap.size + 1) < (w3.heap.size + 1) := by (have := HY.lt; (try simp only [World.size_alloc, World.size_setCell, World.size_drew] at this); omega)
        have ltPs : w1.heap.size < (w3.heap.size + 1) := by (have := HP.lt; (try simp only [World.size_alloc, World.size_setCell, World.size_drew] at this); omega)
        have ltcs : w3.heap.size < (w3.heap.size + 1) := by (have := Hc.lt; (try simp only [World.size_alloc, World.size_setCell, World.size_drew] at this); omega)
        replace HC : Hd ((w3.alloc (.cells #[.int .i64 0, .int .i64 0] 23)).alloc (.cells #[.int .i64 0, .int .i64 0] 23)) w.heap.size 25 #[.int .i64 0, .int .i64 0, .int .i64 0, .int .i64 0] := hdx
        replace HY : Hd ((w3.alloc (.cells #[.int .i64 0, .int .i64 0] 23)).alloc (.cells #[.int .i64 0, .int .i64 0] 23)) (w.heap.size + 1) 107 (byArr 10) := hdx
        replace HP : Hd ((w3.alloc (.cells #[.int .i64 0, .int .i64 0] 23)).alloc (.cells #[.int .i64 0, .int .i64 0] 23)) w1.heap.size 23 #[.int .i64 1073741824, .int .i64 1073741824] := hdx
        replace Hc : Hd ((w3.alloc (.cells #[.int .i64 0, .int .i64 0] 23)).alloc (.cells #[.int .i64 0, .int .i64 0] 23)) w3.heap.size 23 #[.int .i64 0, .int .i64 0] := hdx
        replace bw : Below w.heap.size w ((w3.alloc (.cells #[.int .i64 0, .int .i64 0] 23)).alloc (.cells #[.int .i64 0, .int .i64 0] 23)) := by go_grown
        have Hs : Hd ((w3.alloc (.cells #[.int .i64 0, .int .i64 0] 23)).alloc (.cells #[.int .i64 0, .int .i64 0] 23)) (w3.heap.size + 1) 23 #[.int .i64 0, .int .i64 0] := hdx
        (try refine ⟨⟨HP, bw⟩, ?_⟩)
        skip
        refine tr_hard1 (i := 5) (by kernel_rfl) rfl ?_
        obtain ⟨hcc, hfc⟩ := Hc.facts
        go_wp2_with fail
        replace HC : Hd ((w3.alloc (.cells #[.int .i64 0, .int .i64 0] 23)).alloc (.cells #[.int .i64 0, .int .i64 0] 23)) w.heap.size 25 #[.int .i64 0, .int .i64 0, .int .i64 0, .int .i64 0] := hdx
        replace HY : Hd ((w3.alloc (.cells #[.int .i64 0, .int .i64 0] 23)).alloc (.cells #[.int .i64 0, .int .i64 0] 23)) (w.heap.size + 1) 107 (byArr 10) := hdx
        replace HP : Hd ((w3.alloc (.cells #[.int .i64 0, .int .i64 0] 23)).alloc (.cells #[.int .i64 0, .int .i64 0] 23)) w1.heap.size 23 #[.int .i64 1073741824, .int .i64 1073741824] := hdx
        replace Hc : Hd ((w3.alloc (.cells #[.int .i64 0, .int .i64 0] 23)).alloc (.cells #[.int .i64 0, .int .i64 0] 23)) w3.heap.size 23 #[.int .i64 0, .int .i64 0] := hdx
        replace Hs : Hd ((w3.alloc (.cells #[.int .i64 0, .int .i64 0] 23)).alloc (.cells #[.int .i64 0, .int .i64 0] 23)) (w3.heap.size + 1) 23 #[.int .i64 0, .int .i64 0] := hdx
        replace bw : Below w.heap.size w ((w3.alloc (.cells #[.int .i64 0, .int .i64 0] 23)).alloc (.cells #[.int .i64 0, .int .i64 0] 23)) := by go_grown
        (try refine ⟨⟨HP, bw⟩, ?_⟩)
        skip
        refine tr_hard1 (i := 6) (by kernel_rfl) rfl ?_
        obtain ⟨hcs, hfs⟩ := Hs.facts
        go_wp2_with fail
        replace HC : Hd ((w3.alloc (.cells #[.int .i64 0, .int .i64 0] 23)).alloc (.cells #[.int .i64 1073741824, .int .i64 1073741824] 23)) w.heap.size 25 #[.int .i64 0, .int .i64 0, .int .i64 0, .int .i64 0] := hdx
        replace HY : Hd ((w3.alloc (.cells #[.int .i64 0, .int .i64 0] 23)).alloc (.cells #[.int .i64 1073741824, .int .i64 1073741824] 23)) (w.heap.size + 1) 107 (byArr 10) := hdx
        replace HP : Hd ((w3.alloc (.cells #[.int .i64 0, .int .i64 0] 23)).alloc (.cells #[.int .i64 1073741824, .int .i64 1073741824] 23)) w1.heap.size 23 #[.int .i64 1073741824, .int .i64 1073741824] := hdx
        replace Hc : Hd ((w3.alloc (.cells #[.int .i64 0, .int .i64 0] 23)).alloc (.cells #[.int .i64 1073741824, .int .i64 1073741824] 23)) w3.heap.size 23 #[.int .i64 0, .int .i64 0] := hdx
        replace Hs : Hd ((w3.alloc (.cells #[.int .i64 0, .int .i64 0] 23)).alloc (.cells #[.int .i64 1073741824, .int .i64 1073741824] 23)) (w3.heap.size + 1) 23 #[.int .i64 1073741824, .int .i64 1073741824] := hdx
        replace bw : Below w.heap.size w ((w3.alloc (.cells #[.int .i64 0, .int .i64 0] 23)).alloc (.cells #[.int .i64 1073741824, .int .i64 1073741824] 23)) := by go_grown
        (try refine ⟨⟨HP, bw⟩, ?_⟩)
        skip
        refine tr_nil (by kernel_rfl) ?_
        go_wp2_with fail
        go_meet
        exact ⟨w3.heap.size, (w3.heap.size + 1), rfl, rfl, by omega, by omega, by omega, by omega, by omega, HC, HY, HP, Hc, Hs, bw⟩
      · go_wp2_with fail
        have PC := HC
        have PY := HY
        have PP := HP
        have Pbw := bw
        have ltCs : w.heap.size < w3.heap.size := by (have := HC.lt; (try simp only [World.size_alloc, World.size_setCell, World.size_drew] at this); omega)
        have ltYs : (w.heap.size + 1) < w3.heap.size := by (have := HY.lt; (try simp only [World.size_alloc, World.size_setCell, World.size_drew] at this); omega)
        have ltPs : w1.heap.size < w3.heap.size := by (have := HP.lt; (try simp only [World.size_alloc, World.size_setCell, World.size_drew] at this); omega)
        replace HC : Hd (w3.alloc (.cells #[.int .i64 0, .int .i64 0] 23)) w.heap.size 25 #[.int .i64 0, .int .i64 0, .int .i64 0, .int .i64 0] := hdx
        replace HY : Hd (w3.alloc (.cells #[.int .i64 0, .int .i64 0] 23)) (w.heap.size + 1) 107 (byArr 10) := hdx
        replace HP : Hd (w3.alloc (.cells #[.int .i64 0, .int .i64 0] 23)) w1.heap.size 23 #[.int .i64 1073741824, .int .i64 1073741824] := hdx
        replace bw : Below w.heap.size w (w3.alloc (.cells #[.int .i64 0, .int .i64 0] 23)) := by go_grown
        have Hs : Hd (w3.alloc (.cells #[.int .i64 0, .int .i64 0] 23)) w3.heap.size 23 #[.int .i64 0, .int .i64 0] := hdx
        (try refine ⟨⟨HP, bw⟩, ?_⟩)
        skip
        refine tr_hard1 (i := 3) (by kernel_rfl) rfl ?_
        go_wp2_with fail
        have ltCc : w.heap.size < (w3.heap.size + 1) := by (have := HC.lt; (try simp only [World.size_alloc, World.size_setCell, World.size_drew] at this); omega)
        have ltYc : (w.heap.size + 1) < (w3.heap.size + 1) := by (have := HY.lt; (try simp only [World.size_alloc, World.size_setCell, World.size_drew] at this); omega)
        have ltPc : w1.heap.size < (w3.heap.size + 1) := by (have := HP.lt; (try simp only [World.size_alloc, World.size_setCell, World.size_drew] at this); omega)
        have ltsc : w3.heap.size < (w3.heap.size + 1) := by (have := Hs.lt; (try simp only [World.size_alloc, World.size_setCell, World.size_drew] at this); omega)
        replace HC : Hd ((w3.alloc (.cells #[.int .i64 0, .int .i64 0] 23)).alloc (.cells #[.int .i64 0, .int .i64 0] 23)) w.heap.size 25 #[.int .i64 0, .int .i64 0, .int .i64 0, .int .i64 0] := hdx
        replace HY : Hd ((w3.alloc (.cells #[.int .i64 0, .int .i64 0] 23)).alloc (.cells #[.int .i64 0, .int .i64 0] 23)) (w.heap.size + 1) 107 (byArr 10) := hdx
        replace HP : Hd ((w3.alloc (.cells #[.int .i64 0, .int .i64 0] 23)).alloc (.cells #[.int .i64 0, .int .i64 0] 23)) w1.heap.size 23 #[.int .i64 1073741824, .int .i64 1073741824] := hdx
        replace Hs : Hd ((w3.alloc (.cells #[.int .i64 0, .int .i64 0] 23)).alloc (.cells #[.int .i64 0, .int .i64 0] 23)) w3.heap.size 23 #[.int .i64 0, .int .i64 0] := hdx
        replace bw : Below w.heap.size w ((w3.alloc (.cells #[.int .i64 0, .int .i64 0] 23)).alloc (.cells #[.int .i64 0, .int .i64 0] 23)) := by go_grown
        have Hc : Hd ((w3.alloc (.cells #[.int .i64 0, .int .i64 0] 23)).alloc (.cells #[.int .i64 0, .int .i64 0] 23)) (w3.heap.size + 1) 23 #[.int .i64 0, .int .i64 0] := hdx
        (try refine ⟨⟨HP, bw⟩, ?_⟩)
        skip
        refine tr_hard1 (i := 5) (by kernel_rfl) rfl ?_
        obtain ⟨hcc, hfc⟩ := Hc.facts
        go_wp2_with fail
        replace HC : Hd ((w3.alloc (.cells #[.int .i64 0, .int .i64 0] 23)).alloc (.cells #[.int .i64 0, .int .i64 0] 23)) w.heap.size 25 #[.int .i64 0, .int .i64 0, .int .i64 0, .int .i64 0] := hdx
        replace HY : Hd ((w3.alloc (.cells #[.int .i64 0, .int .i64 0] 23)).alloc (.cells #[.int .i64 0, .int .i64 0] 23)) (w.heap.size + 1) 107 (byArr 10) := hdx
        replace HP : Hd ((w3.alloc (.cells #[.int .i64 0, .int .i64 0] 23)).alloc (.cells #[.int .i64 0, .int .i64 0] 23)) w1.heap.size 23 #[.int .i64 1073741824, .int .i64 1073741824] := hdx
        replace Hs : Hd ((w3.alloc (.cells #[.int .i64 0, .int .i64 0] 23)).alloc (.cells #[.int .i64 0, .int .i64 0] 23)) w3.heap.size 23 #[.int .i64 0, .int .i64 0] := hdx
        replace Hc : Hd ((w3.alloc (.cells #[.int .i64 0, .int .i64 0] 23)).alloc (.cells #[.int .i64 0, .int .i64 0] 23)) (w3.heap.size + 1) 23 #[.int .i64 0, .int .i64 0] := hdx
        replace bw : Below w.heap.size w ((w3.alloc (.cells #[.int .i64 0, .int .i64 0] 23)).alloc (.cells #[.int .i64 0, .int .i64 0] 23)) := by go_grown
        (try refine ⟨⟨HP, bw⟩, ?_⟩)
        skip
        refine tr_hard1 (i := 6) (by kernel_rfl) rfl ?_
        obtain ⟨hcs, hfs⟩ := Hs.facts
        go_wp2_with fail
        replace HC : Hd ((w3.alloc (.cells #[.int .i64 1073741824, .int .i64 1073741824] 23)).alloc (.cells #[.int .i64 0, .int .i64 0] 23)) w.heap.size 25 #[.int .i64 0, .int .i64 0, .int .i64 0, .int .i64 0] := hdx
        replace HY : Hd ((w3.alloc (.cells #[.int .i64 1073741824, .int .i64 1073741824] 23)).alloc (.cells #[.int .i64 0, .int .i64 0] 23)) (w.heap.size + 1) 107 (byArr 10) := hdx
        replace HP : Hd ((w3.alloc (.cells #[.int .i64 1073741824, .int .i64 1073741824] 23)).alloc (.cells #[.int .i64 0, .int .i64 0] 23)) w1.heap.size 23 #[.int .i64 1073741824, .int .i64 1073741824] := hdx
        replace Hs : Hd ((w3.alloc (.cells #[.int .i64 1073741824, .int .i64 1073741824] 23)).alloc (.cells #[.int .i64 0, .int .i64 0] 23)) w3.heap.size 23 #[.int .i64 1073741824, .int .i64 1073741824] := hdx
        replace Hc : Hd ((w3.alloc (.cells #[.int .i64 1073741824, .int .i64 1073741824] 23)).alloc (.cells #[.int .i64 0, .int .i64 0] 23)) (w3.heap.size + 1) 23 #[.int .i64 0, .int .i64 0] := hdx
        replace bw : Below w.heap.size w ((w3.alloc (.cells #[.int .i64 1073741824, .int .i64 1073741824] 23)).alloc (.cells #[.int .i64 0, .int .i64 0] 23)) := by go_grown
        (try refine ⟨⟨HP, bw⟩, ?_⟩)
        skip
        refine tr_nil (by kernel_rfl) ?_
        go_wp2_with fail
        go_meet
        exact ⟨(w3.heap.size + 1), w3.heap.size, rfl, rfl, by omega, by omega, by omega, by omega, by omega, HC, HY, HP, Hc, Hs, bw⟩
    · go_wp2_with fail
      have PC := HC
      have PY := HY
      have PP := HP
      have Pbw := bw
      have ltCc : w.heap.size < w2.heap.size := by (have := HC.lt; (try simp only [World.size_alloc, World.size_setCell, World.size_drew] at this); omega)
      have ltYc : (w.heap.size + 1) < w2.heap.size := by (have := HY.lt; (try simp only [World.size_alloc, World.size_setCell, World.size_drew] at this); omega)
      have ltPc : w1.heap.size < w2.heap.size := by (have := HP.lt; (try simp only [World.size_alloc, World.size_setCell, World.size_drew] at this); omega)
      replace HC : Hd (w2.alloc (.cells #[.int .i64 0, .int .i64 0] 23)) w.heap.size 25 #[.int .i64 0, .int .i64 0, .int .i64 0, .int .i64 0] := hdx
      replace HY : Hd (w2.alloc (.cells #[.int .i64 0, .int .i64 0] 23)) (w.heap.size + 1) 107 (byArr 10) := hdx
      replace HP : Hd (w2.alloc (.cells #[.int .i64 0, .int .i64 0] 23)) w1.heap.size 23 #[.int .i64 1073741824, .int .i64 1073741824] := hdx
      replace bw : Below w.heap.size w (w2.alloc (.cells #[.int .i64 0, .int .i64 0] 23)) := by go_grown
      have Hc : Hd (w2.alloc (.cells #[.int .i64 0, .int .i64 0] 23)) w2.heap.size 23 #[.int .i64 0, .int .i64 0] := hdx
      (try refine ⟨⟨HP, bw⟩, ?_⟩)
      skip
      refine tr_hard2 (i := 0) (j := 4) (by kernel_rfl) rfl rfl ?_ ?_
      · go_wp2_with fail
        refine (point00 _).mono ?_
        rintro e w3 ⟨rfl, hb3⟩
        replace bw : Below w.heap.size w w3 := below_next bw hb3
        replace HC := HC.call hb3
        replace HY := HY.call hb3
        replace HP := HP.call hb3
        replace Hc := Hc.call hb3
        have lw3 : w.heap.size ≤ w3.heap.size := bw.size
        clear hb3
        go_wp2_with fail
        (try refine ⟨⟨HP, bw⟩, ?_⟩)
        skip
        (refine tr_soft (i := 1) (v := ?_) rfl rfl (by kernel_rfl) (fun c d v a w h => by cases d <;> exact h) (fun w' hw' => ?_) ⟨HP, bw⟩ ?_; rotate_left 1; (focus (obtain ⟨hP, hBw⟩ := hw'; obtain ⟨hcP, hfP⟩ := hP.facts; go_simp; (try with_reducible rfl); done)); simp only [Act.put, Act.eval, qs])
        refine tr_hard1 (i := 4) (by kernel_rfl) rfl ?_
        go_wp2_with fail
        have PC := HC
        have PY := HY
        have PP := HP
        have Pc := Hc
        have Pbw := bw
        have ltCs : w.heap.size < w3.heap.size := by (have := HC.lt; (try simp only [World.size_alloc, World.size_setCell, World.size_drew] at this); omega)
        have ltYs : (w.heap.size + 1) < w3.heap.size := by (have := HY.lt; (try simp only [World.size_alloc, World.size_setCell, World.size_drew] at this); omega)
        have ltPs : w1.heap.size < w3.heap.size := by (have := HP.lt; (try simp only [World.size_alloc, World.size_setCell, World.size_drew] at this); omega)
        have ltcs : w2.heap.size < w3.heap.size := by (have := Hc.lt; (try simp only [World.size_alloc, World.size_setCell, World.size_drew] at this); omega)
        replace HC : Hd (w3.alloc (.cells #[.int .i64 0, .int .i64 0] 23)) w.heap.size 25 #[.int .i64 0, .int .i64 0, .int .i64 0, .int .i64 0] := hdx
        replace HY : Hd (w3.alloc (.cells #[.int .i64 0, .int .i64 0] 23)) (w.heap.size + 1) 107 (byArr 10) := hdx
        replace HP : Hd (w3.alloc (.cells #[.int .i64 0, .int .i64 0] 23)) w1.heap.size 23 #[.int .i64 1073741824, .int .i64 1073741824] := hdx
        replace Hc : Hd (w3.alloc (.cells #[.int .i64 0, .int .i64 0] 23)) w2.heap.size 23 #[.int .i64 0, .int .i64 0] := hdx
        replace bw : Below w.heap.size w (w3.alloc (.cells #[.int .i64 0, .int .i64 0] 23)) := by go_grown
        have Hs : Hd (w3.alloc (.cells #[.int .i64 0, .int .i64 0] 23)) w3.heap.size 23 #[.int .i64 0, .int .i64 0] := hdx
        (try refine ⟨⟨HP, bw⟩, ?_⟩)
        skip
        refine tr_hard1 (i := 5) (by kernel_rfl) rfl ?_
        obtain ⟨hcc, hfc⟩ := Pc.facts
        go_wp2_with fail
        replace HC : Hd (((w3.setCell ⟨w2.heap.size, 0, none⟩ (.int .i64 0)).setCell ⟨w2.heap.size, 1, none⟩ (.int .i64 0)).alloc (.cells #[.int .i64 0, .int .i64 0] 23)) w.heap.size 25 #[.int .i64 0, .int .i64 0, .int .i64 0, .int .i64 0] := hdx
        replace HY : Hd (((w3.setCell ⟨w2.heap.size, 0, none⟩ (.int .i64 0)).setCell ⟨w2.heap.size, 1, none⟩ (.int .i64 0)).alloc (.cells #[.int .i64 0, .int .i64 0] 23)) (w.heap.size + 1) 107 (byArr 10) := hdx
        replace HP : Hd (((w3.setCell ⟨w2.heap.size, 0, none⟩ (.int .i64 0)).setCell ⟨w2.heap.size, 1, none⟩ (.int .i64 0)).alloc (.cells #[.int .i64 0, .int .i64 0] 23)) w1.heap.size 23 #[.int .i64 1073741824, .int .i64 1073741824] := hdx
        replace Hc : Hd (((w3.setCell ⟨w2.heap.size, 0, none⟩ (.int .i64 0)).setCell ⟨w2.heap.size, 1, none⟩ (.int .i64 0)).alloc (.cells #[.int .i64 0, .int .i64 0] 23)) w2.heap.size 23 #[.int .i64 0, .int .i64 0] := hdx
        replace Hs : Hd (((w3.setCell ⟨w2.heap.size, 0, none⟩ (.int .i64 0)).setCell ⟨w2.heap.size, 1, none⟩ (.int .i64 0)).alloc (.cells #[.int .i64 0, .int .i64 0] 23)) w3.heap.size 23 #[.int .i64 0, .int .i64 0] := hdx
        replace bw : Below w.heap.size w (((w3.setCell ⟨w2.heap.size, 0, none⟩ (.int .i64 0)).setCell ⟨w2.heap.size, 1, none⟩ (.int .i64 0)).alloc (.cells #[.int .i64 0, .int .i64 0] 23)) := by go_grown
        (try refine ⟨⟨HP, bw⟩, ?_⟩)
        skip
        refine tr_hard1 (i := 6) (by kernel_rfl) rfl ?_
        obtain ⟨hcs, hfs⟩ := Hs.facts
        go_wp2_with fail
        replace HC : Hd (((w3.setCell ⟨w2.heap.size, 0, none⟩ (.int .i64 0)).setCell ⟨w2.heap.size, 1, none⟩ (.int .i64 0)).alloc (.cells #[.int .i64 1073741824, .int .i64 1073741824] 23)) w.heap.size 25 #[.int .i64 0, .int .i64 0, .int .i64 0, .int .i64 0] := hdx
        replace HY : Hd (((w3.setCell ⟨w2.heap.size, 0, none⟩ (.int .i64 0)).setCell ⟨w2.heap.size, 1, none⟩ (.int .i64 0)).alloc (.cells #[.int .i64 1073741824, .int .i64 1073741824] 23)) (w.heap.size + 1) 107 (byArr 10) := hdx
        replace HP : Hd (((w3.setCell ⟨w2.heap.size, 0, none⟩ (.int .i64 0)).setCell ⟨w2.heap.size, 1, none⟩ (.int .i64 0)).alloc (.cells #[.int .i64 1073741824, .int .i64 1073741824] 23)) w1.heap.size 23 #[.int .i64 1073741824, .int .i64 1073741824] := hdx
        replace Hc : Hd (((w3.setCell ⟨w2.heap.size, 0, none⟩ (.int .i64 0)).setCell ⟨w2.heap.size, 1, none⟩ (.int .i64 0)).alloc (.cells #[.int .i64 1073741824, .int .i64 1073741824] 23)) w2.heap.size 23 #[.int .i64 0, .int .i64 0] := hdx
        replace Hs : Hd (((w3.setCell ⟨w2.heap.size, 0, none⟩ (.int .i64 0)).setCell ⟨w2.heap.size, 1, none⟩ (.int .i64 0)).alloc (.cells #[.int .i64 1073741824, .int .i64 1073741824] 23)) w3.heap.size 23 #[.int .i64 1073741824, .int .i64 1073741824] := hdx
        replace bw : Below w.heap.size w (((w3.setCell ⟨w2.heap.size, 0, none⟩ (.int .i64 0)).setCell ⟨w2.heap.size, 1, none⟩ (.int .i64 0)).alloc (.cells #[.int .i64 1073741824, .int .i64 1073741824] 23)) := by go_grown
        (try refine ⟨⟨HP, bw⟩, ?_⟩)
        skip
        refine tr_nil (by kernel_rfl) ?_
        go_wp2_with fail
        go_meet
        exact ⟨w2.heap.size, w3.heap.size, rfl, rfl, by omega, by omega, by omega, by omega, by omega, HC, HY, HP, Hc, Hs, bw⟩
      · go_wp2_with fail
        have ltCs : w.heap.size < (w2.heap.size + 1) := by (have := HC.lt; (try simp only [World.size_alloc, World.size_setCell, World.size_drew] at this); omega)
        have ltYs : (w.heap.size + 1) < (w2.heap.size + 1) := by (have := HY.lt; (try simp only [World.size_alloc, World.size_setCell, World.size_drew] at this); omega)
        have ltPs : w1.heap.size < (w2.heap.size + 1) := by (have := HP.lt; (try simp only [World.size_alloc, World.size_setCell, World.size_drew] at this); omega)
        have ltcs : w2.heap.size < (w2.heap.size + 1) := by (have := Hc.lt; (try simp only [World.size_alloc, World.size_setCell, World.size_drew] at this); omega)
        replace HC : Hd ((w2.alloc (.cells #[.int .i64 0, .int .i64 0] 23)).alloc (.cells #[.int .i64 0, .int .i64 0] 23)) w.heap.size 25 #[.int .i64 0, .int .i64 0, .int .i64 0, .int .i64 0] := hdx
        replace HY : Hd ((w2.alloc (.cells #[.int .i64 0, .int .i64 0] 23)).alloc (.cells #[.int .i64 0, .int .i64 0] 23)) (w.heap.size + 1) 107 (byArr 10) := hdx
        replace HP : Hd ((w2.alloc (.cells #[.int .i64 0, .int .i64 0] 23)).alloc (.cells #[.int .i64 0, .int .i64 0] 23)) w1.heap.size 23 #[.int .i64 1073741824, .int .i64 1073741824] := hdx
        replace Hc : Hd ((w2.alloc (.cells #[.int .i64 0, .int .i64 0] 23)).alloc (.cells #[.int .i64 0, .int .i64 0] 23)) w2.heap.size 23 #[.int .i64 0, .int .i64 0] := hdx
        replace bw : Below w.heap.size w ((w2.alloc (.cells #[.int .i64 0, .int .i64 0] 23)).alloc (.cells #[.int .i64 0, .int .i64 0] 23)) := by go_grown
        have Hs : Hd ((w2.alloc (.cells #[.int .i64 0, .int .i64 0] 23)).alloc (.cells #[.int .i64 0, .int .i64 0] 23)) (w2.heap.size + 1) 23 #[.int .i64 0, .int .i64 0] := hdx
        (try refine ⟨⟨HP, bw⟩, ?_⟩)
        skip
        refine tr_hard1 (i := 0) (by kernel_rfl) rfl ?_
        go_wp2_with fail
        refine (point00 _).mono ?_
        rintro e w3 ⟨rfl, hb3⟩
        replace bw : Below w.heap.size w w3 := below_next bw hb3
        replace HC := HC.call hb3
        replace HY := HY.call hb3
        replace HP := HP.call hb3
        replace Hc := Hc.call hb3
        replace Hs := Hs.call hb3
        have lw3 : w.heap.size ≤ w3.heap.size := bw.size
        clear hb3
        go_wp2_with fail
        (try refine ⟨⟨HP, bw⟩, ?_⟩)
        skip
        (refine tr_soft (i := 1) (v := ?_) rfl rfl (by kernel_rfl) (fun c d v a w h => by cases d <;> exact h) (fun w' hw' => ?_) ⟨HP, bw⟩ ?_; rotate_left 1; (focus (obtain ⟨hP, hBw⟩ := hw'; obtain ⟨hcP, hfP⟩ := hP.facts; go_simp; (try with_reducible rfl); done)); simp only [Act.put, Act.eval, qs])
        refine tr_hard1 (i := 5) (by kernel_rfl) rfl ?_
        obtain ⟨hcc, hfc⟩ := Hc.facts
        go_wp2_with fail
        have PC := HC
        have PY := HY
        have PP := HP
        have Pc := Hc
        have Ps := Hs
        have Pbw := bw
        replace HC : Hd ((w3.setCell ⟨w2.heap.size, 0, none⟩ (.int .i64 0)).setCell ⟨w2.heap.size, 1, none⟩ (.int .i64 0)) w.heap.size 25 #[.int .i64 0, .int .i64 0, .int .i64 0, .int .i64 0] := hdx
        replace HY : Hd ((w3.setCell ⟨w2.heap.size, 0, none⟩ (.int .i64 0)).setCell ⟨w2.heap.size, 1, none⟩ (.int .i64 0)) (w.heap.size + 1) 107 (byArr 10) := hdx
        replace HP : Hd ((w3.setCell ⟨w2.heap.size, 0, none⟩ (.int .i64 0)).setCell ⟨w2.heap.size, 1, none⟩ (.int .i64 0)) w1.heap.size 23 #[.int .i64 1073741824, .int .i64 1073741824] := hdx
        replace Hc : Hd ((w3.setCell ⟨w2.heap.size, 0, none⟩ (.int .i64 0)).setCell ⟨w2.heap.size, 1, none⟩ (.int .i64 0)) w2.heap.size 23 #[.int .i64 0, .int .i64 0] := hdx
        replace Hs : Hd ((w3.setCell ⟨w2.heap.size, 0, none⟩ (.int .i64 0)).setCell ⟨w2.heap.size, 1, none⟩ (.int .i64 0)) (w2.heap.size + 1) 23 #[.int .i64 0, .int .i64 0] := hdx
        replace bw : Below w.heap.size w ((w3.setCell ⟨w2.heap.size, 0, none⟩ (.int .i64 0)).setCell ⟨w2.heap.size, 1, none⟩ (.int .i64 0)) := by go_grown
        (try refine ⟨⟨HP, bw⟩, ?_⟩)
        skip
        refine tr_hard1 (i := 6) (by kernel_rfl) rfl ?_
        obtain ⟨hcs, hfs⟩ := Ps.facts
        go_wp2_with fail
        replace HC : Hd ((((w3.setCell ⟨w2.heap.size, 0, none⟩ (.int .i64 0)).setCell ⟨w2.heap.size, 1, none⟩ (.int .i64 0)).setCell ⟨(w2.heap.size + 1), 0, none⟩ (.int .i64 1073741824)).setCell ⟨(w2.heap.size + 1), 1, none⟩ (.int .i64 1073741824)) w.heap.size 25 #[.int .i64 0, .int .i64 0, .int .i64 0, .int .i64 0] := hdx
        replace HY : Hd ((((w3.setCell ⟨w2.heap.size, 0, none⟩ (.int .i64 0)).setCell ⟨w2.heap.size, 1, none⟩ (.int .i64 0)).setCell ⟨(w2.heap.size + 1), 0, none⟩ (.int .i64 1073741824)).setCell ⟨(w2.heap.size + 1), 1, none⟩ (.int .i64 1073741824)) (w.heap.size + 1) 107 (byArr 10) := hdx
        replace HP : Hd ((((w3.setCell ⟨w2.heap.size, 0, none⟩ (.int .i64 0)).setCell ⟨w2.heap.size, 1, none⟩ (.int .i64 0)).setCell ⟨(w2.heap.size + 1), 0, none⟩ (.int .i64 1073741824)).setCell ⟨(w2.heap.size + 1), 1, none⟩ (.int .i64 1073741824)) w1.heap.size 23 #[.int .i64 1073741824, .int .i64 1073741824] := hdx
        replace Hc : Hd ((((w3.setCell ⟨w2.heap.size, 0, none⟩ (.int .i64 0)).setCell ⟨w2.heap.size, 1, none⟩ (.int .i64 0)).setCell ⟨(w2.heap.size + 1), 0, none⟩ (.int .i64 1073741824)).setCell ⟨(w2.heap.size + 1), 1, none⟩ (.int .i64 1073741824)) w2.heap.size 23 #[.int .i64 0, .int .i64 0] := hdx
        replace Hs : Hd ((((w3.setCell ⟨w2.heap.size, 0, none⟩ (.int .i64 0)).setCell ⟨w2.heap.size, 1, none⟩ (.int .i64 0)).setCell ⟨(w2.heap.size + 1), 0, none⟩ (.int .i64 1073741824)).setCell ⟨(w2.heap.size + 1), 1, none⟩ (.int .i64 1073741824)) (w2.heap.size + 1) 23 #[.int .i64 1073741824, .int .i64 1073741824] := hdx
        replace bw : Below w.heap.size w ((((w3.setCell ⟨w2.heap.size, 0, none⟩ (.int .i64 0)).setCell ⟨w2.heap.size, 1, none⟩ (.int .i64 0)).setCell ⟨(w2.heap.size + 1), 0, none⟩ (.int .i64 1073741824)).setCell ⟨(w2.heap.size + 1), 1, none⟩ (.int .i64 1073741824)) := by go_grown
        (try refine ⟨⟨HP, bw⟩, ?_⟩)
        skip
        refine tr_nil (by kernel_rfl) ?_
        go_wp2_with fail
        go_meet
        exact ⟨w2.heap.size, (w2.heap.size + 1), rfl, rfl, by omega, by omega, by omega, by omega, by omega, HC, HY, HP, Hc, Hs, bw⟩
    · go_wp2_with fail
      have PC := HC
      have PY := HY
      have PP := HP
      have Pbw := bw
      have ltCs : w.heap.size < w2.heap.size := by (have := HC.lt; (try simp only [World.size_alloc, World.size_setCell, World.size_drew] at this); omega)
      have ltYs : (w.heap.size + 1) < w2.heap.size := by (have := HY.lt; (try simp only [World.size_alloc, World.size_setCell, World.size_drew] at this); omega)
      have ltPs : w1.heap.size < w2.heap.size := by (have := HP.lt; (try simp only [World.size_alloc, World.size_setCell, World.size_drew] at this); omega)
      replace HC : Hd (w2.alloc (.cells #[.int .i64 0, .int .i64 0] 23)) w.heap.size 25 #[.int .i64 0, .int .i64 0, .int .i64 0, .int .i64 0] := hdx
      replace HY : Hd (w2.alloc (.cells #[.int .i64 0, .int .i64 0] 23)) (w.heap.size + 1) 107 (byArr 10) := hdx
      replace HP : Hd (w2.alloc (.cells #[.int .i64 0, .int .i64 0] 23)) w1.heap.size 23 #[.int .i64 1073741824, .int .i64 1073741824] := hdx
      replace bw : Below w.heap.size w (w2.alloc (.cells #[.int .i64 0, .int .i64 0] 23)) := by go_grown
      have Hs : Hd (w2.alloc (.cells #[.int .i64 0, .int .i64 0] 23)) w2.heap.size 23 #[.int .i64 0, .int .i64 0] := hdx
      (try refine ⟨⟨HP, bw⟩, ?_⟩)
      skip
      refine tr_hard2 (i := 0) (j := 3) (by kernel_rfl) rfl rfl ?_ ?_
      · go_wp2_with fail
        refine (point00 _).mono ?_
        rintro e w3 ⟨rfl, hb3⟩
        replace bw : Below w.heap.size w w3 := below_next bw hb3
        replace HC := HC.call hb3
        replace HY := HY.call hb3
        replace HP := HP.call hb3
        replace Hs := Hs.call hb3
        have lw3 : w.heap.size ≤ w3.heap.size := bw.size
        clear hb3
        go_wp2_with fail
        (try refine ⟨⟨HP, bw⟩, ?_⟩)
        skip
        (refine tr_soft (i := 1) (v := ?_) rfl rfl (by kernel_rfl) (fun c d v a w h => by cases d <;> exact h) (fun w' hw' => ?_) ⟨HP, bw⟩ ?_; rotate_left 1; (focus (obtain ⟨hP, hBw⟩ := hw'; obtain ⟨hcP, hfP⟩ := hP.facts; go_simp; (try with_reducible rfl); done)); simp only [Act.put, Act.eval, qs])
        refine tr_hard1 (i := 3) (by kernel_rfl) rfl ?_
        go_wp2_with fail
        have PC := HC
        have PY := HY
        have PP := HP
        have Ps := Hs
        have Pbw := bw
        have ltCc : w.heap.size < w3.heap.size := by (have := HC.lt; (try simp only [World.size_alloc, World.size_setCell, World.size_drew] at this); omega)
        have ltYc : (w.heap.size + 1) < w3.heap.size := by (have := HY.lt; (try simp only [World.size_alloc, World.size_setCell, World.size_drew] at this); omega)
        have ltPc : w1.heap.size < w3.heap.size := by (have := HP.lt; (try simp only [World.size_alloc, World.size_setCell, World.size_drew] at this); omega)
        have ltsc : w2.heap.size < w3.heap.size := by (have := Hs.lt; (try simp only [World.size_alloc, World.size_setCell, World.size_drew] at this); omega)
        replace HC : Hd (w3.alloc (.cells #[.int .i64 0, .int .i64 0] 23)) w.heap.size 25 #[.int .i64 0, .int .i64 0, .int .i64 0, .int .i64 0] := hdx
        replace HY : Hd (w3.alloc (.cells #[.int .i64 0, .int .i64 0] 23)) (w.heap.size + 1) 107 (byArr 10) := hdx
        replace HP : Hd (w3.alloc (.cells #[.int .i64 0, .int .i64 0] 23)) w1.heap.size 23 #[.int .i64 1073741824, .int .i64 1073741824] := hdx
        replace Hs : Hd (w3.alloc (.cells #[.int .i64 0, .int .i64 0] 23)) w2.heap.size 23 #[.int .i64 0, .int .i64 0] := hdx
        replace bw : Below w.heap.size w (w3.alloc (.cells #[.int .i64 0, .int .i64 0] 23)) := by go_grown
        have Hc : Hd (w3.alloc (.cells #[.int .i64 0, .int .i64 0] 23)) w3.heap.size 23 #[.int .i64 0, .int .i64 0] := hdx
        (try refine ⟨⟨HP, bw⟩, ?_⟩)
        skip
        refine tr_hard1 (i := 5) (by kernel_rfl) rfl ?_
        obtain ⟨hcc, hfc⟩ := Hc.facts
        go_wp2_with fail
        replace HC : Hd (w3.alloc (.cells #[.int .i64 0, .int .i64 0] 23)) w.heap.size 25 #[.int .i64 0, .int .i64 0, .int .i64 0, .int .i64 0] := hdx
        replace HY : Hd (w3.alloc (.cells #[.int .i64 0, .int .i64 0] 23)) (w.heap.size + 1) 107 (byArr 10) := hdx
        replace HP : Hd (w3.alloc (.cells #[.int .i64 0, .int .i64 0] 23)) w1.heap.size 23 #[.int .i64 1073741824, .int .i64 1073741824] := hdx
        replace Hs : Hd (w3.alloc (.cells #[.int .i64 0, .int .i64 0] 23)) w2.heap.size 23 #[.int .i64 0, .int .i64 0] := hdx
        replace Hc : Hd (w3.alloc (.cells #[.int .i64 0, .int .i64 0] 23)) w3.heap.size 23 #[.int .i64 0, .int .i64 0] := hdx
        replace bw : Below w.heap.size w (w3.alloc (.cells #[.int .i64 0, .int .i64 0] 23)) := by go_grown
        (try refine ⟨⟨HP, bw⟩, ?_⟩)
        skip
        refine tr_hard1 (i := 6) (by kernel_rfl) rfl ?_
        obtain ⟨hcs, hfs⟩ := Ps.facts
        go_wp2_with fail
        replace HC : Hd (((w3.setCell ⟨w2.heap.size, 0, none⟩ (.int .i64 1073741824)).setCell ⟨w2.heap.size, 1, none⟩ (.int .i64 1073741824)).alloc (.cells #[.int .i64 0, .int .i64 0] 23)) w.heap.size 25 #[.int .i64 0, .int .i64 0, .int .i64 0, .int .i64 0] := hdx
        replace HY : Hd (((w3.setCell ⟨w2.heap.size, 0, none⟩ (.int .i64 1073741824)).setCell ⟨w2.heap.size, 1, none⟩ (.int .i64 1073741824)).alloc (.cells #[.int .i64 0, .int .i64 0] 23)) (w.heap.size + 1) 107 (byArr 10) := hdx
        replace HP : Hd (((w3.setCell ⟨w2.heap.size, 0, none⟩ (.int .i64 1073741824)).setCell ⟨w2.heap.size, 1, none⟩ (.int .i64 1073741824)).alloc (.cells #[.int .i64 0, .int .i64 0] 23)) w1.heap.size 23 #[.int .i64 1073741824, .int .i64 1073741824] := hdx
        replace Hs : Hd (((w3.setCell ⟨w2.heap.size, 0, none⟩ (.int .i64 1073741824)).setCell ⟨w2.heap.size, 1, none⟩ (.int .i64 1073741824)).alloc (.cells #[.int .i64 0, .int .i64 0] 23)) w2.heap.size 23 #[.int .i64 1073741824, .int .i64 1073741824] := hdx
        replace Hc : Hd (((w3.setCell ⟨w2.heap.size, 0, none⟩ (.int .i64 1073741824)).setCell ⟨w2.heap.size, 1, none⟩ (.int .i64 1073741824)).alloc (.cells #[.int .i64 0, .int .i64 0] 23)) w3.heap.size 23 #[.int .i64 0, .int .i64 0] := hdx
        replace bw : Below w.heap.size w (((w3.setCell ⟨w2.heap.size, 0, none⟩ (.int .i64 1073741824)).setCell ⟨w2.heap.size, 1, none⟩ (.int .i64 1073741824)).alloc (.cells #[.int .i64 0, .int .i64 0] 23)) := by go_grown
        (try refine ⟨⟨HP, bw⟩, ?_⟩)
        skip
        refine tr_nil (by kernel_rfl) ?_
        go_wp2_with fail
        go_meet
        exact ⟨w3.heap.size, w2.heap.size, rfl, rfl, by omega, by omega, by omega, by omega, by omega, HC, HY, HP, Hc, Hs, bw⟩
      · go_wp2_with fail
        have ltCc : w.heap.size < (w2.heap.size + 1) := by (have := HC.lt; (try simp only [World.size_alloc, World.size_setCell, World.size_drew] at this); omega)
        have ltYc : (w.heap.size + 1) < (w2.heap.size + 1) := by (have := HY.lt; (try simp only [World.size_alloc, World.size_setCell, World.size_drew] at this); omega)
        have ltPc : w1.heap.size < (w2.heap.size + 1) := by (have := HP.lt; (try simp only [World.size_alloc, World.size_setCell, World.size_drew] at this); omega)
        have ltsc : w2.heap.size < (w2.heap.size + 1) := by (have := Hs.lt; (try simp only [World.size_alloc, World.size_setCell, World.size_drew] at this); omega)
        replace HC : Hd ((w2.alloc (.cells #[.int .i64 0, .int .i64 0] 23)).alloc (.cells #[.int .i64 0, .int .i64 0] 23)) w.heap.size 25 #[.int .i64 0, .int .i64 0, .int .i64 0, .int .i64 0] := hdx
        replace HY : Hd ((w2.alloc (.cells #[.int .i64 0, .int .i64 0] 23)).alloc (.cells #[.int .i64 0, .int .i64 0] 23)) (w.heap.size + 1) 107 (byArr 10) := hdx
        replace HP : Hd ((w2.alloc (.cells #[.int .i64 0, .int .i64 0] 23)).alloc (.cells #[.int .i64 0, .int .i64 0] 23)) w1.heap.size 23 #[.int .i64 1073741824, .int .i64 1073741824] := hdx
        replace Hs : Hd ((w2.alloc (.cells #[.int .i64 0, .int .i64 0] 23)).alloc (.cells #[.int .i64 0, .int .i64 0] 23)) w2.heap.size 23 #[.int .i64 0, .int .i64 0] := hdx
        replace bw : Below w.heap.size w ((w2.alloc (.cells #[.int .i64 0, .int .i64 0] 23)).alloc (.cells #[.int .i64 0, .int .i64 0] 23)) := by go_grown
        have Hc : Hd ((w2.alloc (.cells #[.int .i64 0, .int .i64 0] 23)).alloc (.cells #[.int .i64 0, .int .i64 0] 23)) (w2.heap.size + 1) 23 #[.int .i64 0, .int .i64 0] := hdx
        (try refine ⟨⟨HP, bw⟩, ?_⟩)
        skip
        refine tr_hard1 (i := 0) (by kernel_rfl) rfl ?_
        go_wp2_with fail
        refine (point00 _).mono ?_
        rintro e w3 ⟨rfl, hb3⟩
        replace bw : Below w.heap.size w w3 := below_next bw hb3
        replace HC := HC.call hb3
        replace HY := HY.call hb3
        replace HP := HP.call hb3
        replace Hs := Hs.call hb3
        replace Hc := Hc.call hb3
        have lw3 : w.heap.size ≤ w3.heap.size := bw.size
        clear hb3
        go_wp2_with fail
        (try refine ⟨⟨HP, bw⟩, ?_⟩)
        skip
        (refine tr_soft (i := 1) (v := ?_) rfl rfl (by kernel_rfl) (fun c d v a w h => by cases d <;> exact h) (fun w' hw' => ?_) ⟨HP, bw⟩ ?_; rotate_left 1; (focus (obtain ⟨hP, hBw⟩ := hw'; obtain ⟨hcP, hfP⟩ := hP.facts; go_simp; (try with_reducible rfl); done)); simp only [Act.put, Act.eval, qs])
        refine tr_hard1 (i := 5) (by kernel_rfl) rfl ?_
        obtain ⟨hcc, hfc⟩ := Hc.facts
        go_wp2_with fail
        have PC := HC
        have PY := HY
        have PP := HP
        have Ps := Hs
        have Pc := Hc
        have Pbw := bw
        replace HC : Hd ((w3.setCell ⟨(w2.heap.size + 1), 0, none⟩ (.int .i64 0)).setCell ⟨(w2.heap.size + 1), 1, none⟩ (.int .i64 0)) w.heap.size 25 #[.int .i64 0, .int .i64 0, .int .i64 0, .int .i64 0] := hdx
        replace HY : Hd ((w3.setCell ⟨(w2.heap.size + 1), 0, none⟩ (.int .i64 0)).setCell ⟨(w2.heap.size + 1), 1, none⟩ (.int .i64 0)) (w.heap.size + 1) 107 (byArr 10) := hdx
        replace HP : Hd ((w3.setCell ⟨(w2.heap.size + 1), 0, none⟩ (.int .i64 0)).setCell ⟨(w2.heap.size + 1), 1, none⟩ (.int .i64 0)) w1.heap.size 23 #[.int .i64 1073741824, .int .i64 1073741824] := hdx
        replace Hs : Hd ((w3.setCell ⟨(w2.heap.size + 1), 0, none⟩ (.int .i64 0)).setCell ⟨(w2.heap.size + 1), 1, none⟩ (.int .i64 0)) w2.heap.size 23 #[.int .i64 0, .int .i64 0] := hdx
        replace Hc : Hd ((w3.setCell ⟨(w2.heap.size + 1), 0, none⟩ (.int .i64 0)).setCell ⟨(w2.heap.size + 1), 1, none⟩ (.int .i64 0)) (w2.heap.size + 1) 23 #[.int .i64 0, .int .i64 0] := hdx
        replace bw : Below w.heap.size w ((w3.setCell ⟨(w2.heap.size + 1), 0, none⟩ (.int .i64 0)).setCell ⟨(w2.heap.size + 1), 1, none⟩ (.int .i64 0)) := by go_grown
        (try refine ⟨⟨HP, bw⟩, ?_⟩)
        skip
        refine tr_hard1 (i := 6) (by kernel_rfl) rfl ?_
        obtain ⟨hcs, hfs⟩ := Ps.facts
        go_wp2_with fail
        replace HC : Hd ((((w3.setCell ⟨(w2.heap.size + 1), 0, none⟩ (.int .i64 0)).setCell ⟨(w2.heap.size + 1), 1, none⟩ (.int .i64 0)).setCell ⟨w2.heap.size, 0, none⟩ (.int .i64 1073741824)).setCell ⟨w2.heap.size, 1, none⟩ (.int .i64 1073741824)) w.heap.size 25 #[.int .i64 0, .int .i64 0, .int .i64 0, .int .i64 0] := hdx
        replace HY : Hd ((((w3.setCell ⟨(w2.heap.size + 1), 0, none⟩ (.int .i64 0)).setCell ⟨(w2.heap.size + 1), 1, none⟩ (.int .i64 0)).setCell ⟨w2.heap.size, 0, none⟩ (.int .i64 1073741824)).setCell ⟨w2.heap.size, 1, none⟩ (.int .i64 1073741824)) (w.heap.size + 1) 107 (byArr 10) := hdx
        replace HP : Hd ((((w3.setCell ⟨(w2.heap.size + 1), 0, none⟩ (.int .i64 0)).setCell ⟨(w2.heap.size + 1), 1, none⟩ (.int .i64 0)).setCell ⟨w2.heap.size, 0, none⟩ (.int .i64 1073741824)).setCell ⟨w2.heap.size, 1, none⟩ (.int .i64 1073741824)) w1.heap.size 23 #[.int .i64 1073741824, .int .i64 1073741824] := hdx
        replace Hs : Hd ((((w3.setCell ⟨(w2.heap.size + 1), 0, none⟩ (.int .i64 0)).setCell ⟨(w2.heap.size + 1), 1, none⟩ (.int .i64 0)).setCell ⟨w2.heap.size, 0, none⟩ (.int .i64 1073741824)).setCell ⟨w2.heap.size, 1, none⟩ (.int .i64 1073741824)) w2.heap.size 23 #[.int .i64 1073741824, .int .i64 1073741824] := hdx
        replace Hc : Hd ((((w3.setCell ⟨(w2.heap.size + 1), 0, none⟩ (.int .i64 0)).setCell ⟨(w2.heap.size + 1), 1, none⟩ (.int .i64 0)).setCell ⟨w2.heap.size, 0, none⟩ (.int .i64 1073741824)).setCell ⟨w2.heap.size, 1, none⟩ (.int .i64 1073741824)) (w2.heap.size + 1) 23 #[.int .i64 0, .int .i64 0] := hdx
        replace bw : Below w.heap.size w ((((w3.setCell ⟨(w2.heap.size + 1), 0, none⟩ (.int .i64 0)).setCell ⟨(w2.heap.size + 1), 1, none⟩ (.int .i64 0)).setCell ⟨w2.heap.size, 0, none⟩ (.int .i64 1073741824)).setCell ⟨w2.heap.size, 1, none⟩ (.int .i64 1073741824)) := by go_grown
        (try refine ⟨⟨HP, bw⟩, ?_⟩)
        skip
        refine tr_nil (by kernel_rfl) ?_
        go_wp2_with fail
        go_meet
        exact ⟨(w2.heap.size + 1), w2.heap.size, rfl, rfl, by omega, by omega, by omega, by omega, by omega, HC, HY, HP, Hc, Hs, bw⟩

theorem unit_any (n : Int) (w : World) : Calls Try.prog 63 #[.int .i64 n] w (Post rcV (En.unit n) w) :=
  unit_go n (n % 1024).toNat (by rw [and1023]; omega) (by omega) w
end Go.Proofs.Ytpbbbfglecbceaa
