/- Package enclose: the span of some fractions. -/
import Derived.Test.YtpbbbfglecbceaaEn2
namespace Go.Proofs.Ytpbbbfglecbceaa
set_option linter.all false
open Go.RowKit

/-- A row of fractions at the head of block b. -/
structure FrRow (w : World) (b n : Nat) (f : Nat → En.Fr) : Prop where
  neg : ∀ i, i < n → w.cell? ⟨b, i * 4, none⟩ = some (.bool (f i).neg)
  hi : ∀ i, i < n → w.cell? ⟨b, i * 4 + 1, none⟩ = some (.int .u64 (f i).hi)
  lo : ∀ i, i < n → w.cell? ⟨b, i * 4 + 2, none⟩ = some (.int .u64 (f i).lo)
  c : ∀ i, i < n → w.cell? ⟨b, i * 4 + 3, none⟩ = some (.int .u64 (f i).c)

theorem around_go (b m : Nat) (f : Nat → En.Fr) (hm : m ≤ 8) (hwf : ∀ i, i < m + 2 → (f i).wf) (w : World) (hb : b < w.heap.size) (hr : FrRow w b (m + 2) f) :
    Calls Try.prog 114 #[.slice (some ⟨b, 0, none⟩) (m + 2) (m + 2)] w (Post spV (En.span (En.lowF f (m + 1)) (En.highF f (m + 1))) w) := by
  have n0 := hr.neg 0 (by omega)
  have hi0 := hr.hi 0 (by omega)
  have lo0 := hr.lo 0 (by omega)
  have c0 := hr.c 0 (by omega)
  simp only [Nat.zero_mul, Nat.zero_add] at n0 hi0 lo0 c0
  have hm0 : (0 : Int) < (m : Int) + 2 := by omega
  have HR := Lib.hid hr
  have wf0 := hwf 0 (by omega)
  have F := Lib.hid (floor_any (f 0).neg (f 0).hi (f 0).lo (f 0).c wf0.h0 wf0.h1 wf0.l0 wf0.l1 wf0.c0 wf0.c1)
  have G := Lib.hid (ceil_any (f 0).neg (f 0).hi (f 0).lo (f 0).c wf0.h0 wf0.h1 wf0.l0 wf0.l1 wf0.c0 wf0.c1)
  clear wf0
  have HW := Lib.hid hwf
  clear hr hwf
  go_enter Try.func114, Try.ntmps114
  go_wp2
  have HB0 : Hd (w.alloc (.cells #[.int .i64 0, .int .i64 0] 23)).drew w.heap.size 23 #[.int .i64 0, .int .i64 0] := by (repeat' (first | (with_reducible assumption) | (with_reducible refine Hd.new ?_; (try simp only [World.size_alloc, World.size_setCell, World.size_drew]); done) | with_reducible refine Hd.alloc ?_ _ | with_reducible refine Hd.drew ?_ | with_reducible refine Hd.drewN ?_ _ | with_reducible apply Hd.set' | (with_reducible refine Hd.far ?_ ?_ _; rotate_left; (simp; try omega; done)) | exact (rfl : Array.setIfInBounds _ _ _ = _)))
  (refine wp_region_eag (fun w' => Hd w' w.heap.size 23 #[.int .i64 0, .int .i64 0] ∧ Below w.heap.size w w') [(0, true), (1, true), (2, true), (4, true), (5, true), (6, true), (3, false), (7, false), (8, true), (9, true)] (by kernel_rfl) (by kernel_rfl) (fun c d v a w h => by cases d <;> exact h) ⟨HB0, by go_grown⟩ ?_; simp only [List.map_cons, List.map_nil, List.getD_cons_zero, List.getD_cons_succ, flMark, Nat.reduceEqDiff, ↓reduceIte])
  repeat ((first | with_reducible apply eag_move | with_reducible apply eag_assign | ((with_reducible refine eag_soft (v := ?_) (fun w' hw' => ?_) ?_); rotate_left 1; (focus (obtain ⟨hH, hBw⟩ := hw'; obtain ⟨hc, hf⟩ := bcell hBw; go_simp; (try with_reducible rfl); done)))); simp only [Act.put, Act.eval, qs])
  refine eag_hard ?_
  go_wp2_with (go_at_call 134; refine (F.out _).mono ?_; rintro e w1 ⟨rfl, hb1⟩; have bw1 : Below w.heap.size w w1 := below_next (by go_grown) hb1)
  refine ⟨⟨HB0.call hb1, bw1⟩, ?_⟩
  repeat ((first | with_reducible apply eag_move | with_reducible apply eag_assign | ((with_reducible refine eag_soft (v := ?_) (fun w' hw' => ?_) ?_); rotate_left 1; (focus (obtain ⟨hH, hBw⟩ := hw'; obtain ⟨hc, hf⟩ := bcell hBw; go_simp; (try with_reducible rfl); done)))); simp only [Act.put, Act.eval, qs])
  refine eag_hard ?_
  go_wp2_with (go_at_call 135; refine (G.out _).mono ?_; rintro e w2 ⟨rfl, hb2⟩; have bw2 : Below w.heap.size w w2 := below_next (by go_grown) hb2)
  refine ⟨⟨(HB0.call hb1).call hb2, bw2⟩, ?_⟩
  have HB2 := (HB0.call hb1).call hb2
  clear HB0 hb1 hb2 bw1 F G
  repeat ((first | with_reducible apply eag_move | with_reducible apply eag_assign | ((with_reducible refine eag_soft (v := ?_) (fun w' hw' => ?_) ?_); rotate_left 1; (focus (obtain ⟨hH, hBw⟩ := hw'; obtain ⟨hc, hf⟩ := bcell hBw; go_simp; (try with_reducible rfl); done)))); simp only [Act.put, Act.eval, qs])
  refine eag_nil ?_
  go_wp2
  go_loopw [3, 4, 18] (fun lo hi k wr => ∃ i : Nat, i ≤ m + 1 ∧ k = .int .i64 i ∧ lo = .int .i64 (En.lowF f i) ∧ hi = .int .i64 (En.highF f i) ∧ Below w.heap.size w wr ∧ Hd wr w.heap.size 23 #[.int .i64 0, .int .i64 0])
    (fun _ _ k _ => m + 1 - (intOf k).toNat)
  case atStart => exact ⟨0, by omega, rfl, rfl, rfl, bw2, HB2⟩
  case round =>
    obtain ⟨i, hi, rfl, rfl, rfl, hbr, hdr⟩ := hrel
    clear HB2 bw2
    by_cases hlt : i < m + 1
    · have hlt' : (i : Int) < (m : Int) + 1 := by omega
      have e4 : (i + 1) * 4 = 4 + i * 4 := by omega
      have r0 := HR.out.neg (i + 1) (by omega)
      have r1 := HR.out.hi (i + 1) (by omega)
      have r2 := HR.out.lo (i + 1) (by omega)
      have r3 := HR.out.c (i + 1) (by omega)
      rw [e4, ← hbr.cell hb] at r0 r1 r2 r3
      have wfi := HW.out (i + 1) (by omega)
      have hlo : Hid (En.lowF f (i + 1) = min (En.lowF f i) (f (i + 1)).floor) := rfl
      have hhi : Hid (En.highF f (i + 1) = max (En.highF f i) (f (i + 1)).ceil) := rfl
      have F := Lib.hid (floor_any (f (i + 1)).neg (f (i + 1)).hi (f (i + 1)).lo (f (i + 1)).c wfi.h0 wfi.h1 wfi.l0 wfi.l1 wfi.c0 wfi.c1)
      have G := Lib.hid (ceil_any (f (i + 1)).neg (f (i + 1)).hi (f (i + 1)).lo (f (i + 1)).c wfi.h0 wfi.h1 wfi.l0 wfi.l1 wfi.c0 wfi.c1)
      clear wfi e4
      have lw : w.heap.size < wr.heap.size := hdr.lt
      go_wp2
      have HB0 : Hd (wr.alloc (.cells #[.bool (f (i + 1)).neg, .int .u64 (f (i + 1)).hi, .int .u64 (f (i + 1)).lo, .int .u64 (f (i + 1)).c] 111)).drew w.heap.size 23 #[.int .i64 0, .int .i64 0] := by (repeat' (first | (with_reducible assumption) | (with_reducible refine Hd.new ?_; (try simp only [World.size_alloc, World.size_setCell, World.size_drew]); done) | with_reducible refine Hd.alloc ?_ _ | with_reducible refine Hd.drew ?_ | with_reducible refine Hd.drewN ?_ _ | with_reducible apply Hd.set' | (with_reducible refine Hd.far ?_ ?_ _; rotate_left; (simp; try omega; done)) | exact (rfl : Array.setIfInBounds _ _ _ = _)))
      have HC0 : Hd (wr.alloc (.cells #[.bool (f (i + 1)).neg, .int .u64 (f (i + 1)).hi, .int .u64 (f (i + 1)).lo, .int .u64 (f (i + 1)).c] 111)).drew wr.heap.size 111 #[.bool (f (i + 1)).neg, .int .u64 (f (i + 1)).hi, .int .u64 (f (i + 1)).lo, .int .u64 (f (i + 1)).c] := by (repeat' (first | (with_reducible assumption) | (with_reducible refine Hd.new ?_; (try simp only [World.size_alloc, World.size_setCell, World.size_drew]); done) | with_reducible refine Hd.alloc ?_ _ | with_reducible refine Hd.drew ?_ | with_reducible refine Hd.drewN ?_ _ | with_reducible apply Hd.set' | (with_reducible refine Hd.far ?_ ?_ _; rotate_left; (simp; try omega; done)) | exact (rfl : Array.setIfInBounds _ _ _ = _)))
      clear r0 r1 r2 r3
      have bwr : Below w.heap.size w wr := hbr
      have lwr : w.heap.size ≤ wr.heap.size := hbr.size
      (refine wp_region_eag (fun w' => Hd w' w.heap.size 23 #[.int .i64 0, .int .i64 0] ∧ Hd w' wr.heap.size 111 #[.bool (f (i + 1)).neg, .int .u64 (f (i + 1)).hi, .int .u64 (f (i + 1)).lo, .int .u64 (f (i + 1)).c] ∧ Below w.heap.size w w') [(0, true), (1, true), (4, true), (5, true), (2, false), (3, true), (6, false), (7, true), (8, true), (9, true)] (by kernel_rfl) (by kernel_rfl) (fun c d v a w h => by cases d <;> exact h) ⟨HB0, HC0, by go_grown⟩ ?_; simp only [List.map_cons, List.map_nil, List.getD_cons_zero, List.getD_cons_succ, flMark, Nat.reduceEqDiff, ↓reduceIte])
      repeat ((first | with_reducible apply eag_move | with_reducible apply eag_assign | ((with_reducible refine eag_soft (v := ?_) (fun w' hw' => ?_) ?_); rotate_left 1; (focus (obtain ⟨hH, hC, hBw⟩ := hw'; obtain ⟨hc, hf⟩ := hC.facts; go_simp; (try with_reducible rfl); done)))); simp only [Act.put, Act.eval, qs])
      refine eag_hard ?_
      go_wp2_with (go_at_call 134; refine (F.out _).mono ?_; rintro e w3 ⟨rfl, hb3⟩; have bw3 : Below w.heap.size w w3 := below_next (by go_grown) hb3)
      refine ⟨⟨HB0.call hb3, HC0.call hb3, bw3⟩, ?_⟩
      repeat ((first | with_reducible apply eag_move | with_reducible apply eag_assign | ((with_reducible refine eag_soft (v := ?_) (fun w' hw' => ?_) ?_); rotate_left 1; (focus (obtain ⟨hH, hC, hBw⟩ := hw'; obtain ⟨hc, hf⟩ := hC.facts; go_simp; (try with_reducible rfl); done)))); simp only [Act.put, Act.eval, qs])
      refine eag_hard ?_
      go_wp2_with (go_at_call 135; refine (G.out _).mono ?_; rintro e w4 ⟨rfl, hb4⟩; have bw4 : Below w.heap.size w w4 := below_next (by go_grown) hb4)
      refine ⟨⟨(HB0.call hb3).call hb4, (HC0.call hb3).call hb4, bw4⟩, ?_⟩
      have HB4 := (HB0.call hb3).call hb4
      clear HB0 HC0 hb3 hb4 bw3 F G
      repeat ((first | with_reducible apply eag_move | with_reducible apply eag_assign | ((with_reducible refine eag_soft (v := ?_) (fun w' hw' => ?_) ?_); rotate_left 1; (focus (obtain ⟨hH, hC, hBw⟩ := hw'; obtain ⟨hc, hf⟩ := hC.facts; go_simp; (try with_reducible rfl); done)))); simp only [Act.put, Act.eval, qs])
      refine eag_nil ?_
      go_wp2
      go_roundw
      case rel => exact ⟨i + 1, by omega, by go_num, by rw [hlo.out], by rw [hhi.out], bw4, HB4⟩
      case measure => simp [intOf]; omega
    · have hlt' : ¬ (i : Int) < (m : Int) + 1 := by omega
      obtain rfl : i = m + 1 := by omega
      go_wp2_with fail
      refine (span_any _ _ _).mono ?_
      intro e w3 hp
      obtain ⟨hb3, hcase⟩ := hp.cases
      have bw3 : Below w.heap.size w w3 := below_next hbr hb3
      have HB3 := hdr.call hb3
      rcases hcase with ⟨s, hs, rfl⟩ | ⟨c, hs, rfl⟩
      · obtain ⟨hc3, hf3⟩ := HB3.facts
        go_wp2
        refine bodyPost_ret (run_results1 rfl rfl (by (show Hd _ (w.heap.size) 23 #[.int .i64 s.lo, .int .i64 s.hi]); (repeat' (first | (with_reducible assumption) | (with_reducible refine Hd.new ?_; (try simp only [World.size_alloc, World.size_setCell, World.size_drew]); done) | with_reducible refine Hd.alloc ?_ _ | with_reducible refine Hd.drew ?_ | with_reducible refine Hd.drewN ?_ _ | with_reducible apply Hd.set' | (with_reducible refine Hd.far ?_ ?_ _; rotate_left; (simp; try omega; done)) | exact (rfl : Array.setIfInBounds _ _ _ = _)))) Try.underlying23 rfl (by kernel_rfl)) rfl (post_ok hs (by go_grown))
      · exact ⟨rfl, post_err hs (by go_grown)⟩
end Go.Proofs.Ytpbbbfglecbceaa
