/- Package enclose: the least span for a fraction. -/
import Derived.Test.YtpbbbfglecbceaaEn4
import Derived.Test.YtpbbbfglecbceaaPl2
namespace Go.Proofs.Ytpbbbfglecbceaa
set_option linter.all false
open Go.RowKit

theorem around1_any (A : En.Fr) (hA : A.wf) (g t : Nat) (w : World) (h : Hd w g t #[.bool A.neg, .int .u64 A.hi, .int .u64 A.lo, .int .u64 A.c]) :
    Calls Try.prog 114 #[.slice (some ⟨g, 0, none⟩) 1 1] w (Post spV (En.span A.floor A.ceil) w) := by
  obtain ⟨hcA, hfA⟩ := h.facts
  have hb := h.lt
  have F := Lib.hid (floor_any A.neg A.hi A.lo A.c hA.h0 hA.h1 hA.l0 hA.l1 hA.c0 hA.c1)
  have G := Lib.hid (ceil_any A.neg A.hi A.lo A.c hA.h0 hA.h1 hA.l0 hA.l1 hA.c0 hA.c1)
  clear hA
  obtain ⟨fl, hfl⟩ : ∃ q, A.floor = q := ⟨_, rfl⟩
  obtain ⟨ce, hce⟩ : ∃ q, A.ceil = q := ⟨_, rfl⟩
  rw [show (⟨A.neg, A.hi, A.lo, A.c⟩ : En.Fr).floor = fl from hfl] at F
  rw [show (⟨A.neg, A.hi, A.lo, A.c⟩ : En.Fr).ceil = ce from hce] at G
  rw [hfl, hce]
  clear hfl hce
  go_enter Try.func114, Try.ntmps114
  go_wp2
  have HB0 : Hd (w.alloc (.cells #[.int .i64 0, .int .i64 0] 23)).drew w.heap.size 23 #[.int .i64 0, .int .i64 0] := hdx
  have HG : Hd (w.alloc (.cells #[.int .i64 0, .int .i64 0] 23)).drew g t #[.bool A.neg, .int .u64 A.hi, .int .u64 A.lo, .int .u64 A.c] := hdx
  (refine wp_region_eag (fun w' => Hd w' w.heap.size 23 #[.int .i64 0, .int .i64 0] ∧ Hd w' g t #[.bool A.neg, .int .u64 A.hi, .int .u64 A.lo, .int .u64 A.c] ∧ Below w.heap.size w w') [(0, true), (1, true), (2, true), (4, true), (5, true), (6, true), (3, false), (7, false), (8, true), (9, true)] (by kernel_rfl) (by kernel_rfl) (fun c d v a w h => by cases d <;> exact h) ⟨HB0, HG, by go_grown⟩ ?_; simp only [List.map_cons, List.map_nil, List.getD_cons_zero, List.getD_cons_succ, flMark, Nat.reduceEqDiff, ↓reduceIte])
  repeat ((first | with_reducible apply eag_move | with_reducible apply eag_assign | ((with_reducible refine eag_soft (v := ?_) (fun w' hw' => ?_) ?_); rotate_left 1; (focus (obtain ⟨_, hG, hBw⟩ := hw'; obtain ⟨hc, hf⟩ := hG.facts; go_simp; (try with_reducible rfl); done)))); simp only [Act.put, Act.eval, qs])
  refine eag_hard ?_
  go_wp2_with (go_at_call 134; refine (F.out _).mono ?_; rintro e w1 ⟨rfl, hb1⟩; have bw1 : Below w.heap.size w w1 := below_next (by go_grown) hb1)
  refine ⟨⟨HB0.call hb1, HG.call hb1, bw1⟩, ?_⟩
  repeat ((first | with_reducible apply eag_move | with_reducible apply eag_assign | ((with_reducible refine eag_soft (v := ?_) (fun w' hw' => ?_) ?_); rotate_left 1; (focus (obtain ⟨_, hG, hBw⟩ := hw'; obtain ⟨hc, hf⟩ := hG.facts; go_simp; (try with_reducible rfl); done)))); simp only [Act.put, Act.eval, qs])
  refine eag_hard ?_
  go_wp2_with (go_at_call 135; refine (G.out _).mono ?_; rintro e w2 ⟨rfl, hb2⟩; have bw2 : Below w.heap.size w w2 := below_next (by go_grown) hb2)
  refine ⟨⟨(HB0.call hb1).call hb2, (HG.call hb1).call hb2, bw2⟩, ?_⟩
  have HB2 := (HB0.call hb1).call hb2
  clear HB0 HG hb1 hb2 bw1 F G
  repeat ((first | with_reducible apply eag_move | with_reducible apply eag_assign | ((with_reducible refine eag_soft (v := ?_) (fun w' hw' => ?_) ?_); rotate_left 1; (focus (obtain ⟨_, hG, hBw⟩ := hw'; obtain ⟨hc, hf⟩ := hG.facts; go_simp; (try with_reducible rfl); done)))); simp only [Act.put, Act.eval, qs])
  refine eag_nil ?_
  go_wp2
  go_loopw [3, 4, 18] (fun lo hi k wr => k = .int .i64 0 ∧ lo = .int .i64 fl ∧ hi = .int .i64 ce ∧ wr = w2) (fun _ _ _ _ => 0)
  case atStart => exact ⟨rfl, rfl, rfl, rfl⟩
  case round =>
    obtain ⟨rfl, rfl, rfl, rfl⟩ := hrel
    go_wp2_with fail
    refine (span_any _ _ _).mono ?_
    intro e w3 hp
    obtain ⟨hb3, hcase⟩ := hp.cases
    have bw3 : Below w.heap.size w w3 := below_next bw2 hb3
    have HB3 := HB2.call hb3
    rcases hcase with ⟨s, hs, rfl⟩ | ⟨c, hs, rfl⟩
    · obtain ⟨hc3, hf3⟩ := HB3.facts
      go_wp2
      refine bodyPost_ret (run_results1 rfl rfl (by (show Hd _ (w.heap.size) 23 #[.int .i64 s.lo, .int .i64 s.hi]); exact hdx) Try.underlying23 rfl (by kernel_rfl)) rfl (post_ok hs (by go_grown))
    · exact ⟨rfl, post_err hs (by go_grown)⟩

theorem part_any (n d : Int) (n0 : -1000000000 ≤ n) (n1 : n ≤ 1000000000) (d0 : 1 ≤ d) (d1 : d ≤ 1000000000) (w : World) :
    Calls Try.prog 75 #[.int .i64 n, .int .i64 d] w (Post spV (En.part n d) w) := by
  go_enter Try.func75, Try.ntmps75
  go_wp2_with fail
  have HC : Hd (w.alloc (.cells #[.int .i64 0, .int .i64 0] 23)) w.heap.size 23 #[.int .i64 0, .int .i64 0] := hdx
  have bw : Below w.heap.size w (w.alloc (.cells #[.int .i64 0, .int .i64 0] 23)) := by go_grown
  refine (over_any n 1073741824 d (by omega) (by omega) (by omega) (by omega) (by omega) (by omega) _).mono ?_
  rintro e w1 ⟨rfl, hb1⟩
  replace bw : Below w.heap.size w w1 := below_next bw hb1
  replace HC := HC.call hb1
  have lw1 : w.heap.size ≤ w1.heap.size := bw.size
  clear hb1
  go_wp2_with fail
  replace HC : Hd (w1.alloc (.cells #[.bool (En.over n 1073741824 d).neg, .int .u64 (En.over n 1073741824 d).hi, .int .u64 (En.over n 1073741824 d).lo, .int .u64 (En.over n 1073741824 d).c] 111)) w.heap.size 23 #[.int .i64 0, .int .i64 0] := hdx
  replace bw : Below w.heap.size w (w1.alloc (.cells #[.bool (En.over n 1073741824 d).neg, .int .u64 (En.over n 1073741824 d).hi, .int .u64 (En.over n 1073741824 d).lo, .int .u64 (En.over n 1073741824 d).c] 111)) := by go_grown
  have HF : Hd (w1.alloc (.cells #[.bool (En.over n 1073741824 d).neg, .int .u64 (En.over n 1073741824 d).hi, .int .u64 (En.over n 1073741824 d).lo, .int .u64 (En.over n 1073741824 d).c] 111)) w1.heap.size 111 #[.bool (En.over n 1073741824 d).neg, .int .u64 (En.over n 1073741824 d).hi, .int .u64 (En.over n 1073741824 d).lo, .int .u64 (En.over n 1073741824 d).c] := hdx
  have hwf : (En.over n 1073741824 d).wf := by apply En.over_wf <;> omega
  refine (show Calls _ _ _ _ (Post spV (En.part n d) _) from around1_any _ hwf _ _ _ HF).mono ?_
  intro e w2 hp
  obtain ⟨hb2, hcase⟩ := hp.cases
  clear hp
  replace bw : Below w.heap.size w w2 := below_next bw hb2
  replace HC := HC.call hb2
  have lw2 : w.heap.size ≤ w2.heap.size := bw.size
  clear hb2
  rcases hcase with ⟨s2, hs2, rfl⟩ | ⟨c2, hs2, rfl⟩
  rotate_left
  · exact ⟨rfl, post_err hs2 bw⟩
  obtain ⟨hcC, hfC⟩ := HC.facts
  go_wp2
  refine bodyPost_ret (run_results1 rfl rfl (by (show Hd _ (w.heap.size) 23 #[.int .i64 s2.lo, .int .i64 s2.hi]); exact hdx) Try.underlying23 rfl (by kernel_rfl)) rfl (post_ok hs2 (by go_grown))
end Go.Proofs.Ytpbbbfglecbceaa
