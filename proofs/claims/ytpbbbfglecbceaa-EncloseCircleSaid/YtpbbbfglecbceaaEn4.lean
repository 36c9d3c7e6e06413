/- Package enclose: the operations on spans. -/
import Derived.Test.YtpbbbfglecbceaaEn3
namespace Go.Proofs.Ytpbbbfglecbceaa
set_option linter.all false
open Go.RowKit

theorem frRow4 {w : World} {b t : Nat} {A B C D : En.Fr} (h : Hd w b t #[.bool A.neg, .int .u64 A.hi, .int .u64 A.lo, .int .u64 A.c, .bool B.neg, .int .u64 B.hi, .int .u64 B.lo, .int .u64 B.c,
    .bool C.neg, .int .u64 C.hi, .int .u64 C.lo, .int .u64 C.c, .bool D.neg, .int .u64 D.hi, .int .u64 D.lo, .int .u64 D.c]) : FrRow w b 4 (En.fr4 A B C D) := by
  constructor <;> intro i hi <;> rw [h.cell] <;> (have hi' : i = 0 ∨ i = 1 ∨ i = 2 ∨ i = 3 := by omega) <;> rcases hi' with rfl | rfl | rfl | rfl <;> rfl
theorem frRow2 {w : World} {b t : Nat} {A B : En.Fr} (h : Hd w b t #[.bool A.neg, .int .u64 A.hi, .int .u64 A.lo, .int .u64 A.c, .bool B.neg, .int .u64 B.hi, .int .u64 B.lo, .int .u64 B.c]) :
    FrRow w b 2 (En.fr2 A B) := by
  constructor <;> intro i hi <;> rw [h.cell] <;> (have hi' : i = 0 ∨ i = 1 := by omega) <;> rcases hi' with rfl | rfl <;> rfl
theorem wf4 {A B C D : En.Fr} (a : A.wf) (b : B.wf) (c : C.wf) (d : D.wf) : ∀ i, i < 2 + 2 → (En.fr4 A B C D i).wf := by
  intro i hi
  have hi' : i = 0 ∨ i = 1 ∨ i = 2 ∨ i = 3 := by omega
  rcases hi' with rfl | rfl | rfl | rfl <;> assumption
theorem wf2 {A B : En.Fr} (a : A.wf) (b : B.wf) : ∀ i, i < 0 + 2 → (En.fr2 A B i).wf := by
  intro i hi
  have hi' : i = 0 ∨ i = 1 := by omega
  rcases hi' with rfl | rfl <;> assumption
theorem around4_any (A B C D : En.Fr) (a : A.wf) (b : B.wf) (c : C.wf) (d : D.wf) (g t : Nat) (w : World) (h : Hd w g t #[.bool A.neg, .int .u64 A.hi, .int .u64 A.lo, .int .u64 A.c, .bool B.neg, .int .u64 B.hi, .int .u64 B.lo, .int .u64 B.c,
    .bool C.neg, .int .u64 C.hi, .int .u64 C.lo, .int .u64 C.c, .bool D.neg, .int .u64 D.hi, .int .u64 D.lo, .int .u64 D.c]) :
    Calls Try.prog 114 #[.slice (some ⟨g, 0, none⟩) 4 4] w (Post spV (En.around4 A B C D) w) :=
  around_go g 2 (En.fr4 A B C D) (by omega) (wf4 a b c d) w h.lt (frRow4 h)
theorem around2_any (A B : En.Fr) (a : A.wf) (b : B.wf) (g t : Nat) (w : World) (h : Hd w g t #[.bool A.neg, .int .u64 A.hi, .int .u64 A.lo, .int .u64 A.c, .bool B.neg, .int .u64 B.hi, .int .u64 B.lo, .int .u64 B.c]) :
    Calls Try.prog 114 #[.slice (some ⟨g, 0, none⟩) 2 2] w (Post spV (En.span (En.lowF (En.fr2 A B) 1) (En.highF (En.fr2 A B) 1)) w) :=
  around_go g 0 (En.fr2 A B) (by omega) (wf2 a b) w h.lt (frRow2 h)

theorem add_any (s t : En.Sp) (hs : s.fit) (ht : t.fit) (w : World) : Calls Try.prog 92 #[spV s, spV t] w (Post spV (En.add s t) w) := by
  obtain ⟨a, b⟩ := s
  obtain ⟨c, d⟩ := t
  obtain ⟨a1, a2, b1, b2⟩ := hs
  obtain ⟨c1, c2, d1, d2⟩ := ht
  dsimp only at a1 a2 b1 b2 c1 c2 d1 d2
  go_enter Try.func92, Try.ntmps92
  go_wp2_with fail
  refine (span_any _ _ _).mono ?_
  intro e w1 hp
  obtain ⟨hb1, hcase⟩ := hp.cases
  have bw1 : Below w.heap.size w w1 := below_next (by go_grown) hb1
  have HB1 : Hd w1 (w.heap.size + 2) 23 #[.int .i64 0, .int .i64 0] := Hd.call (by exact hdx) hb1
  rcases hcase with ⟨s, hs, rfl⟩ | ⟨c, hs, rfl⟩
  · obtain ⟨hc1, hf1⟩ := HB1.facts
    go_wp2
    refine bodyPost_ret (run_results1 rfl rfl (by (show Hd _ (w.heap.size + 2) 23 #[.int .i64 s.lo, .int .i64 s.hi]); exact hdx) Try.underlying23 rfl (by kernel_rfl)) rfl (post_ok hs (by go_grown))
  · exact ⟨rfl, post_err hs (by go_grown)⟩

theorem sub_any (s t : En.Sp) (hs : s.fit) (ht : t.fit) (w : World) : Calls Try.prog 110 #[spV s, spV t] w (Post spV (En.sub s t) w) := by
  obtain ⟨a, b⟩ := s
  obtain ⟨c, d⟩ := t
  obtain ⟨a1, a2, b1, b2⟩ := hs
  obtain ⟨c1, c2, d1, d2⟩ := ht
  dsimp only at a1 a2 b1 b2 c1 c2 d1 d2
  go_enter Try.func110, Try.ntmps110
  go_wp2_with fail
  refine (span_any _ _ _).mono ?_
  intro e w1 hp
  obtain ⟨hb1, hcase⟩ := hp.cases
  have bw1 : Below w.heap.size w w1 := below_next (by go_grown) hb1
  have HB1 : Hd w1 (w.heap.size + 2) 23 #[.int .i64 0, .int .i64 0] := Hd.call (by exact hdx) hb1
  rcases hcase with ⟨s, hs, rfl⟩ | ⟨c, hs, rfl⟩
  · obtain ⟨hc1, hf1⟩ := HB1.facts
    go_wp2
    refine bodyPost_ret (run_results1 rfl rfl (by (show Hd _ (w.heap.size + 2) 23 #[.int .i64 s.lo, .int .i64 s.hi]); exact hdx) Try.underlying23 rfl (by kernel_rfl)) rfl (post_ok hs (by go_grown))
  · exact ⟨rfl, post_err hs (by go_grown)⟩

theorem half_any (s : En.Sp) (hs : s.fit) (w : World) : Calls Try.prog 109 #[spV s] w (Post spV (En.half s) w) := by
  obtain ⟨a, b⟩ := s
  obtain ⟨a1, a2, b1, b2⟩ := hs
  dsimp only at a1 a2 b1 b2
  go_enter Try.func109, Try.ntmps109
  go_wp2_with fail
  refine (span_any _ _ _).mono ?_
  intro e w1 hp
  obtain ⟨hb1, hcase⟩ := hp.cases
  have bw1 : Below w.heap.size w w1 := below_next (by go_grown) hb1
  have HB1 : Hd w1 (w.heap.size + 1) 23 #[.int .i64 0, .int .i64 0] := Hd.call (by exact hdx) hb1
  rcases hcase with ⟨s, hs, rfl⟩ | ⟨c, hs, rfl⟩
  · obtain ⟨hc1, hf1⟩ := HB1.facts
    go_wp2
    refine bodyPost_ret (run_results1 rfl rfl (by (show Hd _ (w.heap.size + 1) 23 #[.int .i64 s.lo, .int .i64 s.hi]); exact hdx) Try.underlying23 rfl (by kernel_rfl)) rfl (post_ok hs (by go_grown))
  · exact ⟨rfl, post_err hs (by go_grown)⟩

theorem mul_any (s t : En.Sp) (hs : s.fit) (ht : t.fit) (w : World) : Calls Try.prog 116 #[spV s, spV t] w (Post spV (En.mul s t) w) := by
  obtain ⟨a, b⟩ := s
  obtain ⟨c, d⟩ := t
  obtain ⟨a1, a2, b1, b2⟩ := hs
  obtain ⟨c1, c2, d1, d2⟩ := ht
  dsimp only at a1 a2 b1 b2 c1 c2 d1 d2
  go_enter Try.func116, Try.ntmps116
  go_wp2
  have K0 : Hd ((((w.alloc (.cells #[.int .i64 a, .int .i64 b] 23)).alloc (.cells #[.int .i64 c, .int .i64 d] 23)).alloc (.cells #[.int .i64 0, .int .i64 0] 23)).drew) w.heap.size 23 #[.int .i64 a, .int .i64 b] ∧ Hd ((((w.alloc (.cells #[.int .i64 a, .int .i64 b] 23)).alloc (.cells #[.int .i64 c, .int .i64 d] 23)).alloc (.cells #[.int .i64 0, .int .i64 0] 23)).drew) (w.heap.size + 1) 23 #[.int .i64 c, .int .i64 d] ∧
    Hd ((((w.alloc (.cells #[.int .i64 a, .int .i64 b] 23)).alloc (.cells #[.int .i64 c, .int .i64 d] 23)).alloc (.cells #[.int .i64 0, .int .i64 0] 23)).drew) (w.heap.size + 2) 23 #[.int .i64 0, .int .i64 0] ∧ Below w.heap.size w ((((w.alloc (.cells #[.int .i64 a, .int .i64 b] 23)).alloc (.cells #[.int .i64 c, .int .i64 d] 23)).alloc (.cells #[.int .i64 0, .int .i64 0] 23)).drew) := ⟨by exact hdx, by exact hdx, by exact hdx, by go_grown⟩
  (refine wp_region_eag (fun w' => Hd w' w.heap.size 23 #[.int .i64 a, .int .i64 b] ∧ Hd w' (w.heap.size + 1) 23 #[.int .i64 c, .int .i64 d] ∧ Below w.heap.size w w') [(0, true), (1, true), (2, true), (3, true), (5, true), (6, true), (7, true), (8, true), (10, true), (11, true), (12, true), (13, true), (15, true), (16, true), (17, true), (18, true), (4, false), (9, false), (14, false), (19, false), (20, false), (21, false), (22, false)] (by kernel_rfl) (by kernel_rfl) (fun c d v a w h => by cases d <;> exact h) ⟨K0.1, K0.2.1, K0.2.2.2⟩ ?_; simp only [List.map_cons, List.map_nil, List.getD_cons_zero, List.getD_cons_succ, flMark, Nat.reduceEqDiff, ↓reduceIte])
  repeat ((first | with_reducible apply eag_move | with_reducible apply eag_assign | ((with_reducible refine eag_soft (v := ?_) (fun w' hw' => ?_) ?_); rotate_left 1; (focus (obtain ⟨hA, hB, hBw⟩ := hw'; obtain ⟨hc1, hf1⟩ := hA.facts; obtain ⟨hc2, hf2⟩ := hB.facts; go_simp; (try with_reducible rfl); done)))); simp only [Act.put, Act.eval, qs])
  have bw0 := K0.2.2.2
  refine eag_hard ?_
  go_wp2_with (go_at_call 115; refine (over_any a c 1073741824 (by omega) (by omega) (by omega) (by omega) (by omega) (by omega) _).mono ?_; rintro e w1 ⟨rfl, hb1⟩; have bw1 : Below w.heap.size w w1 := below_next (by go_grown) hb1)
  have K1 := And.intro (K0.1.call hb1) (And.intro (K0.2.1.call hb1) (And.intro (K0.2.2.1.call hb1) bw1))
  refine ⟨⟨K1.1, K1.2.1, K1.2.2.2⟩, ?_⟩
  clear K0 hb1 bw0
  refine eag_hard ?_
  go_wp2_with (go_at_call 115; refine (over_any a d 1073741824 (by omega) (by omega) (by omega) (by omega) (by omega) (by omega) _).mono ?_; rintro e w2 ⟨rfl, hb2⟩; have bw2 : Below w.heap.size w w2 := below_next (by go_grown) hb2)
  have K2 := And.intro (K1.1.call hb2) (And.intro (K1.2.1.call hb2) (And.intro (K1.2.2.1.call hb2) bw2))
  refine ⟨⟨K2.1, K2.2.1, K2.2.2.2⟩, ?_⟩
  clear K1 hb2 bw1
  refine eag_hard ?_
  go_wp2_with (go_at_call 115; refine (over_any b c 1073741824 (by omega) (by omega) (by omega) (by omega) (by omega) (by omega) _).mono ?_; rintro e w3 ⟨rfl, hb3⟩; have bw3 : Below w.heap.size w w3 := below_next (by go_grown) hb3)
  have K3 := And.intro (K2.1.call hb3) (And.intro (K2.2.1.call hb3) (And.intro (K2.2.2.1.call hb3) bw3))
  refine ⟨⟨K3.1, K3.2.1, K3.2.2.2⟩, ?_⟩
  clear K2 hb3 bw2
  refine eag_hard ?_
  go_wp2_with (go_at_call 115; refine (over_any b d 1073741824 (by omega) (by omega) (by omega) (by omega) (by omega) (by omega) _).mono ?_; rintro e w4 ⟨rfl, hb4⟩; have bw4 : Below w.heap.size w w4 := below_next (by go_grown) hb4)
  have K4 := And.intro (K3.1.call hb4) (And.intro (K3.2.1.call hb4) (And.intro (K3.2.2.1.call hb4) bw4))
  refine ⟨⟨K4.1, K4.2.1, K4.2.2.2⟩, ?_⟩
  clear K3 hb4 bw3
  refine eag_hard ?_
  go_wp2_with fail
  obtain ⟨J1, J2, J3, bw4⟩ := K4
  have lw4 : w.heap.size ≤ w4.heap.size := bw4.size
  refine ⟨⟨by exact hdx, by exact hdx, by go_grown⟩, ?_⟩
  have HF : Hd (w4.alloc (.cells #[.bool (En.over a c 1073741824).neg, .int .u64 (En.over a c 1073741824).hi, .int .u64 (En.over a c 1073741824).lo, .int .u64 (En.over a c 1073741824).c, .bool (En.over a d 1073741824).neg, .int .u64 (En.over a d 1073741824).hi, .int .u64 (En.over a d 1073741824).lo, .int .u64 (En.over a d 1073741824).c, .bool (En.over b c 1073741824).neg, .int .u64 (En.over b c 1073741824).hi, .int .u64 (En.over b c 1073741824).lo, .int .u64 (En.over b c 1073741824).c, .bool (En.over b d 1073741824).neg, .int .u64 (En.over b d 1073741824).hi, .int .u64 (En.over b d 1073741824).lo, .int .u64 (En.over b d 1073741824).c] 111)) w4.heap.size 111 #[.bool (En.over a c 1073741824).neg, .int .u64 (En.over a c 1073741824).hi, .int .u64 (En.over a c 1073741824).lo, .int .u64 (En.over a c 1073741824).c, .bool (En.over a d 1073741824).neg, .int .u64 (En.over a d 1073741824).hi, .int .u64 (En.over a d 1073741824).lo, .int .u64 (En.over a d 1073741824).c, .bool (En.over b c 1073741824).neg, .int .u64 (En.over b c 1073741824).hi, .int .u64 (En.over b c 1073741824).lo, .int .u64 (En.over b c 1073741824).c, .bool (En.over b d 1073741824).neg, .int .u64 (En.over b d 1073741824).hi, .int .u64 (En.over b d 1073741824).lo, .int .u64 (En.over b d 1073741824).c] := hdx
  have J1' := J1.alloc (.cells #[.bool (En.over a c 1073741824).neg, .int .u64 (En.over a c 1073741824).hi, .int .u64 (En.over a c 1073741824).lo, .int .u64 (En.over a c 1073741824).c, .bool (En.over a d 1073741824).neg, .int .u64 (En.over a d 1073741824).hi, .int .u64 (En.over a d 1073741824).lo, .int .u64 (En.over a d 1073741824).c, .bool (En.over b c 1073741824).neg, .int .u64 (En.over b c 1073741824).hi, .int .u64 (En.over b c 1073741824).lo, .int .u64 (En.over b c 1073741824).c, .bool (En.over b d 1073741824).neg, .int .u64 (En.over b d 1073741824).hi, .int .u64 (En.over b d 1073741824).lo, .int .u64 (En.over b d 1073741824).c] 111)
  have J2' := J2.alloc (.cells #[.bool (En.over a c 1073741824).neg, .int .u64 (En.over a c 1073741824).hi, .int .u64 (En.over a c 1073741824).lo, .int .u64 (En.over a c 1073741824).c, .bool (En.over a d 1073741824).neg, .int .u64 (En.over a d 1073741824).hi, .int .u64 (En.over a d 1073741824).lo, .int .u64 (En.over a d 1073741824).c, .bool (En.over b c 1073741824).neg, .int .u64 (En.over b c 1073741824).hi, .int .u64 (En.over b c 1073741824).lo, .int .u64 (En.over b c 1073741824).c, .bool (En.over b d 1073741824).neg, .int .u64 (En.over b d 1073741824).hi, .int .u64 (En.over b d 1073741824).lo, .int .u64 (En.over b d 1073741824).c] 111)
  have J3' := J3.alloc (.cells #[.bool (En.over a c 1073741824).neg, .int .u64 (En.over a c 1073741824).hi, .int .u64 (En.over a c 1073741824).lo, .int .u64 (En.over a c 1073741824).c, .bool (En.over a d 1073741824).neg, .int .u64 (En.over a d 1073741824).hi, .int .u64 (En.over a d 1073741824).lo, .int .u64 (En.over a d 1073741824).c, .bool (En.over b c 1073741824).neg, .int .u64 (En.over b c 1073741824).hi, .int .u64 (En.over b c 1073741824).lo, .int .u64 (En.over b c 1073741824).c, .bool (En.over b d 1073741824).neg, .int .u64 (En.over b d 1073741824).hi, .int .u64 (En.over b d 1073741824).lo, .int .u64 (En.over b d 1073741824).c] 111)
  have bw4' : Below w.heap.size w (w4.alloc (.cells #[.bool (En.over a c 1073741824).neg, .int .u64 (En.over a c 1073741824).hi, .int .u64 (En.over a c 1073741824).lo, .int .u64 (En.over a c 1073741824).c, .bool (En.over a d 1073741824).neg, .int .u64 (En.over a d 1073741824).hi, .int .u64 (En.over a d 1073741824).lo, .int .u64 (En.over a d 1073741824).c, .bool (En.over b c 1073741824).neg, .int .u64 (En.over b c 1073741824).hi, .int .u64 (En.over b c 1073741824).lo, .int .u64 (En.over b c 1073741824).c, .bool (En.over b d 1073741824).neg, .int .u64 (En.over b d 1073741824).hi, .int .u64 (En.over b d 1073741824).lo, .int .u64 (En.over b d 1073741824).c] 111)) := by go_grown
  refine eag_hard ?_
  go_wp2_with fail
  refine (around4_any (En.over a c 1073741824) (En.over a d 1073741824) (En.over b c 1073741824) (En.over b d 1073741824) (by apply En.over_wf <;> omega) (by apply En.over_wf <;> omega) (by apply En.over_wf <;> omega) (by apply En.over_wf <;> omega) _ _ _ HF).mono ?_
  intro e w5 hp
  obtain ⟨hb5, hcase⟩ := hp.cases
  have bw5 : Below w.heap.size w w5 := below_next bw4' hb5
  have J5 := J3'.call hb5
  have J15 := J1'.call hb5
  have J25 := J2'.call hb5
  clear J1' J2' J3' hb5 bw4' HF J1 J2 J3 hp
  rcases hcase with ⟨s, hs, rfl⟩ | ⟨c, hs, rfl⟩
  · go_wp2_with fail
    refine ⟨⟨J15, J25, bw5⟩, ?_⟩
    refine eag_hard ?_
    obtain ⟨hc5, hf5⟩ := J5.facts
    go_wp2_with fail
    refine ⟨⟨by exact hdx, by exact hdx, by go_grown⟩, ?_⟩
    refine eag_nil ?_
    go_wp2
    refine bodyPost_ret (run_results1 rfl rfl (by (show Hd _ (w.heap.size + 2) 23 #[.int .i64 s.lo, .int .i64 s.hi]); exact hdx) Try.underlying23 rfl (by kernel_rfl)) rfl (post_ok hs (by go_grown))
  · exact ⟨rfl, post_err hs (by go_grown)⟩

theorem div_any (s t : En.Sp) (hs : s.fit) (ht : t.ok = true) (w : World) : Calls Try.prog 118 #[spV s, spV t] w (Post spV (En.div s t) w) := by
  have htc := En.Sp.le_of_ok ht
  replace ht := En.Sp.fit_of_ok ht
  obtain ⟨a, b⟩ := s
  obtain ⟨c, d⟩ := t
  obtain ⟨a1, a2, b1, b2⟩ := hs
  obtain ⟨c1, c2, d1, d2⟩ := ht
  dsimp only at htc a1 a2 b1 b2 c1 c2 d1 d2
  go_enter Try.func118, Try.ntmps118
  by_cases hz : c ≤ 0
  · by_cases hz' : 0 ≤ d
    · go_wp2_with fail
      exact ⟨rfl, post_err (if_pos ⟨hz, hz'⟩) (by go_grown)⟩
    · have hcd : ¬ (c ≤ 0 ∧ 0 ≤ d) := fun h => hz' h.2
      go_wp2
      have K0 : Hd ((((w.alloc (.cells #[.int .i64 a, .int .i64 b] 23)).alloc (.cells #[.int .i64 c, .int .i64 d] 23)).alloc (.cells #[.int .i64 0, .int .i64 0] 23)).drew) w.heap.size 23 #[.int .i64 a, .int .i64 b] ∧ Hd ((((w.alloc (.cells #[.int .i64 a, .int .i64 b] 23)).alloc (.cells #[.int .i64 c, .int .i64 d] 23)).alloc (.cells #[.int .i64 0, .int .i64 0] 23)).drew) (w.heap.size + 1) 23 #[.int .i64 c, .int .i64 d] ∧
        Hd ((((w.alloc (.cells #[.int .i64 a, .int .i64 b] 23)).alloc (.cells #[.int .i64 c, .int .i64 d] 23)).alloc (.cells #[.int .i64 0, .int .i64 0] 23)).drew) (w.heap.size + 2) 23 #[.int .i64 0, .int .i64 0] ∧ Below w.heap.size w ((((w.alloc (.cells #[.int .i64 a, .int .i64 b] 23)).alloc (.cells #[.int .i64 c, .int .i64 d] 23)).alloc (.cells #[.int .i64 0, .int .i64 0] 23)).drew) := ⟨by exact hdx, by exact hdx, by exact hdx, by go_grown⟩
      (refine wp_region_eag (fun w' => Hd w' w.heap.size 23 #[.int .i64 a, .int .i64 b] ∧ Hd w' (w.heap.size + 1) 23 #[.int .i64 c, .int .i64 d] ∧ Below w.heap.size w w') [(0, true), (1, true), (2, true), (3, true), (5, true), (6, true), (7, true), (8, true), (10, true), (11, true), (12, true), (13, true), (15, true), (16, true), (17, true), (18, true), (4, false), (9, false), (14, false), (19, false), (20, false), (21, false), (22, false)] (by kernel_rfl) (by kernel_rfl) (fun c d v a w h => by cases d <;> exact h) ⟨K0.1, K0.2.1, K0.2.2.2⟩ ?_; simp only [List.map_cons, List.map_nil, List.getD_cons_zero, List.getD_cons_succ, flMark, Nat.reduceEqDiff, ↓reduceIte])
      repeat ((first | with_reducible apply eag_move | with_reducible apply eag_assign | ((with_reducible refine eag_soft (v := ?_) (fun w' hw' => ?_) ?_); rotate_left 1; (focus (obtain ⟨hA, hB, hBw⟩ := hw'; obtain ⟨hc1, hf1⟩ := hA.facts; obtain ⟨hc2, hf2⟩ := hB.facts; go_simp; (try with_reducible rfl); done)))); simp only [Act.put, Act.eval, qs])
      have bw0 := K0.2.2.2
      refine eag_hard ?_
      go_wp2_with (go_at_call 115; refine (over_any a 1073741824 c (by omega) (by omega) (by omega) (by omega) (by omega) (by omega) _).mono ?_; rintro e w1 ⟨rfl, hb1⟩; have bw1 : Below w.heap.size w w1 := below_next (by go_grown) hb1)
      have K1 := And.intro (K0.1.call hb1) (And.intro (K0.2.1.call hb1) (And.intro (K0.2.2.1.call hb1) bw1))
      refine ⟨⟨K1.1, K1.2.1, K1.2.2.2⟩, ?_⟩
      clear K0 hb1 bw0
      refine eag_hard ?_
      go_wp2_with (go_at_call 115; refine (over_any a 1073741824 d (by omega) (by omega) (by omega) (by omega) (by omega) (by omega) _).mono ?_; rintro e w2 ⟨rfl, hb2⟩; have bw2 : Below w.heap.size w w2 := below_next (by go_grown) hb2)
      have K2 := And.intro (K1.1.call hb2) (And.intro (K1.2.1.call hb2) (And.intro (K1.2.2.1.call hb2) bw2))
      refine ⟨⟨K2.1, K2.2.1, K2.2.2.2⟩, ?_⟩
      clear K1 hb2 bw1
      refine eag_hard ?_
      go_wp2_with (go_at_call 115; refine (over_any b 1073741824 c (by omega) (by omega) (by omega) (by omega) (by omega) (by omega) _).mono ?_; rintro e w3 ⟨rfl, hb3⟩; have bw3 : Below w.heap.size w w3 := below_next (by go_grown) hb3)
      have K3 := And.intro (K2.1.call hb3) (And.intro (K2.2.1.call hb3) (And.intro (K2.2.2.1.call hb3) bw3))
      refine ⟨⟨K3.1, K3.2.1, K3.2.2.2⟩, ?_⟩
      clear K2 hb3 bw2
      refine eag_hard ?_
      go_wp2_with (go_at_call 115; refine (over_any b 1073741824 d (by omega) (by omega) (by omega) (by omega) (by omega) (by omega) _).mono ?_; rintro e w4 ⟨rfl, hb4⟩; have bw4 : Below w.heap.size w w4 := below_next (by go_grown) hb4)
      have K4 := And.intro (K3.1.call hb4) (And.intro (K3.2.1.call hb4) (And.intro (K3.2.2.1.call hb4) bw4))
      refine ⟨⟨K4.1, K4.2.1, K4.2.2.2⟩, ?_⟩
      clear K3 hb4 bw3
      refine eag_hard ?_
      go_wp2_with fail
      obtain ⟨J1, J2, J3, bw4⟩ := K4
      have lw4 : w.heap.size ≤ w4.heap.size := bw4.size
      refine ⟨⟨by exact hdx, by exact hdx, by go_grown⟩, ?_⟩
      have HF : Hd (w4.alloc (.cells #[.bool (En.over a 1073741824 c).neg, .int .u64 (En.over a 1073741824 c).hi, .int .u64 (En.over a 1073741824 c).lo, .int .u64 (En.over a 1073741824 c).c, .bool (En.over a 1073741824 d).neg, .int .u64 (En.over a 1073741824 d).hi, .int .u64 (En.over a 1073741824 d).lo, .int .u64 (En.over a 1073741824 d).c, .bool (En.over b 1073741824 c).neg, .int .u64 (En.over b 1073741824 c).hi, .int .u64 (En.over b 1073741824 c).lo, .int .u64 (En.over b 1073741824 c).c, .bool (En.over b 1073741824 d).neg, .int .u64 (En.over b 1073741824 d).hi, .int .u64 (En.over b 1073741824 d).lo, .int .u64 (En.over b 1073741824 d).c] 111)) w4.heap.size 111 #[.bool (En.over a 1073741824 c).neg, .int .u64 (En.over a 1073741824 c).hi, .int .u64 (En.over a 1073741824 c).lo, .int .u64 (En.over a 1073741824 c).c, .bool (En.over a 1073741824 d).neg, .int .u64 (En.over a 1073741824 d).hi, .int .u64 (En.over a 1073741824 d).lo, .int .u64 (En.over a 1073741824 d).c, .bool (En.over b 1073741824 c).neg, .int .u64 (En.over b 1073741824 c).hi, .int .u64 (En.over b 1073741824 c).lo, .int .u64 (En.over b 1073741824 c).c, .bool (En.over b 1073741824 d).neg, .int .u64 (En.over b 1073741824 d).hi, .int .u64 (En.over b 1073741824 d).lo, .int .u64 (En.over b 1073741824 d).c] := hdx
      have J1' := J1.alloc (.cells #[.bool (En.over a 1073741824 c).neg, .int .u64 (En.over a 1073741824 c).hi, .int .u64 (En.over a 1073741824 c).lo, .int .u64 (En.over a 1073741824 c).c, .bool (En.over a 1073741824 d).neg, .int .u64 (En.over a 1073741824 d).hi, .int .u64 (En.over a 1073741824 d).lo, .int .u64 (En.over a 1073741824 d).c, .bool (En.over b 1073741824 c).neg, .int .u64 (En.over b 1073741824 c).hi, .int .u64 (En.over b 1073741824 c).lo, .int .u64 (En.over b 1073741824 c).c, .bool (En.over b 1073741824 d).neg, .int .u64 (En.over b 1073741824 d).hi, .int .u64 (En.over b 1073741824 d).lo, .int .u64 (En.over b 1073741824 d).c] 111)
      have J2' := J2.alloc (.cells #[.bool (En.over a 1073741824 c).neg, .int .u64 (En.over a 1073741824 c).hi, .int .u64 (En.over a 1073741824 c).lo, .int .u64 (En.over a 1073741824 c).c, .bool (En.over a 1073741824 d).neg, .int .u64 (En.over a 1073741824 d).hi, .int .u64 (En.over a 1073741824 d).lo, .int .u64 (En.over a 1073741824 d).c, .bool (En.over b 1073741824 c).neg, .int .u64 (En.over b 1073741824 c).hi, .int .u64 (En.over b 1073741824 c).lo, .int .u64 (En.over b 1073741824 c).c, .bool (En.over b 1073741824 d).neg, .int .u64 (En.over b 1073741824 d).hi, .int .u64 (En.over b 1073741824 d).lo, .int .u64 (En.over b 1073741824 d).c] 111)
      have J3' := J3.alloc (.cells #[.bool (En.over a 1073741824 c).neg, .int .u64 (En.over a 1073741824 c).hi, .int .u64 (En.over a 1073741824 c).lo, .int .u64 (En.over a 1073741824 c).c, .bool (En.over a 1073741824 d).neg, .int .u64 (En.over a 1073741824 d).hi, .int .u64 (En.over a 1073741824 d).lo, .int .u64 (En.over a 1073741824 d).c, .bool (En.over b 1073741824 c).neg, .int .u64 (En.over b 1073741824 c).hi, .int .u64 (En.over b 1073741824 c).lo, .int .u64 (En.over b 1073741824 c).c, .bool (En.over b 1073741824 d).neg, .int .u64 (En.over b 1073741824 d).hi, .int .u64 (En.over b 1073741824 d).lo, .int .u64 (En.over b 1073741824 d).c] 111)
      have bw4' : Below w.heap.size w (w4.alloc (.cells #[.bool (En.over a 1073741824 c).neg, .int .u64 (En.over a 1073741824 c).hi, .int .u64 (En.over a 1073741824 c).lo, .int .u64 (En.over a 1073741824 c).c, .bool (En.over a 1073741824 d).neg, .int .u64 (En.over a 1073741824 d).hi, .int .u64 (En.over a 1073741824 d).lo, .int .u64 (En.over a 1073741824 d).c, .bool (En.over b 1073741824 c).neg, .int .u64 (En.over b 1073741824 c).hi, .int .u64 (En.over b 1073741824 c).lo, .int .u64 (En.over b 1073741824 c).c, .bool (En.over b 1073741824 d).neg, .int .u64 (En.over b 1073741824 d).hi, .int .u64 (En.over b 1073741824 d).lo, .int .u64 (En.over b 1073741824 d).c] 111)) := by go_grown
      refine eag_hard ?_
      go_wp2_with fail
      refine (around4_any (En.over a 1073741824 c) (En.over a 1073741824 d) (En.over b 1073741824 c) (En.over b 1073741824 d) (by apply En.over_wf <;> omega) (by apply En.over_wf <;> omega) (by apply En.over_wf <;> omega) (by apply En.over_wf <;> omega) _ _ _ HF).mono ?_
      intro e w5 hp
      obtain ⟨hb5, hcase⟩ := hp.cases
      have bw5 : Below w.heap.size w w5 := below_next bw4' hb5
      have J5 := J3'.call hb5
      have J15 := J1'.call hb5
      have J25 := J2'.call hb5
      clear J1' J2' J3' hb5 bw4' HF J1 J2 J3 hp
      rcases hcase with ⟨s, hs, rfl⟩ | ⟨c, hs, rfl⟩
      · go_wp2_with fail
        refine ⟨⟨J15, J25, bw5⟩, ?_⟩
        refine eag_hard ?_
        obtain ⟨hc5, hf5⟩ := J5.facts
        go_wp2_with fail
        refine ⟨⟨by exact hdx, by exact hdx, by go_grown⟩, ?_⟩
        refine eag_nil ?_
        go_wp2
        refine bodyPost_ret (run_results1 rfl rfl (by (show Hd _ (w.heap.size + 2) 23 #[.int .i64 s.lo, .int .i64 s.hi]); exact hdx) Try.underlying23 rfl (by kernel_rfl)) rfl (post_ok ((if_neg hcd).trans hs) (by go_grown))
      · exact ⟨rfl, post_err ((if_neg hcd).trans hs) (by go_grown)⟩
  · have hcd : ¬ (c ≤ 0 ∧ 0 ≤ d) := fun h => hz h.1
    go_wp2
    have K0 : Hd ((((w.alloc (.cells #[.int .i64 a, .int .i64 b] 23)).alloc (.cells #[.int .i64 c, .int .i64 d] 23)).alloc (.cells #[.int .i64 0, .int .i64 0] 23)).drew) w.heap.size 23 #[.int .i64 a, .int .i64 b] ∧ Hd ((((w.alloc (.cells #[.int .i64 a, .int .i64 b] 23)).alloc (.cells #[.int .i64 c, .int .i64 d] 23)).alloc (.cells #[.int .i64 0, .int .i64 0] 23)).drew) (w.heap.size + 1) 23 #[.int .i64 c, .int .i64 d] ∧
      Hd ((((w.alloc (.cells #[.int .i64 a, .int .i64 b] 23)).alloc (.cells #[.int .i64 c, .int .i64 d] 23)).alloc (.cells #[.int .i64 0, .int .i64 0] 23)).drew) (w.heap.size + 2) 23 #[.int .i64 0, .int .i64 0] ∧ Below w.heap.size w ((((w.alloc (.cells #[.int .i64 a, .int .i64 b] 23)).alloc (.cells #[.int .i64 c, .int .i64 d] 23)).alloc (.cells #[.int .i64 0, .int .i64 0] 23)).drew) := ⟨by exact hdx, by exact hdx, by exact hdx, by go_grown⟩
    (refine wp_region_eag (fun w' => Hd w' w.heap.size 23 #[.int .i64 a, .int .i64 b] ∧ Hd w' (w.heap.size + 1) 23 #[.int .i64 c, .int .i64 d] ∧ Below w.heap.size w w') [(0, true), (1, true), (2, true), (3, true), (5, true), (6, true), (7, true), (8, true), (10, true), (11, true), (12, true), (13, true), (15, true), (16, true), (17, true), (18, true), (4, false), (9, false), (14, false), (19, false), (20, false), (21, false), (22, false)] (by kernel_rfl) (by kernel_rfl) (fun c d v a w h => by cases d <;> exact h) ⟨K0.1, K0.2.1, K0.2.2.2⟩ ?_; simp only [List.map_cons, List.map_nil, List.getD_cons_zero, List.getD_cons_succ, flMark, Nat.reduceEqDiff, ↓reduceIte])
    repeat ((first | with_reducible apply eag_move | with_reducible apply eag_assign | ((with_reducible refine eag_soft (v := ?_) (fun w' hw' => ?_) ?_); rotate_left 1; (focus (obtain ⟨hA, hB, hBw⟩ := hw'; obtain ⟨hc1, hf1⟩ := hA.facts; obtain ⟨hc2, hf2⟩ := hB.facts; go_simp; (try with_reducible rfl); done)))); simp only [Act.put, Act.eval, qs])
    have bw0 := K0.2.2.2
    refine eag_hard ?_
    go_wp2_with (go_at_call 115; refine (over_any a 1073741824 c (by omega) (by omega) (by omega) (by omega) (by omega) (by omega) _).mono ?_; rintro e w1 ⟨rfl, hb1⟩; have bw1 : Below w.heap.size w w1 := below_next (by go_grown) hb1)
    have K1 := And.intro (K0.1.call hb1) (And.intro (K0.2.1.call hb1) (And.intro (K0.2.2.1.call hb1) bw1))
    refine ⟨⟨K1.1, K1.2.1, K1.2.2.2⟩, ?_⟩
    clear K0 hb1 bw0
    refine eag_hard ?_
    go_wp2_with (go_at_call 115; refine (over_any a 1073741824 d (by omega) (by omega) (by omega) (by omega) (by omega) (by omega) _).mono ?_; rintro e w2 ⟨rfl, hb2⟩; have bw2 : Below w.heap.size w w2 := below_next (by go_grown) hb2)
    have K2 := And.intro (K1.1.call hb2) (And.intro (K1.2.1.call hb2) (And.intro (K1.2.2.1.call hb2) bw2))
    refine ⟨⟨K2.1, K2.2.1, K2.2.2.2⟩, ?_⟩
    clear K1 hb2 bw1
    refine eag_hard ?_
    go_wp2_with (go_at_call 115; refine (over_any b 1073741824 c (by omega) (by omega) (by omega) (by omega) (by omega) (by omega) _).mono ?_; rintro e w3 ⟨rfl, hb3⟩; have bw3 : Below w.heap.size w w3 := below_next (by go_grown) hb3)
    have K3 := And.intro (K2.1.call hb3) (And.intro (K2.2.1.call hb3) (And.intro (K2.2.2.1.call hb3) bw3))
    refine ⟨⟨K3.1, K3.2.1, K3.2.2.2⟩, ?_⟩
    clear K2 hb3 bw2
    refine eag_hard ?_
    go_wp2_with (go_at_call 115; refine (over_any b 1073741824 d (by omega) (by omega) (by omega) (by omega) (by omega) (by omega) _).mono ?_; rintro e w4 ⟨rfl, hb4⟩; have bw4 : Below w.heap.size w w4 := below_next (by go_grown) hb4)
    have K4 := And.intro (K3.1.call hb4) (And.intro (K3.2.1.call hb4) (And.intro (K3.2.2.1.call hb4) bw4))
    refine ⟨⟨K4.1, K4.2.1, K4.2.2.2⟩, ?_⟩
    clear K3 hb4 bw3
    refine eag_hard ?_
    go_wp2_with fail
    obtain ⟨J1, J2, J3, bw4⟩ := K4
    have lw4 : w.heap.size ≤ w4.heap.size := bw4.size
    refine ⟨⟨by exact hdx, by exact hdx, by go_grown⟩, ?_⟩
    have HF : Hd (w4.alloc (.cells #[.bool (En.over a 1073741824 c).neg, .int .u64 (En.over a 1073741824 c).hi, .int .u64 (En.over a 1073741824 c).lo, .int .u64 (En.over a 1073741824 c).c, .bool (En.over a 1073741824 d).neg, .int .u64 (En.over a 1073741824 d).hi, .int .u64 (En.over a 1073741824 d).lo, .int .u64 (En.over a 1073741824 d).c, .bool (En.over b 1073741824 c).neg, .int .u64 (En.over b 1073741824 c).hi, .int .u64 (En.over b 1073741824 c).lo, .int .u64 (En.over b 1073741824 c).c, .bool (En.over b 1073741824 d).neg, .int .u64 (En.over b 1073741824 d).hi, .int .u64 (En.over b 1073741824 d).lo, .int .u64 (En.over b 1073741824 d).c] 111)) w4.heap.size 111 #[.bool (En.over a 1073741824 c).neg, .int .u64 (En.over a 1073741824 c).hi, .int .u64 (En.over a 1073741824 c).lo, .int .u64 (En.over a 1073741824 c).c, .bool (En.over a 1073741824 d).neg, .int .u64 (En.over a 1073741824 d).hi, .int .u64 (En.over a 1073741824 d).lo, .int .u64 (En.over a 1073741824 d).c, .bool (En.over b 1073741824 c).neg, .int .u64 (En.over b 1073741824 c).hi, .int .u64 (En.over b 1073741824 c).lo, .int .u64 (En.over b 1073741824 c).c, .bool (En.over b 1073741824 d).neg, .int .u64 (En.over b 1073741824 d).hi, .int .u64 (En.over b 1073741824 d).lo, .int .u64 (En.over b 1073741824 d).c] := hdx
    have J1' := J1.alloc (.cells #[.bool (En.over a 1073741824 c).neg, .int .u64 (En.over a 1073741824 c).hi, .int .u64 (En.over a 1073741824 c).lo, .int .u64 (En.over a 1073741824 c).c, .bool (En.over a 1073741824 d).neg, .int .u64 (En.over a 1073741824 d).hi, .int .u64 (En.over a 1073741824 d).lo, .int .u64 (En.over a 1073741824 d).c, .bool (En.over b 1073741824 c).neg, .int .u64 (En.over b 1073741824 c).hi, .int .u64 (En.over b 1073741824 c).lo, .int .u64 (En.over b 1073741824 c).c, .bool (En.over b 1073741824 d).neg, .int .u64 (En.over b 1073741824 d).hi, .int .u64 (En.over b 1073741824 d).lo, .int .u64 (En.over b 1073741824 d).c] 111)
    have J2' := J2.alloc (.cells #[.bool (En.over a 1073741824 c).neg, .int .u64 (En.over a 1073741824 c).hi, .int .u64 (En.over a 1073741824 c).lo, .int .u64 (En.over a 1073741824 c).c, .bool (En.over a 1073741824 d).neg, .int .u64 (En.over a 1073741824 d).hi, .int .u64 (En.over a 1073741824 d).lo, .int .u64 (En.over a 1073741824 d).c, .bool (En.over b 1073741824 c).neg, .int .u64 (En.over b 1073741824 c).hi, .int .u64 (En.over b 1073741824 c).lo, .int .u64 (En.over b 1073741824 c).c, .bool (En.over b 1073741824 d).neg, .int .u64 (En.over b 1073741824 d).hi, .int .u64 (En.over b 1073741824 d).lo, .int .u64 (En.over b 1073741824 d).c] 111)
    have J3' := J3.alloc (.cells #[.bool (En.over a 1073741824 c).neg, .int .u64 (En.over a 1073741824 c).hi, .int .u64 (En.over a 1073741824 c).lo, .int .u64 (En.over a 1073741824 c).c, .bool (En.over a 1073741824 d).neg, .int .u64 (En.over a 1073741824 d).hi, .int .u64 (En.over a 1073741824 d).lo, .int .u64 (En.over a 1073741824 d).c, .bool (En.over b 1073741824 c).neg, .int .u64 (En.over b 1073741824 c).hi, .int .u64 (En.over b 1073741824 c).lo, .int .u64 (En.over b 1073741824 c).c, .bool (En.over b 1073741824 d).neg, .int .u64 (En.over b 1073741824 d).hi, .int .u64 (En.over b 1073741824 d).lo, .int .u64 (En.over b 1073741824 d).c] 111)
    have bw4' : Below w.heap.size w (w4.alloc (.cells #[.bool (En.over a 1073741824 c).neg, .int .u64 (En.over a 1073741824 c).hi, .int .u64 (En.over a 1073741824 c).lo, .int .u64 (En.over a 1073741824 c).c, .bool (En.over a 1073741824 d).neg, .int .u64 (En.over a 1073741824 d).hi, .int .u64 (En.over a 1073741824 d).lo, .int .u64 (En.over a 1073741824 d).c, .bool (En.over b 1073741824 c).neg, .int .u64 (En.over b 1073741824 c).hi, .int .u64 (En.over b 1073741824 c).lo, .int .u64 (En.over b 1073741824 c).c, .bool (En.over b 1073741824 d).neg, .int .u64 (En.over b 1073741824 d).hi, .int .u64 (En.over b 1073741824 d).lo, .int .u64 (En.over b 1073741824 d).c] 111)) := by go_grown
    refine eag_hard ?_
    go_wp2_with fail
    refine (around4_any (En.over a 1073741824 c) (En.over a 1073741824 d) (En.over b 1073741824 c) (En.over b 1073741824 d) (by apply En.over_wf <;> omega) (by apply En.over_wf <;> omega) (by apply En.over_wf <;> omega) (by apply En.over_wf <;> omega) _ _ _ HF).mono ?_
    intro e w5 hp
    obtain ⟨hb5, hcase⟩ := hp.cases
    have bw5 : Below w.heap.size w w5 := below_next bw4' hb5
    have J5 := J3'.call hb5
    have J15 := J1'.call hb5
    have J25 := J2'.call hb5
    clear J1' J2' J3' hb5 bw4' HF J1 J2 J3 hp
    rcases hcase with ⟨s, hs, rfl⟩ | ⟨c, hs, rfl⟩
    · go_wp2_with fail
      refine ⟨⟨J15, J25, bw5⟩, ?_⟩
      refine eag_hard ?_
      obtain ⟨hc5, hf5⟩ := J5.facts
      go_wp2_with fail
      refine ⟨⟨by exact hdx, by exact hdx, by go_grown⟩, ?_⟩
      refine eag_nil ?_
      go_wp2
      refine bodyPost_ret (run_results1 rfl rfl (by (show Hd _ (w.heap.size + 2) 23 #[.int .i64 s.lo, .int .i64 s.hi]); exact hdx) Try.underlying23 rfl (by kernel_rfl)) rfl (post_ok ((if_neg hcd).trans hs) (by go_grown))
    · exact ⟨rfl, post_err ((if_neg hcd).trans hs) (by go_grown)⟩

end Go.Proofs.Ytpbbbfglecbceaa
