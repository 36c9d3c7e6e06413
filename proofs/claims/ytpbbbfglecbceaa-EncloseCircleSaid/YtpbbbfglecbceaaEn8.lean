/- Package enclose: points, parts, quotients. -/
import Derived.Test.YtpbbbfglecbceaaEn6
import Derived.Test.YtpbbbfglecbceaaEn7
namespace Go.Proofs.Ytpbbbfglecbceaa
set_option linter.all false
open Go.RowKit

theorem real_any (s : En.Sp) (w : World) : Calls Try.prog 74 #[spV s] w fun e w' => e = .returned (rcV ⟨s, ⟨0, 0⟩⟩) ∧ Below w.heap.size w w' := by
  go_enter Try.func74, Try.ntmps74
  go_wp2
  refine bodyPost_ret (run_results1 rfl rfl (by (show Hd _ (w.heap.size + 1) 25 #[.int .i64 s.lo, .int .i64 s.hi, .int .i64 0, .int .i64 0]); exact hdx) Try.underlying25 rfl (by kernel_rfl)) rfl ⟨rfl, by go_grown⟩

theorem conj_any (x : En.Rc) (hx : x.fit) (w : World) : Calls Try.prog 117 #[rcV x] w fun e w' => e = .returned (rcV (En.conj x)) ∧ Below w.heap.size w w' := by
  have h1 := hx.im.a
  have h2 := hx.im.b
  have h3 := hx.im.c
  have h4 := hx.im.d
  go_enter Try.func117, Try.ntmps117
  go_wp2
  refine bodyPost_ret (run_results1 rfl rfl (by (show Hd _ (w.heap.size + 1) 25 #[.int .i64 x.re.lo, .int .i64 x.re.hi, .int .i64 (-x.im.hi), .int .i64 (-x.im.lo)]); exact hdx) Try.underlying25 rfl (by kernel_rfl)) rfl ⟨rfl, by go_grown⟩

theorem point_any (re im : Int) (r0 : -4096 ≤ re) (r1 : re ≤ 4096) (i0 : -4096 ≤ im) (i1 : im ≤ 4096) (w : World) : Calls Try.prog 78 #[.int .i64 re, .int .i64 im] w (Post rcV (En.point re im) w) := by
  go_enter Try.func78, Try.ntmps78
  go_wp2_with fail
  have HC : Hd (w.alloc (.cells #[.int .i64 0, .int .i64 0, .int .i64 0, .int .i64 0] 25)) w.heap.size 25 #[.int .i64 0, .int .i64 0, .int .i64 0, .int .i64 0] := hdx
  have bw : Below w.heap.size w (w.alloc (.cells #[.int .i64 0, .int .i64 0, .int .i64 0, .int .i64 0] 25)) := by go_grown
  refine (span_any _ _ _).mono ?_
  intro e w1 hp
  obtain ⟨hb1, hcase⟩ := hp.cases
  clear hp
  replace bw : Below w.heap.size w w1 := below_next bw hb1
  replace HC := HC.call hb1
  have lw1 : w.heap.size ≤ w1.heap.size := bw.size
  clear hb1
  rcases hcase with ⟨s1, hs1, rfl⟩ | ⟨c1, hs1, rfl⟩
  rotate_left
  · exact ⟨rfl, post_err (by simp only [En.point, ebind_ok, ebind_err, epure, hs1]) bw⟩
  go_wp2_with fail
  refine (span_any _ _ _).mono ?_
  intro e w2 hp
  obtain ⟨hb2, hcase⟩ := hp.cases
  clear hp
  replace bw : Below w.heap.size w w2 := below_next bw hb2
  replace HC := HC.call hb2
  have lw2 : w.heap.size ≤ w2.heap.size := bw.size
  clear hb2
  rcases hcase with ⟨s2, hs2, rfl⟩ | ⟨c2, hs2, rfl⟩
  rotate_left
  · exact ⟨rfl, post_err (by simp only [En.point, ebind_ok, ebind_err, epure, hs1, hs2]) bw⟩
  obtain ⟨hcC, hfC⟩ := HC.facts
  go_wp2
  refine bodyPost_ret (run_results1 rfl rfl (by (show Hd _ (w.heap.size) 25 #[.int .i64 s1.lo, .int .i64 s1.hi, .int .i64 s2.lo, .int .i64 s2.hi]); exact hdx) Try.underlying25 rfl (by kernel_rfl)) rfl (post_ok (s := ⟨s1, s2⟩) (by simp only [En.point, ebind_ok, ebind_err, epure, hs1, hs2]) (by go_grown))

end Go.Proofs.Ytpbbbfglecbceaa
