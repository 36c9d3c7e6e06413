/- The given statement out of the walk: MatrixTurns. -/
import Derived.Test.YtjeijnjaleldkaaLTurnsG
import Derived.Test.YtjeijnjaleldkaaRows
import Derived.WalkKit
namespace Go.Proofs.Ytjeijnjaleldkaa
set_option linter.all false
open Go.ChangeShapes Go.WideShapes Go.ChangeAt Go.RowKit
namespace LawMatrixTurns

theorem walk {n : Int} {xs : List Nm} {a : Option Addr} {c : Nat} {x0 x1 x2 x3 : Nat} (w : World) (hA : AS w a (nms xs)) (hx0 : x0 ≤ 255) (hx1 : x1 ≤ 255) (hx2 : x2 ≤ 255) (hx3 : x3 ≤ 255) : Calls Try.prog 9 #[.agg #[.int .i64 n, .slice a xs.length c], .agg #[.int .u8 (x0 : Int), .int .u8 (x1 : Int), .int .u8 (x2 : Int), .int .u8 (x3 : Int)]] w fun e w' => e = .returned (.bool true) ∧ Below w.heap.size w w' := matrixTurns_any n xs a c x0 x1 x2 x3 hx0 hx1 hx2 hx3 w hA

theorem own : ownKnob Try.prog.godebug = none := by kernel_rfl
theorem laid : laidOutB Try.prog = true := by kernel_rfl
theorem cellsI : Try.prog.cellsOf 3 = 1 := by kernel_rfl
theorem readable : (Try.f9.params.toList.all fun t => Try.prog.readableRec t && decide (t < Try.prog.types.size)) = true := by kernel_rfl

set_option maxRecDepth 100000 in
theorem lifted (os : Os) (started : os.Started) (H : Type) (enc : TypeId × Value → H) :
    ReturnsInHanded {} Try.checked os 9 .any (Rows.matrixTurnsSpec.pre6 enc Try.prog Try.f9 Rows.matrixTurnsRow.domain false) (Rows.matrixTurnsSpec.post enc Try.prog Try.f9 false true false false) := by
  refine returnsInHanded_of_change (C := Try.checked) own started (by kernel_rfl) Try.func9
    (ChangeSpec.witness6 (enc := enc) (C := Try.checked) false ⟨#[], #[.agg #[.int .i64 0, .slice none 0 0], .agg #[.int .u8 0, .int .u8 0, .int .u8 0, .int .u8 0]], []⟩ 8 (by kernel_rfl) (by kernel_rfl) (by kernel_rfl) (by kernel_rfl)) ?_
  intro W base args ds gs before hval0 hW hcnd _
  have hval : ∀ (j : Nat) t v, Try.f9.params[j]? = some t → args[j]? = some v → Value.okWide Try.prog W .any base t v := hval0
  have hW' := hW
  obtain ⟨p, q, hA0, hV, hpq, hfz, hnd⟩ := hW
  have hA : DataW.TrodAll enc Try.prog W 0 (fun _ => true) true Try.f9.params.toList args.toList ds p := hA0
  obtain ⟨rfl, rfl⟩ := trodVars_none hV
  rw [List.append_nil] at hpq
  subst hpq
  have hlt : ∀ x ∈ before, x.block < W.heap.size := fun x hx => hW'.lt x hx
  have hAk := hA
  rw [Try.params9] at hA hval
  obtain ⟨v0, vs0, d0, ds0, p0, q0, hargs, hds, hp0, h0, r0⟩ := trodAll_cons hA
  obtain ⟨v1, vs1, d1, ds1, p1, q1, rfl, rfl, hp1, h1, r1⟩ := trodAll_cons r0
  obtain ⟨rfl, rfl, -⟩ := trodAll_nil r1
  subst hds
  obtain rfl : args = #[v0, v1] := by cases args; simp_all
  obtain ⟨n0, xs0, a0, c0, rfl, hAS0, hlen0⟩ := open_asM (hval 0 24 v0 rfl rfl) h0 (fun x hx => hlt x (by rw [hp0]; exact List.mem_append_left _ hx))
  obtain ⟨y0, y1, y2, y3, hy0, hy1, hy2, hy3, rfl⟩ := open_q4 (hval 1 51 v1 rfl rfl)
  clear hval0
  refine (walk W hAS0 hy0 hy1 hy2 hy3).mono fun e W' ⟨he, hg⟩ => ?_
  subst he
  exact ⟨_, rfl, post_reads laid readable hW' rfl hAk (fun _ _ _ => (trodAll_cons_mk (shut_bool Try.underlying4 _) trodAll_mk0)) rfl rfl
    hg (ok_one (by kernel_rfl) rfl (okWide_bool_mk Try.underlying4 _))⟩

theorem holds : Rows.MatrixTurnsSaid :=
  OpenClaim.holds_of_wide 9 Try.f9 rfl rfl rfl rfl rfl rfl rfl ⟨rfl, rfl, rfl, rfl, rfl⟩ rfl rfl rfl rfl rfl (by kernel_rfl) Try.func9 (by kernel_rfl)
    (of_decide_eq_true (by kernel_rfl)) (by unfold Func.isWrapper; rw [if_neg (of_decide_eq_false (by kernel_rfl))]; exact ⟨rfl, rfl⟩)
    (fun os started H enc _ => lifted os started H enc)
#print axioms holds
end LawMatrixTurns
end Go.Proofs.Ytjeijnjaleldkaa
