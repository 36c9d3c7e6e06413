/- The given statement out of the walk: TopPhotons. -/
import Derived.Test.YthjjkajjpejcdaaGreatLPhJ
import Derived.Test.YthjjkajjpejcdaaGreatRows
import Derived.WalkKit
namespace Go.Proofs.YthjjkajjpejcdaaGreat
set_option linter.all false
open Go.ChangeShapes Go.WideShapes Go.ChangeAt Go.RowKit
namespace LawTopPhotons

theorem walk {n : Int} {xs : List It} {inn : List Int} {a a' : Option Addr} {c c' : Nat} (w : World) (hA : AS w a (its xs)) (hB : AS w a' (zs inn)) : Calls Tryz.prog 3 #[.int .i64 n, slV a xs.length c, .slice a' inn.length c'] w fun e w' => e = .returned (.bool true) ∧ Below w.heap.size w w' := topPhotons_any n xs inn a a' c c' w hA hB

theorem own : ownKnob Tryz.prog.godebug = none := by kernel_rfl
theorem laid : laidOutB Tryz.prog = true := by kernel_rfl
theorem cellsI : Tryz.prog.cellsOf 3 = 1 := by kernel_rfl
theorem readable : (Tryz.f3.params.toList.all fun t => Tryz.prog.readableRec t && decide (t < Tryz.prog.types.size)) = true := by kernel_rfl

set_option maxRecDepth 100000 in
theorem lifted (os : Os) (started : os.Started) (H : Type) (enc : TypeId × Value → H) :
    ReturnsInHanded {} Tryz.checked os 3 .any (Rows.topPhotonsSpec.pre6 enc Tryz.prog Tryz.f3 Rows.topPhotonsRow.domain false) (Rows.topPhotonsSpec.post enc Tryz.prog Tryz.f3 false true false false) := by
  refine returnsInHanded_of_change (C := Tryz.checked) own started (by kernel_rfl) Tryz.func3
    (ChangeSpec.witness6 (enc := enc) (C := Tryz.checked) false ⟨#[], #[.int .i64 0, .slice none 0 0, .slice none 0 0], []⟩ 8 (by kernel_rfl) (by kernel_rfl) (by kernel_rfl) (by kernel_rfl)) ?_
  intro W base args ds gs before hval0 hW hcnd _
  have hval : ∀ (j : Nat) t v, Tryz.f3.params[j]? = some t → args[j]? = some v → Value.okWide Tryz.prog W .any base t v := hval0
  have hW' := hW
  obtain ⟨p, q, hA0, hV, hpq, hfz, hnd⟩ := hW
  have hA : DataW.TrodAll enc Tryz.prog W 0 (fun _ => true) true Tryz.f3.params.toList args.toList ds p := hA0
  obtain ⟨rfl, rfl⟩ := trodVars_none hV
  rw [List.append_nil] at hpq
  subst hpq
  have hlt : ∀ x ∈ before, x.block < W.heap.size := fun x hx => hW'.lt x hx
  have hAk := hA
  rw [Tryz.params3] at hA hval
  obtain ⟨v0, vs0, d0, ds0, p0, q0, hargs, hds, hp0, h0, r0⟩ := trodAll_cons hA
  obtain ⟨v1, vs1, d1, ds1, p1, q1, rfl, rfl, hp1, h1, r1⟩ := trodAll_cons r0
  obtain ⟨v2, vs2, d2, ds2, p2, q2, rfl, rfl, hp2, h2, r2⟩ := trodAll_cons r1
  obtain ⟨rfl, rfl, -⟩ := trodAll_nil r2
  subst hds
  obtain rfl : args = #[v0, v1, v2] := by cases args; simp_all
  obtain ⟨x0, rfl⟩ := okWide_int Tryz.underlying3 (hval 0 3 v0 rfl rfl)
  obtain ⟨xs1, a1, c1, rfl, hAS1, hwf1, hlen1⟩ := open_asT (hval 1 22 v1 rfl rfl) h1 (fun x hx => hlt x (by rw [hp0]; exact List.mem_append_right _ (by rw [hp1]; exact List.mem_append_left _ hx)))
  obtain ⟨xs2, a2, c2, rfl, hAS2, hwf2, hlen2⟩ := open_as Tryz.underlying23 Tryz.underlying3 cellsI (hval 2 23 v2 rfl rfl) h2 (fun x hx => hlt x (by rw [hp0]; exact List.mem_append_right _ (by rw [hp1]; exact List.mem_append_right _ (by rw [hp2]; exact List.mem_append_left _ hx))))
  clear hval0
  refine (walk W hAS1 hAS2).mono fun e W' ⟨he, hg⟩ => ?_
  subst he
  exact ⟨_, rfl, post_reads laid readable hW' rfl hAk (fun _ _ _ => (trodAll_cons_mk (shut_bool Tryz.underlying4 _) trodAll_mk0)) rfl rfl
    hg (ok_one (by kernel_rfl) rfl (okWide_bool_mk Tryz.underlying4 _))⟩

theorem holds : Rows.TopPhotonsSaid :=
  OpenClaim.holds_of_wide 3 Tryz.f3 rfl rfl rfl rfl rfl rfl rfl ⟨rfl, rfl, rfl, rfl, rfl⟩ rfl rfl rfl rfl rfl (by kernel_rfl) Tryz.func3 (by kernel_rfl)
    (of_decide_eq_true (by kernel_rfl)) (by unfold Func.isWrapper; rw [if_neg (of_decide_eq_false (by kernel_rfl))]; exact ⟨rfl, rfl⟩)
    (fun os started H enc _ => lifted os started H enc)
#print axioms holds
end LawTopPhotons
end Go.Proofs.YthjjkajjpejcdaaGreat
