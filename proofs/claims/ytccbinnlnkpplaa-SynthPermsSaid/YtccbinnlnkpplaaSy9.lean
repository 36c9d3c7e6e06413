/- The crossings of a permutation. -/
import Derived.Test.YtccbinnlnkpplaaSy8
namespace Go.Proofs.Ytccbinnlnkpplaa
set_option linter.all false
open Go.RowKit

/-- An item of a circuit. -/
structure It where
  kind : Int
  at_ : Int
  n : Int
  name : ByteArray
deriving Inhabited
abbrev itC (i : It) : List Value := [.int .i64 i.kind, .int .i64 i.at_, .int .i64 i.n, .string i.name]
abbrev its (l : List It) : List Value := l.flatMap itC
theorem its_len (l : List It) : (its l).length = l.length * 4 := by
  induction l with
  | nil => rfl
  | cons x l ih => simp only [its, List.flatMap_cons, List.length_append, List.length_cons, List.length_nil] at ih ⊢; omega
theorem itInfo : (Try.prog.info? 80).map (fun i => (i.zero, i.size, i.bytes)) = some (some (.agg #[.int .i64 0, .int .i64 0, .int .i64 0, .string ⟨#[]⟩]), 4, 40) := by kernel_rfl
theorem perm_two {α : Type} {b c : α} {u r : List α} : (u ++ b :: c :: r).Perm ((b :: c :: u) ++ r) :=
  List.perm_middle.trans (List.Perm.cons _ List.perm_middle)
def OwnT (u : List Blk) (v : Value) (xs : List It) : Prop := Own 80 4 u v xs.length (its xs)
theorem OwnT.nil : OwnT [] (.slice none 0 0) [] := Own.nil _ _
def cross (k : Nat) : It := ⟨3, k + 1, 0, ⟨#[]⟩⟩
def RetT (w : World) (f : Value → Value) (T : List It → Prop) (e : Ending) (w' : World) : Prop := ∃ v u zs, e = .returned (f v) ∧ OwnT u v zs ∧ T zs ∧ Made w u w'

section
variable {R : Option Nat} {ops : Array Oper} {Q : Exit → Act → World → Prop} {B : World} {F : List Nat} {s0 : Option (List Blk × List Blk)}
variable {l : List (Oper × Nat)} {a : Act} {s S : List Blk} {d : Option Tmp} {op : Op} {t : TypeId} {p : String} {af : Array Edge} {v : Value}
theorem rg_appendT {so xo : Operand} {u : List Blk} {xs : List It} {g1 : Nat} {x : It} {gd : Option (Nat × Bool)} (hg : Region.wanted ⟨d, .call ⟨.builtin .append, #[so, xo], #[32, 32]⟩, t, p, af, gd⟩ (yielded ops a.tmps) = true)
    (hs : a.eval so = v) (hown : OwnT u v xs) (hx : a.eval xo = .slice (some ⟨g1, 0, none⟩) 1 1) (hn : xs.length ≤ 1000000) (hp : S.Perm (u ++ s)) (hm : ∀ w, Kn B F S w → Hd w g1 80 (itC x).toArray)
    (hzz : ∀ z ∈ s0, z.1.Sublist s) (h : ∀ u' v', OwnT u' v' (xs ++ [x]) → Rg R Try.prog ops Q B F s0 l (a.put d v') (u' ++ s)) :
    Rg R Try.prog ops Q B F s0 ((⟨d, .call ⟨.builtin .append, #[so, xo], #[32, 32]⟩, t, p, af, gd⟩, 1) :: l) a S := by
  obtain ⟨i, hi, hz, hsz, hb⟩ := info_parts itInfo
  refine rg_append (u := u) (s := s) (i := i) (z := .agg #[.int .i64 0, .int .i64 0, .int .i64 0, .string ⟨#[]⟩]) (size := 4) (bytes := 40) (n := xs.length) (m := 1) (c := 1) (xs := its xs) (news := itC x) (ad := ⟨g1, 0, none⟩) hg
    Try.underlying32 hi hz hsz hb rfl (by decide) hs hown hx (by rfl) ?_ (by simp [Value.oneCell']) (by simp only [maxLen]; omega) (by omega) hp hzz ?_
  · intro w K j y hj
    have hd := (hm w K).cell j
    have e : (⟨g1, 0, none⟩ : Addr).add j = ⟨g1, j, none⟩ := by unfold Addr.add; split <;> simp_all
    rw [e, hd, ← hj]
    simp
  · intro u' v' hO _
    have hO' : OwnT u' v' (xs ++ [x]) := by
      have e : its (xs ++ [x]) = its xs ++ itC x := by simp [its]
      unfold OwnT
      rw [e, List.length_append]
      exact hO
    exact h u' v' hO'
/-- The same where the literal's block stands at the head, two others between. -/
theorem rg_appendT3 {so xo : Operand} {u : List Blk} {xs : List It} {g1 : Nat} {b1 b2 : Blk} (x : It) {gd : Option (Nat × Bool)} (hg : Region.wanted ⟨d, .call ⟨.builtin .append, #[so, xo], #[32, 32]⟩, t, p, af, gd⟩ (yielded ops a.tmps) = true)
    (hs : a.eval so = v) (hown : OwnT u v xs) (hx : a.eval xo = .slice (some ⟨g1, 0, none⟩) 1 1) (hn : xs.length ≤ 1000000)
    (h : ∀ u' v', OwnT u' v' (xs ++ [x]) → Rg R Try.prog ops Q B F none l (a.put d v') (u' ++ (b1 :: b2 :: s))) :
    Rg R Try.prog ops Q B F none ((⟨d, .call ⟨.builtin .append, #[so, xo], #[32, 32]⟩, t, p, af, gd⟩, 1) :: l) a ((g1, .cells (itC x).toArray 80) :: b1 :: b2 :: (u ++ s)) := by
  refine rg_appendT (u := u) (s := (g1, .cells (itC x).toArray 80) :: b1 :: b2 :: s) hg hs hown hx hn ?_ (fun w K => Kn.hd0 K) (fun _ h => by cases h) fun u' v' hO => ?_
  · have h1 : (b2 :: (u ++ s)).Perm (u ++ b2 :: s) := List.perm_middle.symm
    have h2 : (b1 :: (u ++ b2 :: s)).Perm (u ++ b1 :: b2 :: s) := List.perm_middle.symm
    have h3 : ((g1, Obj.cells (itC x).toArray 80) :: (u ++ b1 :: b2 :: s)).Perm (u ++ (g1, Obj.cells (itC x).toArray 80) :: b1 :: b2 :: s) := List.perm_middle.symm
    exact ((((h1.cons b1).trans h2).cons _).trans h3)
  · exact rg_sub (List.Sublist.append_left (List.Sublist.cons _ (List.Sublist.refl _)) _) (fun _ h => by cases h) (h u' v' hO)
end

theorem ek_assoc3 {B : World} {F : List Nat} {Q : Exit → Act → World → Prop} {x : Exit} {a : Act} {b c : Blk} {u v t : List Blk} (h : Ek B F Q x a (b :: c :: (u ++ (v ++ t)))) : Ek B F Q x a (b :: c :: (u ++ v ++ t)) := by
  rw [List.append_assoc]; exact h

set_option maxRecDepth 100000 in
set_option maxHeartbeats 1000000 in
theorem crossings_yes (xs : List Int) (a : Option Addr) (c : Nat) (hl : xs.length ≤ 1000) (hl6 : xs.length ≤ 6) (hp : Perm xs) (w : World) (hA : AS w a (ints xs)) : Calls Try.prog 32 #[slV a xs.length c] w fun e w' => RetT w (fun v => .tuple #[v, .int .i64 0]) (fun zs => ∃ ys l, Ex xs ys l ∧ (∀ j, j + 1 < l.length → ix l j < ix l (j + 1)) ∧ zs = ys.map cross) e w' := by
  refine calls_marks Try.func32 rfl ?_
  simp only [Try.ntmps32, List.size_toArray, List.length_cons, List.length_nil, Nat.reduceAdd, Nat.reduceSub, Array.replicate_succ, Array.replicate_zero, List.push_toArray, List.append_toArray, List.nil_append, List.cons_append]
  refine wk_seq ?_
  refine wk_region [0, 0] rfl (by kernel_rfl) ?_
  simp only [List.zip_cons_cons, List.zip_nil_right]
  refine rg_assign ?_
  simp only [Act.put, Act.eval, List.setIfInBounds_toArray, List.set_cons_zero, List.set_cons_succ, Array.getD_eq_getD_getElem?, List.getElem?_toArray, List.getElem?_cons_zero, List.getElem?_cons_succ, Option.getD_some]
  refine rg_assign ?_
  simp only [Act.put, Act.eval, List.setIfInBounds_toArray, List.set_cons_zero, List.set_cons_succ, Array.getD_eq_getD_getElem?, List.getElem?_toArray, List.getElem?_cons_zero, List.getElem?_cons_succ, Option.getD_some]
  refine rg_nil ?_
  refine ek_next ?_
  refine wk_seq ?_
  refine wk_block ?_
  refine wk_seq ?_
  refine wk_region [0, 1, 0, 0] rfl (by kernel_rfl) ?_
  simp only [List.zip_cons_cons, List.zip_nil_right]
  refine rg_move ?_
  simp only [Act.put, Act.eval, List.setIfInBounds_toArray, List.set_cons_zero, List.set_cons_succ, Array.getD_eq_getD_getElem?, List.getElem?_toArray, List.getElem?_cons_zero, List.getElem?_cons_succ, Option.getD_some]
  apply rg_pure (by rfl) (by kernel_rfl)
  case hargs => (simp only [List.map_toArray, List.map_cons, List.map_nil, Act.eval, Array.getD_eq_getD_getElem?, List.getElem?_toArray, List.getElem?_cons_zero, List.getElem?_cons_succ, Option.getD_some]; exact rfl)
  case h => exact fun w hw => valid_yes xs a c hl hp w (hA.kn0 hw)
  case hz => exact (fun _ h => by cases h)
  simp only [Act.put, Act.eval, List.setIfInBounds_toArray, List.set_cons_zero, List.set_cons_succ, Array.getD_eq_getD_getElem?, List.getElem?_toArray, List.getElem?_cons_zero, List.getElem?_cons_succ, Option.getD_some]
  apply rg_soft
  case hy => (intro w hw; go_simp; (try go_bits); exact Yld.mk _ _)
  simp only [Act.put, Act.eval, List.setIfInBounds_toArray, List.set_cons_zero, List.set_cons_succ, Array.getD_eq_getD_getElem?, List.getElem?_toArray, List.getElem?_cons_zero, List.getElem?_cons_succ, Option.getD_some]
  refine rg_assign ?_
  simp only [Act.put, Act.eval, List.setIfInBounds_toArray, List.set_cons_zero, List.set_cons_succ, Array.getD_eq_getD_getElem?, List.getElem?_toArray, List.getElem?_cons_zero, List.getElem?_cons_succ, Option.getD_some]
  refine rg_nil ?_
  refine ek_next ?_
  refine wk_cond_f rfl ?_
  refine wk_seq ?_
  refine wk_region [0, 0, 0, 0] rfl (by kernel_rfl) ?_
  simp only [List.zip_cons_cons, List.zip_nil_right]
  refine rg_move ?_
  simp only [Act.put, Act.eval, List.setIfInBounds_toArray, List.set_cons_zero, List.set_cons_succ, Array.getD_eq_getD_getElem?, List.getElem?_toArray, List.getElem?_cons_zero, List.getElem?_cons_succ, Option.getD_some]
  apply rg_soft
  case hy => (intro w hw; go_simp; (try go_bits); exact Yld.mk _ _)
  simp only [Act.put, Act.eval, List.setIfInBounds_toArray, List.set_cons_zero, List.set_cons_succ, Array.getD_eq_getD_getElem?, List.getElem?_toArray, List.getElem?_cons_zero, List.getElem?_cons_succ, Option.getD_some]
  apply rg_softb
  case hy => (intro w hw; go_simp; (try go_bits); exact Yld.mk _ _)
  intro x h1
  cases x
  · (try simp only [decide_eq_true_eq, decide_eq_false_iff_not, Int.not_lt, Int.not_le, beq_iff_eq, beq_eq_false_iff_ne, bne_iff_ne, bne_eq_false_iff_eq, ne_eq, Bool.not_eq_true', Bool.not_eq_false'] at h1)
    simp only [Act.put, Act.eval, List.setIfInBounds_toArray, List.set_cons_zero, List.set_cons_succ, Array.getD_eq_getD_getElem?, List.getElem?_toArray, List.getElem?_cons_zero, List.getElem?_cons_succ, Option.getD_some]
    refine rg_assign ?_
    simp only [Act.put, Act.eval, List.setIfInBounds_toArray, List.set_cons_zero, List.set_cons_succ, Array.getD_eq_getD_getElem?, List.getElem?_toArray, List.getElem?_cons_zero, List.getElem?_cons_succ, Option.getD_some]
    refine rg_nil ?_
    refine ek_next ?_
    refine wk_cond_f rfl ?_
    refine wk_skip ?_
    refine ek_block ?_
    refine ek_next ?_
    refine wk_seq ?_
    refine wk_region [1] rfl (by kernel_rfl) ?_
    simp only [List.zip_cons_cons, List.zip_nil_right]
    refine rg_new (cs := ?_) (ty := ?_) (by rfl) (fun w => ?_) (fun _ h => by cases h) (fun g1 => ?_); rotate_left 2
    focus (go_simp; rfl)
    simp only [Act.put, Act.eval, List.setIfInBounds_toArray, List.set_cons_zero, List.set_cons_succ, Array.getD_eq_getD_getElem?, List.getElem?_toArray, List.getElem?_cons_zero, List.getElem?_cons_succ, Option.getD_some]
    refine rg_nil ?_
    refine ek_next ?_
    refine wk_seq ?_
    refine wk_seq ?_
    refine wk_region [0, 1] rfl (by kernel_rfl) ?_
    simp only [List.zip_cons_cons, List.zip_nil_right]
    refine rg_move ?_
    simp only [Act.put, Act.eval, List.setIfInBounds_toArray, List.set_cons_zero, List.set_cons_succ, Array.getD_eq_getD_getElem?, List.getElem?_toArray, List.getElem?_cons_zero, List.getElem?_cons_succ, Option.getD_some]
    apply rg_made (T := fun v u => ∃ gp, v = .func (.func 112) #[] #[.pointer (some ⟨gp, 0, none⟩)] ∧ u = [(gp, .cells #[slV a xs.length c] 22)]) (by rfl) (by kernel_rfl)
    case hargs => (simp only [List.map_toArray, List.map_cons, List.map_nil, Act.eval, Array.getD_eq_getD_getElem?, List.getElem?_toArray, List.getElem?_cons_zero, List.getElem?_cons_succ, Option.getD_some]; exact rfl)
    case h => exact fun w hw => (exchanges_any xs a c w).mono (fun e w' ⟨gp, he, hm⟩ => ⟨_, _, he, ⟨gp, rfl, rfl⟩, hm⟩)
    case hz => exact (fun _ h => by cases h)
    rintro v1 u1 ⟨gp, rfl, rfl⟩
    simp only [List.cons_append, List.nil_append]
    simp only [Act.put, Act.eval, List.setIfInBounds_toArray, List.set_cons_zero, List.set_cons_succ, Array.getD_eq_getD_getElem?, List.getElem?_toArray, List.getElem?_cons_zero, List.getElem?_cons_succ, Option.getD_some]
    refine rg_nil ?_
    refine ek_next ?_
    refine wk_block ?_
    refine wk_rangeFunc (f := 112) (caps := #[.pointer (some ⟨gp, 0, none⟩)]) rfl (by kernel_rfl) ?_
    intro fn dd lp w1 K1
    obtain ⟨r, hr⟩ := ex_loop K1
    rw [← hr] at K1
    have K2 := K1.perm (s' := [_, _, _, _]) (List.Perm.cons _ ((List.perm_append_comm (l₁ := [_]) (l₂ := [_, _])).trans (List.Perm.swap _ _ _)))
    have K3 := Kn.self (v := [_, _, _]) (rest := [_]) K2
    have hR : Rounds lp r (fun ys s => ∃ u v, s = (lp, .loop r) :: (g1, .cells #[v] 32) :: u ∧ OwnT u v (ys.map cross)) := by
      subst hr
      refine ⟨rfl, fun ys s ⟨u, v, e, _⟩ => by subst e; simp, ?_⟩
      intro R B F ys k s rest w hk hy ⟨uT, vT, hs, hO⟩ K
      subst hs
      simp only [List.cons_append, List.nil_append] at K
      obtain ⟨an, cn, rfl, hcn⟩ := Own.val hO
      simp only [List.length_map] at hO K
      refine roundIn_kn (Rep.here _) rfl ?_ K
      simp only [fold_zip1]
      simp only [Act.put, Act.eval, List.setIfInBounds_toArray, List.set_cons_zero, List.set_cons_succ, Array.getD_eq_getD_getElem?, List.getElem?_toArray, List.getElem?_cons_zero, List.getElem?_cons_succ, Option.getD_some]
      refine wk_region [0] rfl (by kernel_rfl) ?_
      simp only [List.zip_cons_cons, List.zip_nil_right]
      refine rg_assign ?_
      simp only [Act.put, Act.eval, List.setIfInBounds_toArray, List.set_cons_zero, List.set_cons_succ, Array.getD_eq_getD_getElem?, List.getElem?_toArray, List.getElem?_cons_zero, List.getElem?_cons_succ, Option.getD_some]
      refine rg_nil ?_
      refine ek_asg ?_
      refine wk_block ?_
      refine wk_region [0, 0, 0, 0, 1, 1, 1] rfl (by kernel_rfl) ?_
      simp only [List.zip_cons_cons, List.zip_nil_right]
      apply rg_soft
      case hy => (intro w hw; obtain ⟨hcg1, hfg1⟩ := (Kn.hd0 (Kn.tl hw)).facts; go_simp; (try go_bits); exact Yld.mk _ _)
      simp only [Act.put, Act.eval, List.setIfInBounds_toArray, List.set_cons_zero, List.set_cons_succ, Array.getD_eq_getD_getElem?, List.getElem?_toArray, List.getElem?_cons_zero, List.getElem?_cons_succ, Option.getD_some]
      refine rg_move ?_
      simp only [Act.put, Act.eval, List.setIfInBounds_toArray, List.set_cons_zero, List.set_cons_succ, Array.getD_eq_getD_getElem?, List.getElem?_toArray, List.getElem?_cons_zero, List.getElem?_cons_succ, Option.getD_some]
      apply rg_soft
      case hy => (intro w hw; go_simp; (try go_bits); exact Yld.mk _ _)
      simp only [Act.put, Act.eval, List.setIfInBounds_toArray, List.set_cons_zero, List.set_cons_succ, Array.getD_eq_getD_getElem?, List.getElem?_toArray, List.getElem?_cons_zero, List.getElem?_cons_succ, Option.getD_some]
      apply rg_soft
      case hy => (intro w hw; go_simp; (try go_bits); exact Yld.mk _ _)
      simp only [Act.put, Act.eval, List.setIfInBounds_toArray, List.set_cons_zero, List.set_cons_succ, Array.getD_eq_getD_getElem?, List.getElem?_toArray, List.getElem?_cons_zero, List.getElem?_cons_succ, Option.getD_some]
      refine rg_newS (cs := ?_) (ty := ?_) (n := 1) (c := 1) (by rfl) (fun w => ?_) (fun _ h => by cases h) (fun g2 => ?_); rotate_left 2
      focus (go_simp; rfl)
      simp only [Act.put, Act.eval, List.setIfInBounds_toArray, List.set_cons_zero, List.set_cons_succ, Array.getD_eq_getD_getElem?, List.getElem?_toArray, List.getElem?_cons_zero, List.getElem?_cons_succ, Option.getD_some]
      refine rg_appendT3 (cross k) (by rfl) rfl hO rfl (by simp; omega) (fun u2 v2 hO2 => ?_)
      obtain ⟨a2, c2, rfl, hc2⟩ := Own.val hO2
      simp only [List.length_append, List.length_map, List.length_cons, List.length_nil, Nat.zero_add] at hO2 ⊢
      simp only [Act.put, Act.eval, List.setIfInBounds_toArray, List.set_cons_zero, List.set_cons_succ, Array.getD_eq_getD_getElem?, List.getElem?_toArray, List.getElem?_cons_zero, List.getElem?_cons_succ, Option.getD_some]
      apply rg_store
      case hr => (intro w hw; obtain ⟨hcg1, hfg1⟩ := (Kn.hd0 (Kn.tl (Kn.tlU hw))).facts; refine ⟨_, by (go_simp; (try go_bits); exact Dne.mk _), ?_⟩; repeat (first | with_reducible exact hw | with_reducible apply Kn.put (Upd.app _ (Upd.there _ (Upd.here _ _ _)))))
      case hz => (intro z hz; cases hz)
      simp only [Act.put, Act.eval, List.setIfInBounds_toArray, List.set_cons_zero, List.set_cons_succ, Array.getD_eq_getD_getElem?, List.getElem?_toArray, List.getElem?_cons_zero, List.getElem?_cons_succ, Option.getD_some]
      refine rg_nil ?_
      refine ek_block ?_
      refine ek_roundEnd (Rep.app _ (Rep.here _)) (fun w hw => ⟨_, rfl, ⟨u2, _, rfl, by rw [List.map_append]; exact hO2⟩, ?_⟩)
      exact hw.perm perm_two
    have hpend : r.pending = none := by subst hr; rfl
    have hst : r.state ≠ .busy := by (subst hr; simp)
    clear hr
    refine (exch_any xs a c hl hp lp gp r _ hR [_, _] ⟨[], _, rfl, OwnT.nil⟩ w1 _ K3 (hA.kn0 K1) (hA.fresh (ints_ne hp.1) K1 (by simp))).mono ?_
    rintro e w2 ⟨rfl, ys, l, _, u, hE, hdone, ⟨u1, v1, rfl, hO1⟩, hK⟩
    have K4 := Kn.effApp (v := [_, _, _]) (rest := [_]) K2 hK
    refine ⟨_, _, r, _, rfl, K4, Rep.here _, hst, ?_⟩
    rw [hpend]
    simp only [List.cons_append, List.nil_append]
    refine ek_assoc3 ?_
    refine ek_block ?_
    refine ek_next ?_
    refine wk_seq ?_
    refine wk_region [0, 0, 0] rfl (by kernel_rfl) ?_
    simp only [List.zip_cons_cons, List.zip_nil_right]
    apply rg_soft
    case hy => (intro w hw; obtain ⟨hcg1, hfg1⟩ := (Kn.hd0 (Kn.tl hw)).facts; go_simp; (try go_bits); exact Yld.mk _ _)
    simp only [Act.put, Act.eval, List.setIfInBounds_toArray, List.set_cons_zero, List.set_cons_succ, Array.getD_eq_getD_getElem?, List.getElem?_toArray, List.getElem?_cons_zero, List.getElem?_cons_succ, Option.getD_some]
    refine rg_assign ?_
    simp only [Act.put, Act.eval, List.setIfInBounds_toArray, List.set_cons_zero, List.set_cons_succ, Array.getD_eq_getD_getElem?, List.getElem?_toArray, List.getElem?_cons_zero, List.getElem?_cons_succ, Option.getD_some]
    refine rg_assign ?_
    simp only [Act.put, Act.eval, List.setIfInBounds_toArray, List.set_cons_zero, List.set_cons_succ, Array.getD_eq_getD_getElem?, List.getElem?_toArray, List.getElem?_cons_zero, List.getElem?_cons_succ, Option.getD_some]
    refine rg_nil ?_
    refine ek_next ?_
    refine wk_ret ?_
    refine ek_retM1 (Rep.there _ (Rep.there _ (Rep.app _ (Rep.app _ (Rep.here _))))) (fun w hw => ⟨_, res_tt _ _ rfl, ?_⟩)
    (try simp only [Act.put, Act.eval, List.setIfInBounds_toArray, List.set_cons_zero, List.set_cons_succ, Array.getD_eq_getD_getElem?, List.getElem?_toArray, List.getElem?_cons_zero, List.getElem?_cons_succ, Option.getD_some])
    exact ⟨v1, u1, ys.map cross, rfl, hO1, ⟨ys, l, hE, hdone, rfl⟩, hw.made (List.Sublist.cons _ (List.Sublist.cons _ (List.sublist_append_left _ _)))⟩
  · (try simp only [decide_eq_true_eq, decide_eq_false_iff_not, Int.not_lt, Int.not_le, beq_iff_eq, beq_eq_false_iff_ne, bne_iff_ne, bne_eq_false_iff_eq, ne_eq, Bool.not_eq_true', Bool.not_eq_false'] at h1)
    simp only [Act.put, Act.eval, List.setIfInBounds_toArray, List.set_cons_zero, List.set_cons_succ, Array.getD_eq_getD_getElem?, List.getElem?_toArray, List.getElem?_cons_zero, List.getElem?_cons_succ, Option.getD_some]
    exfalso; omega

end Go.Proofs.Ytccbinnlnkpplaa
