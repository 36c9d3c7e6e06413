/- Lists of truth values that the call owns, lists of whole numbers that grow; calls that hand back two lists. -/
import Derived.Test.YtjeijnjaleldkaaPt0
import Derived.Test.YtjeijnjaleldkaaMoPl
import Derived.Test.YtjeijnjaleldkaaBgm
namespace Go.Proofs.Ytjeijnjaleldkaa
set_option linter.all false
open Go.RowKit

abbrev boL (l : List Bool) : List Value := l.map .bool
theorem boInf : (Try.prog.info? 4).map (fun i => (i.zero, i.size, i.bytes)) = some (some (.bool false), 1, 1) := by kernel_rfl
theorem made_boL (n : Nat) : madeCells #[Value.bool false] n = (boL (List.replicate n false)).toArray := by
  unfold madeCells
  apply Array.ext'
  simp only [Array.toList_map, Array.toList_range]
  apply List.ext_getElem
  · simp
  · intro i h1 h2
    simp [Nat.mod_one]
theorem boL_cell {w : World} {g e : Nat} {l : List Bool} (h : Hd w g e (boL l).toArray) {i : Nat} (hi : i < l.length) : w.cell? ⟨g, i, none⟩ = some (.bool (bx l i)) := by
  rw [h.cell]
  simp [bx, hi]
theorem set_boL (l : List Bool) (i : Nat) (x : Bool) : (boL l).toArray.setIfInBounds i (.bool x) = (boL (l.set i x)).toArray := by
  simp [List.map_set]
theorem OwnZ.nil : OwnZ [] (.slice none 0 0) [] := Own.nil _ _
theorem res_tttt {P : Program} {fn : Func} {tmps : Array Value} {w : World} (k j i m : Nat) (h : fn.results = #[.tmp k, .tmp j, .tmp i, .tmp m]) : (results fn tmps).run P w = .ok (.tuple #[tmps.getD k undef, tmps.getD j undef, tmps.getD i undef, tmps.getD m undef]) w := by
  simp [results, h]
/-- Two lists, whether, and an error. -/
def RetMo (w : World) (p t : List Int) (ok : Bool) (c : Int) (e : Ending) (w' : World) : Prop :=
  ∃ v1 v2 u1 u2, e = .returned (.tuple #[v1, v2, .bool ok, .int .i64 c]) ∧ OwnZ u1 v1 p ∧ OwnZ u2 v2 t ∧ Made w (u1 ++ u2) w'
section
variable {R : Option Nat} {ops : Array Oper} {Q : Exit → Act → World → Prop} {B : World} {F : List Nat} {s0 : Option (List Blk × List Blk)}
variable {l : List (Oper × Nat)} {a : Act} {s S : List Blk} {d : Option Tmp} {op : Op} {t : TypeId} {p : String} {af : Array Edge} {v : Value}
theorem rg_makeB {lo co : Operand} {n : Nat} {gd : Option (Nat × Bool)} (hg : Region.wanted ⟨d, .makeSlice 100 lo co, t, p, af, gd⟩ (yielded ops a.tmps) = true) (hl : a.eval lo = .int .i64 n) (hc : a.eval co = .int .i64 n) (hn : n ≤ 1000000)
    (hzz : ∀ z ∈ s0, z.1.Sublist s) (h : ∀ g, Rg R Try.prog ops Q B F s0 l (a.put d (.slice (some ⟨g, 0, none⟩) n n)) ((g, .cells (boL (List.replicate n false)).toArray 4) :: s)) :
    Rg R Try.prog ops Q B F s0 ((⟨d, .makeSlice 100 lo co, t, p, af, gd⟩, 1) :: l) a s := by
  obtain ⟨i, hi, hz, hs, hb⟩ := info_partsN boInf
  refine rg_make (i := i) (z := .bool false) (n := n) hg Try.underlying100 hi hz hl hc (by rw [hb]; omega) (by omega) hzz fun g => ?_
  have : madeCells (Value.bool false).cells (n * i.size) = (boL (List.replicate n false)).toArray := by rw [hs, Nat.mul_one]; exact made_boL n
  rw [this]
  exact h g
theorem rg_appZ {so xo : Operand} {u S : List Blk} {xs : List Int} {g1 : Nat} {x : Int} {gd : Option (Nat × Bool)} (hg : Region.wanted ⟨d, .call ⟨.builtin .append, #[so, xo], #[37, 37]⟩, t, p, af, gd⟩ (yielded ops a.tmps) = true) (hs : a.eval so = v) (hown : OwnZ u v xs) (hx : a.eval xo = .slice (some ⟨g1, 0, none⟩) 1 1) (hn : xs.length ≤ 1000000)
    (hp : S.Perm (u ++ ((g1, .cells #[.int .i64 x] 3) :: s)))
    (hzz : ∀ z ∈ s0, z.1.Sublist s) (h : ∀ u' a' c', OwnZ u' (.slice a' (xs ++ [x]).length c') (xs ++ [x]) → Rg R Try.prog ops Q B F s0 l (a.put d (.slice a' (xs ++ [x]).length c')) (u' ++ s)) :
    Rg R Try.prog ops Q B F s0 ((⟨d, .call ⟨.builtin .append, #[so, xo], #[37, 37]⟩, t, p, af, gd⟩, 1) :: l) a S := by
  obtain ⟨i, hi, hz, hsz, hb⟩ := info_partsN zInfo
  refine rg_append (u := u) (s := (g1, .cells #[.int .i64 x] 3) :: s) (i := i) (z := .int .i64 0) (size := 1) (bytes := 8) (n := xs.length) (m := 1) (c := 1) (xs := zs xs) (news := [.int .i64 x]) (ad := ⟨g1, 0, none⟩) hg
    Try.underlying37 hi hz hsz hb rfl (by decide) hs hown hx (by rfl) ?_ (by simp [Value.oneCell']) (by simp only [maxLen]; omega) (by omega) hp (fun z hz => (hzz z hz).cons _) ?_
  · intro w K j y hj
    have hd := (Kn.hd0 (Kn.perm K (hp.trans List.perm_middle))).cell
    match j, hj with
    | 0, hj => simp only [List.getElem?_cons_zero, Option.some.injEq] at hj; subst hj; exact hd 0
    | j + 1, hj => simp at hj
  · intro u' v' hO _
    have hO' : OwnZ u' v' (xs ++ [x]) := by
      have e : zs (xs ++ [x]) = zs xs ++ [.int .i64 x] := by simp
      unfold OwnZ
      rw [e, List.length_append]
      exact hO
    obtain ⟨a', c', rfl, -⟩ := Own.val hO'
    have := h u' a' c' hO'
    exact rg_sub (List.Sublist.append_left (List.Sublist.cons _ (List.Sublist.refl _)) _) (fun z hz' => (hzz z hz').trans (List.sublist_append_right _ _)) this
theorem rf_storeB {s' : List Blk} {x y : Operand} {g i : Nat} {zs : List Bool} {z : Bool} (hx : a.eval x = .pointer (some ⟨g, i, none⟩)) (hy : a.eval y = .bool z) (hi : i < zs.length)
    (hr : Rep g (.cells (boL zs).toArray 4) (.cells (boL (zs.set i z)).toArray 4) s s') (hz : ∀ z ∈ s0, z.1.Sublist s') (h : Rg R Try.prog ops Q B F s0 l (a.put d undef) s') :
    Rg R Try.prog ops Q B F s0 ((⟨d, .store 4 x y, t, p, af, none⟩, 1) :: l) a s := by
  rw [← set_boL] at hr
  refine rg_store (fun w K => ⟨w.setCell ⟨g, i, none⟩ (.bool z), ?_, K.set hr.toUpd⟩) hz h
  exact run_store1 hx hy (by kernel_rfl) rfl rfl (there_of (K.hd hr.mem) (by simp; omega))
/-- A call that hands back two lists. -/
theorem rg_retMo {f : Nat} {cargs : Array Operand} {at_ : Array TypeId} {args : Array Value} {c : Int} {ok : Bool} {xp xt : List Int} {P : Program} {gd : Option (Nat × Bool)} (hg : Region.wanted ⟨d, .call ⟨.value (.func f), cargs, at_⟩, t, p, af, gd⟩ (yielded ops a.tmps) = true) (hgo : isGo P f = true)
    (h : ∀ w, Kn B F s w → Calls P f args w (RetMo w xp xt ok c)) (hargs : cargs.map a.eval = args)
    (hz : ∀ z ∈ s0, z.1.Sublist s) (k : ∀ (va vb : Option Addr) (vc vd : Nat) (u1 u2 : List Blk), OwnZ u1 (.slice va xp.length vc) xp → OwnZ u2 (.slice vb xt.length vd) xt → Rg R P ops Q B F s0 l (a.put d (.tuple #[.slice va xp.length vc, .slice vb xt.length vd, .bool ok, .int .i64 c])) (u1 ++ (u2 ++ s))) :
    Rg R P ops Q B F s0 ((⟨d, .call ⟨.value (.func f), cargs, at_⟩, t, p, af, gd⟩, 1) :: l) a s :=
  rg_call hg hgo hargs fun w K => (h w K).mono fun e w' ⟨v1, v2, u1, u2, he, hO1, hO2, hm⟩ => by
    obtain ⟨a', c', rfl, -⟩ := Own.val hO1
    obtain ⟨b', d', rfl, -⟩ := Own.val hO2
    refine ⟨_, u1 ++ (u2 ++ s), he, ?_, fun z hz' => (hz z hz').trans (List.Sublist.trans (List.sublist_append_right _ _) (List.sublist_append_right _ _)), k a' b' c' d' u1 u2 hO1 hO2⟩
    have := K.add hm
    rwa [List.append_assoc] at this
end
end Go.Proofs.Ytjeijnjaleldkaa
