/- Lists of whole numbers that the call owns, lists of such lists; iterators that yield them; ends of functions that hold many ranges over functions. -/
import Derived.Test.YtjeijnjaleldkaaSq
import Derived.Test.YtjeijnjaleldkaaRtR
import Derived.Test.YtjeijnjaleldkaaMg
import Derived.Test.YtjeijnjaleldkaaMtPl
namespace Go.Proofs.Ytjeijnjaleldkaa
set_option linter.all false
open Go.RowKit

abbrev zs (xs : List Int) : List Value := xs.map (.int .i64 ·)
theorem zInfo : (Try.prog.info? 3).map (fun i => (i.zero, i.size, i.bytes)) = some (some (.int .i64 0), 1, 8) := by kernel_rfl
theorem sInfo : (Try.prog.info? 37).map (fun i => (i.zero, i.size, i.bytes)) = some (some (.slice none 0 0), 1, 24) := by kernel_rfl
def OwnZ (u : List Blk) (v : Value) (xs : List Int) : Prop := Own 3 1 u v xs.length (zs xs)
theorem OwnZ.one {g : Nat} (x : Int) : OwnZ [(g, .cells #[.int .i64 x] 3)] (.slice (some ⟨g, 0, none⟩) 1 1) [x] :=
  Own.whole (cur := #[.int .i64 x]) rfl (by simp only [maxLen]; omega)
theorem OwnZ.addr {u : List Blk} {av : Option Addr} {n c : Nat} {row : List Int} (h : OwnZ u (.slice av n c) row) (hn : 0 < row.length) : ∃ ad, av = some ad ∧ ∀ {B w : World} {F : List Nat} {s : List Blk}, Kn B F s w → u.Sublist s → AS w (some ad) (zs row) := by
  rcases h.2 with ⟨_, e, h0⟩ | ⟨g, cap, cur, _, e, _⟩
  · omega
  · cases e
    refine ⟨_, rfl, fun K hs => ?_⟩
    obtain ⟨a, cap, e, hA⟩ := Own.as (s := []) h (by rw [List.append_nil]; exact K.sub hs)
    cases e
    exact hA
/-- Rows that lie in blocks of their own; hs: the slices. -/
inductive RowsZ : List Blk → List Value → List (List Int) → Prop
  | nil : RowsZ [] [] []
  | snoc {us : List Blk} {hs : List Value} {rows : List (List Int)} {u : List Blk} {h : Value} {row : List Int} : RowsZ us hs rows → OwnZ u h row → RowsZ (u ++ us) (hs ++ [h]) (rows ++ [row])
theorem RowsZ.len {us : List Blk} {hs : List Value} {rows : List (List Int)} (h : RowsZ us hs rows) : hs.length = rows.length := by
  induction h with
  | nil => rfl
  | snoc _ _ ih => simp [ih]
theorem RowsZ.cells {us : List Blk} {hs : List Value} {rows : List (List Int)} (h : RowsZ us hs rows) : ∀ v ∈ hs, v.oneCell' = true := by
  induction h with
  | nil => intro v hv; simp at hv
  | snoc _ hO ih =>
    intro v hv
    rcases List.mem_append.1 hv with hv | hv
    · exact ih v hv
    · obtain ⟨a, c, e, _⟩ := Own.val hO
      simp at hv
      rw [hv, e]
      rfl
/-- A row is there. -/
theorem RowsZ.as {us : List Blk} {hs : List Value} {rows : List (List Int)} (h : RowsZ us hs rows) : ∀ {B w : World} {F : List Nat} {s : List Blk}, Kn B F s w → us.Sublist s → ∀ k, k < rows.length → ∃ a c, hs[k]? = some (.slice a (rows.getD k []).length c) ∧ AS w a (zs (rows.getD k [])) := by
  induction h with
  | nil => intro B w F s K hs k hk; simp at hk
  | @snoc us hs rows u h row h0 hO ih =>
    intro B w F s K hsub k hk
    have hl := h0.len
    rcases (by simp at hk; omega : k < rows.length ∨ k = rows.length) with hk | rfl
    · obtain ⟨a, c, h1, h2⟩ := ih K ((List.sublist_append_right _ _).trans hsub) k hk
      have e : (rows ++ [row]).getD k [] = rows.getD k [] := by rw [List.getD_eq_getElem?_getD, List.getElem?_append_left hk, ← List.getD_eq_getElem?_getD]
      rw [e]
      exact ⟨a, c, by rw [List.getElem?_append_left Ox]; exact h1, h2⟩
    · have e : (rows ++ [row]).getD rows.length [] = row := by simp [List.getD_eq_getElem?_getD]
      rw [e]
      have K' := K.sub ((List.sublist_append_left u us).trans hsub)
      obtain ⟨a, c, e1, e2⟩ := Own.as (s := []) hO (by rw [List.append_nil]; exact K')
      refine ⟨a, c, ?_, e2⟩
      rw [List.getElem?_append_right Ox]
      simp [hl, e1]
theorem RowsZ.row {us : List Blk} {hs : List Value} {rows : List (List Int)} (h : RowsZ us hs rows) : ∀ k, k < rows.length → ∃ a c u, hs[k]? = some (.slice a (rows.getD k []).length c) ∧ OwnZ u (.slice a (rows.getD k []).length c) (rows.getD k []) ∧ u.Sublist us := by
  induction h with
  | nil => intro k hk; simp at hk
  | @snoc us hs rows u h row h0 hO ih =>
    intro k hk
    have hl := h0.len
    rcases (by simp at hk; omega : k < rows.length ∨ k = rows.length) with hk | rfl
    · obtain ⟨a, c, u', h1, h2, h3⟩ := ih k hk
      have e : (rows ++ [row]).getD k [] = rows.getD k [] := by rw [List.getD_eq_getElem?_getD, List.getElem?_append_left hk, ← List.getD_eq_getElem?_getD]
      rw [e]
      exact ⟨a, c, u', by rw [List.getElem?_append_left Ox]; exact h1, h2, h3.trans (List.sublist_append_right _ _)⟩
    · have e : (rows ++ [row]).getD rows.length [] = row := by simp [List.getD_eq_getElem?_getD]
      rw [e]
      obtain ⟨a, c, rfl, _⟩ := Own.val hO
      exact ⟨a, c, u, by rw [List.getElem?_append_right Ox]; simp [hl], hO, List.sublist_append_left _ _⟩
theorem Own.open1 {e n : Nat} {u : List Blk} {v : Value} {xs : List Value} (h : Own e 1 u v n xs) (hn : 0 < n) : ∃ g cap rest, u = [(g, .cells (xs ++ rest).toArray e)] ∧ v = .slice (some ⟨g, 0, none⟩) n cap ∧ xs.length = n := by
  obtain ⟨hl, ⟨rfl, rfl, h0⟩ | ⟨g, cap, cur, rfl, rfl, hc, hm, hs, ht⟩⟩ := h
  · omega
  · refine ⟨g, cap, cur.toList.drop (n * 1), ?_, rfl, by omega⟩
    rw [← ht, List.take_append_drop]
/-- A list of lists that the call owns. -/
def OwnL (U : List Blk) (v : Value) (rows : List (List Int)) : Prop := ∃ u us hs, U = u ++ us ∧ Own 37 1 u v rows.length hs ∧ RowsZ us hs rows
theorem OwnL.nil : OwnL [] (.slice none 0 0) [] := ⟨[], [], [], rfl, Own.nil _ _, .nil⟩
def RetL (w : World) (rows : List (List Int)) (c : Int) (e : Ending) (w' : World) : Prop := ∃ v U, e = .returned (.tuple #[v, .int .i64 c]) ∧ OwnL U v rows ∧ Made w U w'

/-- What a round of a loop over lists does: C says what the caller's blocks are when the lists ys have come. -/
def RoundsP (L M lp : Nat) (r : Loop) (C : List (List Int) → List Blk → Prop) : Prop :=
  r.params.size = 1 ∧ (∀ ys s, C ys s → (lp, Obj.loop r) ∈ s) ∧
  ∀ (R : Option Nat) (B : World) (F : List Nat) (ys : List (List Int)) (row : List Int) (u : List Blk) (v : Value) (s rest : List Blk) (w : World), 0 < row.length → row.length = M → ys.length < L → C ys s → OwnZ u v row → Kn B F (u ++ (s ++ rest)) w →
    RoundIn (FR R) 0 Try.prog lp r.fn ((r.params.zip #[v]).foldl (fun tmps (t, a) => tmps.setIfInBounds t a) r.tmps) r.assign r.body w
      (fun e w' => ∃ s', e = .returned (.bool true) ∧ C (ys ++ [row]) s' ∧ Kn B F (s' ++ rest) w')

section
variable {R : Option Nat} {ops : Array Oper} {Q : Exit → Act → World → Prop} {B : World} {F : List Nat} {s0 : Option (List Blk × List Blk)}
variable {l lst : List (Oper × Nat)} {a : Act} {s S : List Blk} {d : Option Tmp} {op : Op} {t : TypeId} {p : String} {af : Array Edge} {v : Value}
theorem rg_yieldP {C : List (List Int) → List Blk → Prop} {L M lp : Nat} {r : Loop} {ys : List (List Int)} {row : List Int} {u sC rest : List Blk} {fo : Operand} {cargs : Array Operand} {at_ : Array TypeId} {gd : Option (Nat × Bool)}
    (hR : RoundsP L M lp r C) (hC : C ys sC) (hl0 : 0 < row.length) (hl1 : row.length = M) (hy : ys.length < L) (hO : OwnZ u v row) (hp : S.Perm (u ++ (sC ++ rest)))
    (hg : Region.wanted ⟨d, .call ⟨.value fo, cargs, at_⟩, t, p, af, gd⟩ (yielded ops a.tmps) = true)
    (hf : a.eval fo = .func (.yield lp) #[] #[]) (hargs : cargs.map a.eval = #[v])
    (h : ∀ s', C (ys ++ [row]) s' → Rg R Try.prog ops Q B F none lst (a.put d (.bool true)) (s' ++ rest)) :
    Rg R Try.prog ops Q B F none ((⟨d, .call ⟨.value fo, cargs, at_⟩, t, p, af, gd⟩, 1) :: lst) a S := by
  refine rg_yield (r := r) hg hf hargs hR.1.symm (hp.mem_iff.2 (List.mem_append_right _ (List.mem_append_left _ (hR.2.1 ys sC hC)))) fun w K => ?_
  exact (hR.2.2 R B F ys row u v sC rest w hl0 hl1 hy hC hO (K.perm hp)).mono fun e w' ⟨s', he, hC', hK⟩ => ⟨_, _, he, hK, h s' hC'⟩
/-- append of a list to a list of one number. -/
theorem rg_consZ {so xo : Operand} {row : List Int} {g : Nat} {x : Int} {gd : Option (Nat × Bool)} (hg : Region.wanted ⟨d, .call ⟨.builtin .append, #[so, xo], #[37, 37]⟩, t, p, af, gd⟩ (yielded ops a.tmps) = true)
    (hs : a.eval so = .slice (some ⟨g, 0, none⟩) 1 1) {ad : Addr} {c : Nat} (hx : a.eval xo = .slice (some ad) row.length c) (hA : ∀ w, Kn B F S w → AS w (some ad) (zs row)) (hn : row.length ≤ 1000) (hne : 0 < row.length)
    (hp : S.Perm ((g, .cells #[.int .i64 x] 3) :: s)) (hzz : ∀ z ∈ s0, z.1.Sublist s)
    (h : ∀ u' a' c', OwnZ u' (.slice a' (row.length + 1) c') (x :: row) → Rg R Try.prog ops Q B F s0 l (a.put d (.slice a' (row.length + 1) c')) (u' ++ s)) :
    Rg R Try.prog ops Q B F s0 ((⟨d, .call ⟨.builtin .append, #[so, xo], #[37, 37]⟩, t, p, af, gd⟩, 1) :: l) a S := by
  obtain ⟨i, hi, hz, hsz, hb⟩ := info_partsN zInfo
  refine rg_append (u := [(g, .cells #[.int .i64 x] 3)]) (s := s) (i := i) (z := .int .i64 0) (size := 1) (bytes := 8) (n := 1) (m := row.length) (xs := [.int .i64 x]) (news := zs row) (ad := ad) hg
    Try.underlying37 hi hz hsz hb rfl (by decide) hs (Own.whole (cur := #[.int .i64 x]) rfl (by simp only [maxLen]; omega)) hx (by simp) ?_ (by simp [Value.oneCell']) (by simp only [maxLen]; omega) Ox hp hzz ?_
  · intro w K j y hj
    have hne' : zs row ≠ [] := by intro e; simp at e; subst e; simp at hne
    obtain ⟨b, off, e, _, hc⟩ := hA w K hne'
    cases e
    have hj' : j < (zs row).length := by
      rcases Nat.lt_or_ge j (zs row).length with h | h
      · exact h
      · rw [List.getElem?_eq_none h] at hj; cases hj
    have hq := hc j hj'
    have e1 : (⟨b, off, none⟩ : Addr).add j = ⟨b, off + j, none⟩ := Addr.add_mid ..
    rw [e1, hq, hj]
  · intro u' v' hO _
    obtain ⟨a', c', rfl, -⟩ := Own.val hO
    have e : 1 + row.length = row.length + 1 := by omega
    rw [e] at hO ⊢
    exact h u' a' c' hO
/-- append of a list to a list of lists. -/
theorem rg_appL {so xo : Operand} {u : List Blk} {hs : List Value} {n g : Nat} {h : Value} {gd : Option (Nat × Bool)} (hg : Region.wanted ⟨d, .call ⟨.builtin .append, #[so, xo], #[33, 33]⟩, t, p, af, gd⟩ (yielded ops a.tmps) = true)
    (hs0 : a.eval so = v) (hown : Own 37 1 u v n hs) (hx : a.eval xo = .slice (some ⟨g, 0, none⟩) 1 1) (hn : n ≤ 1000000) (h1 : h.oneCell' = true) (hp : S.Perm (u ++ s))
    (hnews : ∀ w, Kn B F S w → Hd w g 37 #[h]) (hzz : ∀ z ∈ s0, z.1.Sublist s)
    (k : ∀ u' a' c', Own 37 1 u' (.slice a' (n + 1) c') (n + 1) (hs ++ [h]) → Rg R Try.prog ops Q B F s0 l (a.put d (.slice a' (n + 1) c')) (u' ++ s)) :
    Rg R Try.prog ops Q B F s0 ((⟨d, .call ⟨.builtin .append, #[so, xo], #[33, 33]⟩, t, p, af, gd⟩, 1) :: l) a S := by
  obtain ⟨i, hi, hz, hsz, hb⟩ := info_partsN sInfo
  refine rg_append (u := u) (s := s) (i := i) (z := .slice none 0 0) (size := 1) (bytes := 24) (n := n) (m := 1) (c := 1) (xs := hs) (news := [h]) (ad := ⟨g, 0, none⟩) hg
    Try.underlying33 hi hz hsz hb rfl (by decide) hs0 hown hx Rx ?_ (by simpa using h1) (by simp only [maxLen]; omega) Ox hp hzz ?_
  · intro w K j y hj
    have hd := (hnews w K).cell
    match j, hj with
    | 0, hj => simp only [List.getElem?_cons_zero, Option.some.injEq] at hj; subst hj; exact hd 0
    | j + 1, hj => simp at hj
  · intro u' v' hO _
    obtain ⟨a', c', rfl, -⟩ := Own.val hO
    exact k u' a' c' hO
end

section
variable {R : Option Nat} {ops : Array Oper} {Q : Exit → Act → World → Prop} {B : World} {F : List Nat} {s0 : Option (List Blk × List Blk)}
variable {l : List (Oper × Nat)} {a : Act} {s S : List Blk} {d : Option Tmp} {op : Op} {t : TypeId} {p : String} {af : Array Edge} {v : Value}
/-- A call that hands back a list of lists. -/
theorem rg_retL {f : Nat} {cargs : Array Operand} {at_ : Array TypeId} {args : Array Value} {c : Int} {rows : List (List Int)} {P : Program} {gd : Option (Nat × Bool)} (hg : Region.wanted ⟨d, .call ⟨.value (.func f), cargs, at_⟩, t, p, af, gd⟩ (yielded ops a.tmps) = true) (hgo : isGo P f = true)
    (h : ∀ w, Kn B F s w → Calls P f args w (RetL w rows c)) (hargs : cargs.map a.eval = args)
    (hz : ∀ z ∈ s0, z.1.Sublist s) (k : ∀ (va : Option Addr) (vc : Nat) (u : List Blk), OwnL u (.slice va rows.length vc) rows → Rg R P ops Q B F s0 l (a.put d (.tuple #[.slice va rows.length vc, .int .i64 c])) (u ++ s)) :
    Rg R P ops Q B F s0 ((⟨d, .call ⟨.value (.func f), cargs, at_⟩, t, p, af, gd⟩, 1) :: l) a s :=
  rg_call hg hgo hargs fun w K => (h w K).mono fun e w' ⟨v, u, he, hO, hm⟩ => by
    obtain ⟨u1, us, hs, e1, hO1, hR1⟩ := hO
    obtain ⟨a', c', rfl, -⟩ := Own.val hO1
    exact ⟨_, u ++ s, he, K.add hm, fun z hz' => (hz z hz').trans (List.sublist_append_right _ _), k a' c' u ⟨u1, us, hs, e1, hO1, hR1⟩⟩
end

/-! ### Many marks -/
def marksD (ds : List Nat) : List Blk := ds.map fun d => (d, .deferred (some []))
def collD (ds : List Nat) : List Deferred := ds.map fun d => ⟨.collected d, #[]⟩
section
variable {R : Option Nat} {P : Program} {Q : Exit → Act → World → Prop} {B : World} {F : List Nat} {a : Act} {s : List Blk} {X : Ending → World → Prop}
theorem leaves_marks {fn : Func} {tmps : Array Value} (h : ∀ w, Kn B F s w → ∃ v, (results fn tmps).run P w = .ok v w ∧ X (.returned v) w) : ∀ (ds : List Nat) (w : World), Kn B F (marksD ds ++ s) w → LeavesInM (FR none) 0 P fn tmps X (collD ds) .returning w
  | [], w, K => h w K
  | d :: ds, w, K => ⟨by simp, .inl ⟨d, _, rfl, run_takeDeferred (K.own (d, .deferred (some [])) (by simp [marksD])), leaves_marks h ds _ ((K.rep (Rep.here _)).tl)⟩⟩
theorem ek_normMn {fn : Func} {tmps : Array Value} (ds : List Nat) (h : ∀ w, Kn B F s w → ∃ v, (results fn tmps).run P w = .ok v w ∧ X (.returned v) w) :
    Ek B F (bodyPostM (FR none) 0 P fn X) .normal ⟨tmps, collD ds⟩ (marksD ds ++ s) := fun w K => leaves_marks h ds w K
theorem ek_retMn {fn : Func} {tmps : Array Value} (ds : List Nat) (h : ∀ w, Kn B F s w → ∃ v, (results fn tmps).run P w = .ok v w ∧ X (.returned v) w) :
    Ek B F (bodyPostM (FR none) 0 P fn X) .ret ⟨tmps, collD ds⟩ (marksD ds ++ s) := fun w K => leaves_marks h ds w K
/-- A loop whose rounds defer. -/
def RelD (W : List Nat) (a0 : Act) (J : Nat → (Nat → Value) → List Deferred → List Blk → Prop) : Nat → Act → List Blk → Prop := fun n a s => ∃ f, a = ⟨(Act.putF a0 W f).tmps, a.defers⟩ ∧ J n f a.defers s
theorem wk_loopD {c : Code} (W : List Nat) (J : Nat → (Nat → Value) → List Deferred → List Blk → Prop) (n : Nat) (h0 : J n (Act.valF a) a.defers s) (ha : a = Act.putF a W (Act.valF a))
    (round : ∀ n f ds s, J n f ds s → Wk R P B F (Exit.then (Rnd B F (RelD W a J) n) Q) ⟨(Act.putF a W f).tmps, ds⟩ s c) : Wk R P B F Q a s (.loop c) :=
  wk_loop (RelD W a J) n ⟨_, ha, h0⟩ fun n a' s' h => by
    obtain ⟨f, ha', hJ⟩ := h
    rw [ha']
    exact round n f a'.defers s' hJ
theorem ek_roundD {W : List Nat} {a0 : Act} {J : Nat → (Nat → Value) → List Deferred → List Blk → Prop} {n : Nat} (m : Nat) (hm : m < n) (ha : a = ⟨(Act.putF a0 W (Act.valF a)).tmps, a.defers⟩) (h : J m (Act.valF a) a.defers s) :
    Ek B F (Exit.then (Rnd B F (RelD W a0 J) n) Q) .normal a s := ek_round m hm ⟨_, ha, h⟩
end
end Go.Proofs.Ytjeijnjaleldkaa
